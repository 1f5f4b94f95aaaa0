/- The walks of the plain functions, part 2. Made by a program of mine. Conditions: none. -/
import Derived.Test.YtoobokgbmjbofaaGreatQ3W1
set_option linter.unusedVariables false
set_option linter.unusedSimpArgs false
set_option linter.defProp false
set_option maxRecDepth 4000
open Go Go.Proofs
namespace Go.Av
/-! 72: lattice/latticeref01.Of -/
def d72 : List (Nat × List Nat) := [(0, [2]), (0, []), (0, [0, 3, 4, 5, 6, 7, 8, 9, 10])]
def d72_at := And.intro (show d72.getD 0 (0, []) = (0, [2]) from rfl) <| And.intro (show d72.getD 1 (0, []) = (0, []) from rfl) <| (show d72.getD 2 (0, []) = (0, [0, 3, 4, 5, 6, 7, 8, 9, 10]) from rfl)
theorem i72 : finfo Tryz.prog 72 d72 = some ⟨bodyOf Tryz.f72, [.tmp 2], [98]⟩ := finfo_at Tryz.func72 rfl (by kernel_rfl) (by kernel_rfl)
def e72 : (List Int) → AV := fun r => .arr r.length (lm (ik .u32) r)
set_option maxHeartbeats 20000000 in
theorem w72 (cp : CallP) (fu : Nat) (x1 : Int) (H132_0 : ∀ (a0 : List Int) r, ref01_trim fu a0 = some r → cp 132 [.arr a0.length (lm (ik .u32) a0)] = some (.arr r.length (lm (ik .u32) r))) : J (go Tryz.prog noC cp noI 0 [] d72 fu (fin Tryz.prog [.tmp 2] [98]) (bodyOf Tryz.f72) (initE 0 [.v (.int .u64 x1)]) [] []) (ref01_Of fu x1) e72 := by
  unfold ref01_Of e72
  refine J.bind fun x2 h1 => ?_
  have e_h1 := H132_0 _ _ h1
  try simp only [NN, NT, LN] at e_h1
  refine J.some ?_
  simp (maxSteps := 20000000) (disch := first | assumption | decide | with_unfolding_all rfl | omega | (simp only [LN] <;> omega) | (simp only [RO, OF])) only [bodyOf, Tryz.f72, RR, RM, LN, TT, d72_at, ↓reduceIte, Nat.reduceEqDiff, Nat.reduceLT, Nat.reduceLeDiff, Nat.reduceAdd, Nat.reduceSub, Nat.reduceMul, Nat.reduceMod, Nat.reduceDiv, Nat.reduceBEq, RH, e_h1, FF, LN, NN, NT]
noncomputable def t72 (fu : Nat) : CallP := orE 132 (mkC (fun (t : List Int) => ([.arr t.length (lm (ik .u32) t)] : List AV)) (fun t => ref01_trim fu t) e132) (noP)
theorem t72_ok (fu : Nat) : CpOK Tryz.prog (t72 fu ) := orE_ok (noP_ok) (mkC_ok (fun t b h => ok132 fu t  b h))
theorem ok72 (fu : Nat) (x1 : Int) (r) (h : ref01_Of fu x1 = some r) : PureOK Tryz.prog 72 [.v (.int .u64 x1)] (e72 r) :=
  pure_J mixed (cp := t72 fu ) (t72_ok fu  ) noI_ok i72 (w72 _ fu x1  (fun a0 r h => orE_hit (mkC_at (a := a0) (by intro a b h; first | (exact rfl) | (simp only [INJ, IJ] at h; first | exact h | (simp_all [Prod.ext_iff]) )) h))) h
/-! 77: lattice/latticeref01.Twice -/
def d77 : List (Nat × List Nat) := [(0, [4]), (0, [6]), (0, [1000005]), (0, []), (0, []), (0, [0, 1, 8]), (0, [10, 11, 12]), (0, []), (0, [14, 15]), (0, []), (0, [16, 17, 18]), (0, []), (0, []), (0, []), (0, []), (0, []), (0, [19, 20, 21]), (0, []), (0, [23, 24]), (0, []), (0, [25, 26, 27, 28, 29, 30, 31, 32, 33, 34]), (0, []), (0, [35, 36, 37, 38, 39, 40]), (0, []), (0, [9, 41, 42]), (0, []), (0, [5, 7, 43, 44, 45, 46, 47, 48])]
def d77_at := And.intro (show d77.getD 0 (0, []) = (0, [4]) from rfl) <| And.intro (show d77.getD 1 (0, []) = (0, [6]) from rfl) <| And.intro (show d77.getD 2 (0, []) = (0, [1000005]) from rfl) <| And.intro (show d77.getD 3 (0, []) = (0, []) from rfl) <| And.intro (show d77.getD 4 (0, []) = (0, []) from rfl) <| And.intro (show d77.getD 5 (0, []) = (0, [0, 1, 8]) from rfl) <| And.intro (show d77.getD 6 (0, []) = (0, [10, 11, 12]) from rfl) <| And.intro (show d77.getD 7 (0, []) = (0, []) from rfl) <| And.intro (show d77.getD 8 (0, []) = (0, [14, 15]) from rfl) <| And.intro (show d77.getD 9 (0, []) = (0, []) from rfl) <| And.intro (show d77.getD 10 (0, []) = (0, [16, 17, 18]) from rfl) <| And.intro (show d77.getD 11 (0, []) = (0, []) from rfl) <| And.intro (show d77.getD 12 (0, []) = (0, []) from rfl) <| And.intro (show d77.getD 13 (0, []) = (0, []) from rfl) <| And.intro (show d77.getD 14 (0, []) = (0, []) from rfl) <| And.intro (show d77.getD 15 (0, []) = (0, []) from rfl) <| And.intro (show d77.getD 16 (0, []) = (0, [19, 20, 21]) from rfl) <| And.intro (show d77.getD 17 (0, []) = (0, []) from rfl) <| And.intro (show d77.getD 18 (0, []) = (0, [23, 24]) from rfl) <| And.intro (show d77.getD 19 (0, []) = (0, []) from rfl) <| And.intro (show d77.getD 20 (0, []) = (0, [25, 26, 27, 28, 29, 30, 31, 32, 33, 34]) from rfl) <| And.intro (show d77.getD 21 (0, []) = (0, []) from rfl) <| And.intro (show d77.getD 22 (0, []) = (0, [35, 36, 37, 38, 39, 40]) from rfl) <| And.intro (show d77.getD 23 (0, []) = (0, []) from rfl) <| And.intro (show d77.getD 24 (0, []) = (0, [9, 41, 42]) from rfl) <| And.intro (show d77.getD 25 (0, []) = (0, []) from rfl) <| (show d77.getD 26 (0, []) = (0, [5, 7, 43, 44, 45, 46, 47, 48]) from rfl)
theorem i77 : finfo Tryz.prog 77 d77 = some ⟨bodyOf Tryz.f77, [.tmp 4], [98]⟩ := finfo_at Tryz.func77 rfl (by kernel_rfl) (by kernel_rfl)
def e77 : (List Int) → AV := fun r => .arr r.length (lm (ik .u32) r)
set_option maxHeartbeats 20000000 in
theorem w77 (cp : CallP) (fu : Nat) (x1 : List Int) (x2 : Int) (H132_0 : ∀ (a0 : List Int) r, ref01_trim fu a0 = some r → cp 132 [.arr a0.length (lm (ik .u32) a0)] = some (.arr r.length (lm (ik .u32) r))) : J (go Tryz.prog noC cp noI 0 [] d77 fu (fin Tryz.prog [.tmp 4] [98]) (bodyOf Tryz.f77) (initE 0 [.arr x1.length (lm (ik .u32) x1), .v (.int .i64 x2)]) [] []) (ref01_Twice fu x1 x2) e77 := by
  unfold ref01_Twice e77
  conv => arg 1; simp (maxSteps := 1000000) (disch := first | assumption | decide | with_unfolding_all rfl | omega | (simp only [LN] <;> omega) | (simp only [RO, OF])) only [bodyOf, Tryz.f77, RR, RM, LN, TT, d77_at, ↓reduceIte, Nat.reduceEqDiff, Nat.reduceLT, Nat.reduceLeDiff, Nat.reduceAdd, Nat.reduceSub, Nat.reduceMul, Nat.reduceMod, Nat.reduceDiv, Nat.reduceBEq, RH]
  refine J.joinS (fun (t : List Int) => ([(0, .arr x1.length (lm (ik .u32) x1)), (1, .v (.int .i64 x2)), (5, .own (0, 5, 77) 0 t.length t.length)], [((0, 5, 77), .sl true true 1 t.length (lm (ik .u32) t))])) (fun t => ref01_Twice_k1 fu x1 x2 t) ?_ (fun hj1 => ?_)
  · rintro x3
    show J _ (ref01_Twice_k1 fu x1 x2 x3) _
    unfold ref01_Twice_k1
    conv => arg 1; simp (maxSteps := 1000000) (disch := first | assumption | decide | with_unfolding_all rfl | omega | (simp only [LN] <;> omega) | (simp only [RO, OF])) only [RR, RM, LN, TT, d77_at, ↓reduceIte, Nat.reduceEqDiff, Nat.reduceLT, Nat.reduceLeDiff, Nat.reduceAdd, Nat.reduceSub, Nat.reduceMul, Nat.reduceMod, Nat.reduceDiv, Nat.reduceBEq, RH]
    refine J.joinS (fun (t : (List Int) × Int) => ([(5, .own (0, 5, 77) 0 t.1.length t.1.length), (7, .v (.int .u64 t.2))], [((0, 5, 77), .sl true true 1 t.1.length (lm (ik .u32) t.1))])) (fun t => ref01_Twice_k2 fu t.1 t.2) ?_ (fun hj2 => ?_)
    · rintro ⟨x4, x5⟩
      show J _ (ref01_Twice_k2 fu x4 x5) _
      unfold ref01_Twice_k2
      refine J.chk fun h1 => ?_
      refine J.bind fun x6 h2 => ?_
      have e_h2 := H132_0 _ _ h2
      try simp only [NN, NT, LN] at e_h2
      refine J.some ?_
      simp (maxSteps := 20000000) (disch := first | assumption | decide | with_unfolding_all rfl | omega | (simp only [LN] <;> omega) | (simp only [RO, OF])) only [RR, RM, LN, TT, d77_at, ↓reduceIte, Nat.reduceEqDiff, Nat.reduceLT, Nat.reduceLeDiff, Nat.reduceAdd, Nat.reduceSub, Nat.reduceMul, Nat.reduceMod, Nat.reduceDiv, Nat.reduceBEq, RH, e_h2, FF, LN, NN, NT]
    · conv => arg 1; simp (maxSteps := 1000000) (disch := first | assumption | decide | with_unfolding_all rfl | omega | (simp only [LN] <;> omega) | (simp only [RO, OF])) only [RR, RM, LN, TT, d77_at, ↓reduceIte, Nat.reduceEqDiff, Nat.reduceLT, Nat.reduceLeDiff, Nat.reduceAdd, Nat.reduceSub, Nat.reduceMul, Nat.reduceMod, Nat.reduceDiv, Nat.reduceBEq, RH]
      unfold ref01_Twice_W1
      refine J.loop (fun (s : (List Int) × Int × Int) => ([(0, .arr x1.length (lm (ik .u32) x1)), (1, .v (.int .i64 x2)), (5, .own (0, 5, 77) 0 s.1.length s.1.length), (7, .v (.int .u64 s.2.1)), (8, .v (.int .i64 s.2.2))], [((0, 5, 77), .sl true true 1 s.1.length (lm (ik .u32) s.1))])) (fun next s => ref01_Twice_L1 fu x1 x2 (fun x8 x9 x10 => next (x8, x9, x10)) s.1 s.2.1 s.2.2) (s0 := (x3, 0, 0)) ?_ ?_ ?_
      · first | rfl | (simp only [LN, NN, NT])
      · first | (simp (disch := first | assumption | decide | with_unfolding_all rfl | omega | (simp only [LN] <;> omega) | (simp only [RO, OF])) only [RR, ↓reduceIte, Nat.reduceEqDiff, Nat.reduceLT, Nat.reduceLeDiff, Nat.reduceAdd, Nat.reduceSub, Nat.reduceMul, Nat.reduceMod, Nat.reduceDiv, Nat.reduceBEq, LN, NN, NT]; done) | (simp (disch := first | assumption | decide | with_unfolding_all rfl | omega | (simp only [LN] <;> omega) | (simp only [RO, OF])) only [RR, ↓reduceIte, Nat.reduceEqDiff, Nat.reduceLT, Nat.reduceLeDiff, Nat.reduceAdd, Nat.reduceSub, Nat.reduceMul, Nat.reduceMod, Nat.reduceDiv, Nat.reduceBEq, LN, fm_app, NN, NT]; done) | rfl
      rintro next k1 hn1 ⟨x8, x9, x10⟩
      let nx1 : (List Int) → Int → Int → Option (List Int) := (fun x8 x9 x10 => next (x8, x9, x10))
      show J _ (ref01_Twice_L1 fu x1 x2 nx1 x8 x9 x10) _
      unfold ref01_Twice_L1
      refine J.eq go_seq ?_
      conv => arg 1; simp (maxSteps := 1000000) (disch := first | assumption | decide | with_unfolding_all rfl | omega | (simp only [LN] <;> omega) | (simp only [RO, OF])) only [RR, RM, LN, TT, d77_at, ↓reduceIte, Nat.reduceEqDiff, Nat.reduceLT, Nat.reduceLeDiff, Nat.reduceAdd, Nat.reduceSub, Nat.reduceMul, Nat.reduceMod, Nat.reduceDiv, Nat.reduceBEq, RH]
      refine J.ite (fun h3 => ?_) (fun h3 => ?_)
      · have h3' := decide_eq_true h3
        have h3'' : decide ((x1.length : Int) ≤ x10) = false := decide_eq_false (by omega)
        conv => arg 1; simp (maxSteps := 1000000) (disch := first | assumption | decide | with_unfolding_all rfl | omega | (simp only [LN] <;> omega) | (simp only [RO, OF])) only [RR, RM, LN, TT, d77_at, ↓reduceIte, Nat.reduceEqDiff, Nat.reduceLT, Nat.reduceLeDiff, Nat.reduceAdd, Nat.reduceSub, Nat.reduceMul, Nat.reduceMod, Nat.reduceDiv, Nat.reduceBEq, RH, h3'', h3']
        refine J.eq ret_seq ?_
        refine J.eq go_seq ?_
        refine J.at fun x12 h4 h5 h6 => ?_
        refine J.chk fun h7 => ?_
        refine J.chk fun h8 => ?_
        conv => arg 1; simp (maxSteps := 1000000) (disch := first | assumption | decide | with_unfolding_all rfl | omega | (simp only [LN] <;> omega) | (simp only [RO, OF])) only [RR, RM, LN, TT, d77_at, ↓reduceIte, Nat.reduceEqDiff, Nat.reduceLT, Nat.reduceLeDiff, Nat.reduceAdd, Nat.reduceSub, Nat.reduceMul, Nat.reduceMod, Nat.reduceDiv, Nat.reduceBEq, RH, h3'', h3', lm_ik h6]
        refine J.eq ret_seq ?_
        conv => arg 1; simp (maxSteps := 1000000) (disch := first | assumption | decide | with_unfolding_all rfl | omega | (simp only [LN] <;> omega) | (simp only [RO, OF])) only [RR, RM, LN, TT, d77_at, ↓reduceIte, Nat.reduceEqDiff, Nat.reduceLT, Nat.reduceLeDiff, Nat.reduceAdd, Nat.reduceSub, Nat.reduceMul, Nat.reduceMod, Nat.reduceDiv, Nat.reduceBEq, RH, h3'', h3', lm_ik h6]
        refine J.next (s := (x8 ++ ([wk .u32 (Int.tmod (wk .u64 ((shlk .u64 (wk .u64 x12) (Int.tmod x2 32)) + x9)) 4294967296)]), wk .u64 (Int.tdiv (wk .u64 ((shlk .u64 (wk .u64 x12) (Int.tmod x2 32)) + x9)) 4294967296), wk .i64 (x10 + 1))) hn1 ?_ ?_
        · first | rfl | (simp only [LN, NN, NT])
        · first | (simp (disch := first | assumption | decide | with_unfolding_all rfl | omega | (simp only [LN] <;> omega) | (simp only [RO, OF])) only [RR, ↓reduceIte, Nat.reduceEqDiff, Nat.reduceLT, Nat.reduceLeDiff, Nat.reduceAdd, Nat.reduceSub, Nat.reduceMul, Nat.reduceMod, Nat.reduceDiv, Nat.reduceBEq, LN, NN, NT]; done) | (simp (disch := first | assumption | decide | with_unfolding_all rfl | omega | (simp only [LN] <;> omega) | (simp only [RO, OF])) only [RR, ↓reduceIte, Nat.reduceEqDiff, Nat.reduceLT, Nat.reduceLeDiff, Nat.reduceAdd, Nat.reduceSub, Nat.reduceMul, Nat.reduceMod, Nat.reduceDiv, Nat.reduceBEq, LN, fm_app, NN, NT]; done) | rfl
      · have h3' := decide_eq_false h3
        have h3'' : decide ((x1.length : Int) ≤ x10) = true := decide_eq_true (by omega)
        conv => arg 1; simp (maxSteps := 1000000) (disch := first | assumption | decide | with_unfolding_all rfl | omega | (simp only [LN] <;> omega) | (simp only [RO, OF])) only [RR, RM, LN, TT, d77_at, ↓reduceIte, Nat.reduceEqDiff, Nat.reduceLT, Nat.reduceLeDiff, Nat.reduceAdd, Nat.reduceSub, Nat.reduceMul, Nat.reduceMod, Nat.reduceDiv, Nat.reduceBEq, RH, h3'', h3']
        refine J.jmp (t := (x8, x9)) hj2 ?_ ?_
        · first | rfl | (simp only [LN, NN, NT])
        · first | (simp (disch := first | assumption | decide | with_unfolding_all rfl | omega | (simp only [LN] <;> omega) | (simp only [RO, OF])) only [RR, ↓reduceIte, Nat.reduceEqDiff, Nat.reduceLT, Nat.reduceLeDiff, Nat.reduceAdd, Nat.reduceSub, Nat.reduceMul, Nat.reduceMod, Nat.reduceDiv, Nat.reduceBEq, LN, NN, NT]; done) | (simp (disch := first | assumption | decide | with_unfolding_all rfl | omega | (simp only [LN] <;> omega) | (simp only [RO, OF])) only [RR, ↓reduceIte, Nat.reduceEqDiff, Nat.reduceLT, Nat.reduceLeDiff, Nat.reduceAdd, Nat.reduceSub, Nat.reduceMul, Nat.reduceMod, Nat.reduceDiv, Nat.reduceBEq, LN, fm_app, NN, NT]; done) | rfl
  · conv => arg 1; simp (maxSteps := 1000000) (disch := first | assumption | decide | with_unfolding_all rfl | omega | (simp only [LN] <;> omega) | (simp only [RO, OF])) only [RR, RM, LN, TT, d77_at, ↓reduceIte, Nat.reduceEqDiff, Nat.reduceLT, Nat.reduceLeDiff, Nat.reduceAdd, Nat.reduceSub, Nat.reduceMul, Nat.reduceMod, Nat.reduceDiv, Nat.reduceBEq, RH]
    unfold ref01_Twice_W2
    refine J.loop (fun (s : (List Int) × Int) => ([(0, .arr x1.length (lm (ik .u32) x1)), (1, .v (.int .i64 x2)), (5, .own (0, 5, 77) 0 s.1.length s.1.length), (6, .v (.int .i64 s.2))], [((0, 5, 77), .sl true true 1 s.1.length (lm (ik .u32) s.1))])) (fun next s => ref01_Twice_L2 fu x1 x2 (fun x13 x14 => next (x13, x14)) s.1 s.2) (s0 := (([] : List Int), 0)) ?_ ?_ ?_
    · first | rfl | (simp only [LN, NN, NT])
    · first | (simp (disch := first | assumption | decide | with_unfolding_all rfl | omega | (simp only [LN] <;> omega) | (simp only [RO, OF])) only [RR, ↓reduceIte, Nat.reduceEqDiff, Nat.reduceLT, Nat.reduceLeDiff, Nat.reduceAdd, Nat.reduceSub, Nat.reduceMul, Nat.reduceMod, Nat.reduceDiv, Nat.reduceBEq, LN, NN, NT]; done) | (simp (disch := first | assumption | decide | with_unfolding_all rfl | omega | (simp only [LN] <;> omega) | (simp only [RO, OF])) only [RR, ↓reduceIte, Nat.reduceEqDiff, Nat.reduceLT, Nat.reduceLeDiff, Nat.reduceAdd, Nat.reduceSub, Nat.reduceMul, Nat.reduceMod, Nat.reduceDiv, Nat.reduceBEq, LN, fm_app, NN, NT]; done) | rfl
    rintro next k2 hn2 ⟨x13, x14⟩
    let nx2 : (List Int) → Int → Option (List Int) := (fun x13 x14 => next (x13, x14))
    show J _ (ref01_Twice_L2 fu x1 x2 nx2 x13 x14) _
    unfold ref01_Twice_L2
    refine J.eq go_seq ?_
    conv => arg 1; simp (maxSteps := 1000000) (disch := first | assumption | decide | with_unfolding_all rfl | omega | (simp only [LN] <;> omega) | (simp only [RO, OF])) only [RR, RM, LN, TT, d77_at, ↓reduceIte, Nat.reduceEqDiff, Nat.reduceLT, Nat.reduceLeDiff, Nat.reduceAdd, Nat.reduceSub, Nat.reduceMul, Nat.reduceMod, Nat.reduceDiv, Nat.reduceBEq, RH]
    refine J.ite (fun h9 => ?_) (fun h9 => ?_)
    · have h9' := decide_eq_true h9
      have h9'' : decide ((wk .i64 (Int.tdiv x2 32)) ≤ x14) = false := decide_eq_false (by omega)
      conv => arg 1; simp (maxSteps := 1000000) (disch := first | assumption | decide | with_unfolding_all rfl | omega | (simp only [LN] <;> omega) | (simp only [RO, OF])) only [RR, RM, LN, TT, d77_at, ↓reduceIte, Nat.reduceEqDiff, Nat.reduceLT, Nat.reduceLeDiff, Nat.reduceAdd, Nat.reduceSub, Nat.reduceMul, Nat.reduceMod, Nat.reduceDiv, Nat.reduceBEq, RH, h9'', h9']
      refine J.eq ret_seq ?_
      refine J.eq go_seq ?_
      refine J.chk fun h10 => ?_
      conv => arg 1; simp (maxSteps := 1000000) (disch := first | assumption | decide | with_unfolding_all rfl | omega | (simp only [LN] <;> omega) | (simp only [RO, OF])) only [RR, RM, LN, TT, d77_at, ↓reduceIte, Nat.reduceEqDiff, Nat.reduceLT, Nat.reduceLeDiff, Nat.reduceAdd, Nat.reduceSub, Nat.reduceMul, Nat.reduceMod, Nat.reduceDiv, Nat.reduceBEq, RH, h9'', h9']
      refine J.eq ret_seq ?_
      conv => arg 1; simp (maxSteps := 1000000) (disch := first | assumption | decide | with_unfolding_all rfl | omega | (simp only [LN] <;> omega) | (simp only [RO, OF])) only [RR, RM, LN, TT, d77_at, ↓reduceIte, Nat.reduceEqDiff, Nat.reduceLT, Nat.reduceLeDiff, Nat.reduceAdd, Nat.reduceSub, Nat.reduceMul, Nat.reduceMod, Nat.reduceDiv, Nat.reduceBEq, RH, h9'', h9']
      refine J.next (s := (x13 ++ ([0]), wk .i64 (x14 + 1))) hn2 ?_ ?_
      · first | rfl | (simp only [LN, NN, NT])
      · first | (simp (disch := first | assumption | decide | with_unfolding_all rfl | omega | (simp only [LN] <;> omega) | (simp only [RO, OF])) only [RR, ↓reduceIte, Nat.reduceEqDiff, Nat.reduceLT, Nat.reduceLeDiff, Nat.reduceAdd, Nat.reduceSub, Nat.reduceMul, Nat.reduceMod, Nat.reduceDiv, Nat.reduceBEq, LN, NN, NT]; done) | (simp (disch := first | assumption | decide | with_unfolding_all rfl | omega | (simp only [LN] <;> omega) | (simp only [RO, OF])) only [RR, ↓reduceIte, Nat.reduceEqDiff, Nat.reduceLT, Nat.reduceLeDiff, Nat.reduceAdd, Nat.reduceSub, Nat.reduceMul, Nat.reduceMod, Nat.reduceDiv, Nat.reduceBEq, LN, fm_app, NN, NT]; done) | rfl
    · have h9' := decide_eq_false h9
      have h9'' : decide ((wk .i64 (Int.tdiv x2 32)) ≤ x14) = true := decide_eq_true (by omega)
      conv => arg 1; simp (maxSteps := 1000000) (disch := first | assumption | decide | with_unfolding_all rfl | omega | (simp only [LN] <;> omega) | (simp only [RO, OF])) only [RR, RM, LN, TT, d77_at, ↓reduceIte, Nat.reduceEqDiff, Nat.reduceLT, Nat.reduceLeDiff, Nat.reduceAdd, Nat.reduceSub, Nat.reduceMul, Nat.reduceMod, Nat.reduceDiv, Nat.reduceBEq, RH, h9'', h9']
      refine J.jmp (t := x13) hj1 ?_ ?_
      · first | rfl | (simp only [LN, NN, NT])
      · first | (simp (disch := first | assumption | decide | with_unfolding_all rfl | omega | (simp only [LN] <;> omega) | (simp only [RO, OF])) only [RR, ↓reduceIte, Nat.reduceEqDiff, Nat.reduceLT, Nat.reduceLeDiff, Nat.reduceAdd, Nat.reduceSub, Nat.reduceMul, Nat.reduceMod, Nat.reduceDiv, Nat.reduceBEq, LN, NN, NT]; done) | (simp (disch := first | assumption | decide | with_unfolding_all rfl | omega | (simp only [LN] <;> omega) | (simp only [RO, OF])) only [RR, ↓reduceIte, Nat.reduceEqDiff, Nat.reduceLT, Nat.reduceLeDiff, Nat.reduceAdd, Nat.reduceSub, Nat.reduceMul, Nat.reduceMod, Nat.reduceDiv, Nat.reduceBEq, LN, fm_app, NN, NT]; done) | rfl
noncomputable def t77 (fu : Nat) : CallP := orE 132 (mkC (fun (t : List Int) => ([.arr t.length (lm (ik .u32) t)] : List AV)) (fun t => ref01_trim fu t) e132) (noP)
theorem t77_ok (fu : Nat) : CpOK Tryz.prog (t77 fu ) := orE_ok (noP_ok) (mkC_ok (fun t b h => ok132 fu t  b h))
theorem ok77 (fu : Nat) (x1 : List Int) (x2 : Int) (r) (h : ref01_Twice fu x1 x2 = some r) : PureOK Tryz.prog 77 [.arr x1.length (lm (ik .u32) x1), .v (.int .i64 x2)] (e77 r) :=
  pure_J mixed (cp := t77 fu ) (t77_ok fu  ) noI_ok i77 (w77 _ fu x1 x2  (fun a0 r h => orE_hit (mkC_at (a := a0) (by intro a b h; first | (exact rfl) | (simp only [INJ, IJ] at h; first | exact h | (simp_all [Prod.ext_iff]) )) h))) h
/-! 68: lattice/latticeref01.Amount -/
def d68 : List (Nat × List Nat) := [(0, [2]), (0, []), (0, [5, 6, 7]), (0, []), (0, [0, 8, 9, 10]), (0, []), (0, [11]), (0, []), (0, [13, 14]), (0, []), (0, [3, 4, 15, 16, 17, 18, 19, 20])]
def d68_at := And.intro (show d68.getD 0 (0, []) = (0, [2]) from rfl) <| And.intro (show d68.getD 1 (0, []) = (0, []) from rfl) <| And.intro (show d68.getD 2 (0, []) = (0, [5, 6, 7]) from rfl) <| And.intro (show d68.getD 3 (0, []) = (0, []) from rfl) <| And.intro (show d68.getD 4 (0, []) = (0, [0, 8, 9, 10]) from rfl) <| And.intro (show d68.getD 5 (0, []) = (0, []) from rfl) <| And.intro (show d68.getD 6 (0, []) = (0, [11]) from rfl) <| And.intro (show d68.getD 7 (0, []) = (0, []) from rfl) <| And.intro (show d68.getD 8 (0, []) = (0, [13, 14]) from rfl) <| And.intro (show d68.getD 9 (0, []) = (0, []) from rfl) <| (show d68.getD 10 (0, []) = (0, [3, 4, 15, 16, 17, 18, 19, 20]) from rfl)
theorem i68 : finfo Tryz.prog 68 d68 = some ⟨bodyOf Tryz.f68, [.tmp 2], [98]⟩ := finfo_at Tryz.func68 rfl (by kernel_rfl) (by kernel_rfl)
def e68 : (List Int) → AV := fun r => .arr r.length (lm (ik .u32) r)
set_option maxHeartbeats 20000000 in
theorem w68 (cp : CallP) (fu : Nat) (x1 : Int) (H72_0 : ∀ (a0 : Int) r, ref01_Of fu a0 = some r → cp 72 [.v (.int .u64 a0)] = some (.arr r.length (lm (ik .u32) r))) (H77_0 : ∀ (a0 : List Int) (a1 : Int) r, ref01_Twice fu a0 a1 = some r → cp 77 [.arr a0.length (lm (ik .u32) a0), .v (.int .i64 a1)] = some (.arr r.length (lm (ik .u32) r))) : J (go Tryz.prog noC cp noI 0 [] d68 fu (fin Tryz.prog [.tmp 2] [98]) (bodyOf Tryz.f68) (initE 0 [.v (.int .u32 x1)]) [] []) (ref01_Amount fu x1) e68 := by
  unfold ref01_Amount e68
  conv => arg 1; simp (maxSteps := 1000000) (disch := first | assumption | decide | with_unfolding_all rfl | omega | (simp only [LN] <;> omega) | (simp only [RO, OF])) only [bodyOf, Tryz.f68, RR, RM, LN, TT, d68_at, ↓reduceIte, Nat.reduceEqDiff, Nat.reduceLT, Nat.reduceLeDiff, Nat.reduceAdd, Nat.reduceSub, Nat.reduceMul, Nat.reduceMod, Nat.reduceDiv, Nat.reduceBEq, RH]
  refine J.eq go_seq ?_
  conv => arg 1; simp (maxSteps := 1000000) (disch := first | assumption | decide | with_unfolding_all rfl | omega | (simp only [LN] <;> omega) | (simp only [RO, OF])) only [RR, RM, LN, TT, d68_at, ↓reduceIte, Nat.reduceEqDiff, Nat.reduceLT, Nat.reduceLeDiff, Nat.reduceAdd, Nat.reduceSub, Nat.reduceMul, Nat.reduceMod, Nat.reduceDiv, Nat.reduceBEq, RH]
  refine J.ite (fun h1 => ?_) (fun h1 => ?_)
  · have h1' := decide_eq_true h1
    refine J.bind fun x2 h2 => ?_
    have e_h2 := H72_0 _ _ h2
    try simp only [NN, NT, LN] at e_h2
    refine J.some ?_
    simp (maxSteps := 20000000) (disch := first | assumption | decide | with_unfolding_all rfl | omega | (simp only [LN] <;> omega) | (simp only [RO, OF])) only [RR, RM, LN, TT, d68_at, ↓reduceIte, Nat.reduceEqDiff, Nat.reduceLT, Nat.reduceLeDiff, Nat.reduceAdd, Nat.reduceSub, Nat.reduceMul, Nat.reduceMod, Nat.reduceDiv, Nat.reduceBEq, RH, h1', e_h2, FF, LN, NN, NT]
  · have h1' := decide_eq_false h1
    conv => arg 1; simp (maxSteps := 1000000) (disch := first | assumption | decide | with_unfolding_all rfl | omega | (simp only [LN] <;> omega) | (simp only [RO, OF])) only [RR, RM, LN, TT, d68_at, ↓reduceIte, Nat.reduceEqDiff, Nat.reduceLT, Nat.reduceLeDiff, Nat.reduceAdd, Nat.reduceSub, Nat.reduceMul, Nat.reduceMod, Nat.reduceDiv, Nat.reduceBEq, RH, h1']
    refine J.eq ret_seq ?_
    refine J.bind fun x3 h3 => ?_
    have e_h3 := H72_0 _ _ h3
    try simp only [NN, NT, LN] at e_h3
    refine J.bind fun x4 h4 => ?_
    have e_h4 := H77_0 _ _ _ h4
    try simp only [NN, NT, LN] at e_h4
    refine J.some ?_
    simp (maxSteps := 20000000) (disch := first | assumption | decide | with_unfolding_all rfl | omega | (simp only [LN] <;> omega) | (simp only [RO, OF])) only [RR, RM, LN, TT, d68_at, ↓reduceIte, Nat.reduceEqDiff, Nat.reduceLT, Nat.reduceLeDiff, Nat.reduceAdd, Nat.reduceSub, Nat.reduceMul, Nat.reduceMod, Nat.reduceDiv, Nat.reduceBEq, RH, h1', e_h3, e_h4, FF, LN, NN, NT]
noncomputable def t68 (fu : Nat) : CallP := orE 72 (mkC (fun (t : Int) => ([.v (.int .u64 t)] : List AV)) (fun t => ref01_Of fu t) e72) (orE 77 (mkC (fun (t : (List Int) × Int) => ([.arr t.1.length (lm (ik .u32) t.1), .v (.int .i64 t.2)] : List AV)) (fun t => ref01_Twice fu t.1 t.2) e77) (noP))
theorem t68_ok (fu : Nat) : CpOK Tryz.prog (t68 fu ) := orE_ok (orE_ok (noP_ok) (mkC_ok (fun t b h => ok77 fu t.1 t.2  b h))) (mkC_ok (fun t b h => ok72 fu t  b h))
theorem ok68 (fu : Nat) (x1 : Int) (r) (h : ref01_Amount fu x1 = some r) : PureOK Tryz.prog 68 [.v (.int .u32 x1)] (e68 r) :=
  pure_J mixed (cp := t68 fu ) (t68_ok fu  ) noI_ok i68 (w68 _ fu x1  (fun a0 r h => orE_hit (mkC_at (a := a0) (by intro a b h; first | (exact rfl) | (simp only [INJ, IJ] at h; first | exact h | (simp_all [Prod.ext_iff]) )) h)) (fun a0 a1 r h => orE_miss (by decide) (orE_hit (mkC_at (a := (a0, a1)) (by intro a b h; first | (exact rfl) | (simp only [INJ, IJ] at h; first | exact h | (simp_all [Prod.ext_iff]) )) h)))) h
/-! 76: lattice/latticeref01.Times -/
def d76 : List (Nat × List Nat) := [(0, [4]), (0, [0, 1, 6]), (0, [10, 11, 12, 13, 14, 15]), (0, []), (0, []), (0, [8]), (0, [16, 17, 18]), (0, []), (0, [20, 21]), (0, []), (0, []), (0, []), (0, []), (0, []), (0, [22, 23, 24]), (0, []), (0, [26, 27]), (0, []), (22, [28, 29, 30, 31, 32, 33, 34, 35, 36, 37, 38, 39, 40, 41, 42, 43, 44, 45, 46, 47, 48]), (0, []), (0, [49, 50, 51, 52, 53, 54, 55, 56]), (0, []), (0, [9, 57, 58]), (0, []), (0, [7, 59, 60, 61, 62, 63, 64, 65, 66]), (0, []), (0, [5, 67, 68])]
def d76_at := And.intro (show d76.getD 0 (0, []) = (0, [4]) from rfl) <| And.intro (show d76.getD 1 (0, []) = (0, [0, 1, 6]) from rfl) <| And.intro (show d76.getD 2 (0, []) = (0, [10, 11, 12, 13, 14, 15]) from rfl) <| And.intro (show d76.getD 3 (0, []) = (0, []) from rfl) <| And.intro (show d76.getD 4 (0, []) = (0, []) from rfl) <| And.intro (show d76.getD 5 (0, []) = (0, [8]) from rfl) <| And.intro (show d76.getD 6 (0, []) = (0, [16, 17, 18]) from rfl) <| And.intro (show d76.getD 7 (0, []) = (0, []) from rfl) <| And.intro (show d76.getD 8 (0, []) = (0, [20, 21]) from rfl) <| And.intro (show d76.getD 9 (0, []) = (0, []) from rfl) <| And.intro (show d76.getD 10 (0, []) = (0, []) from rfl) <| And.intro (show d76.getD 11 (0, []) = (0, []) from rfl) <| And.intro (show d76.getD 12 (0, []) = (0, []) from rfl) <| And.intro (show d76.getD 13 (0, []) = (0, []) from rfl) <| And.intro (show d76.getD 14 (0, []) = (0, [22, 23, 24]) from rfl) <| And.intro (show d76.getD 15 (0, []) = (0, []) from rfl) <| And.intro (show d76.getD 16 (0, []) = (0, [26, 27]) from rfl) <| And.intro (show d76.getD 17 (0, []) = (0, []) from rfl) <| And.intro (show d76.getD 18 (0, []) = (22, [28, 29, 30, 31, 32, 33, 34, 35, 36, 37, 38, 39, 40, 41, 42, 43, 44, 45, 46, 47, 48]) from rfl) <| And.intro (show d76.getD 19 (0, []) = (0, []) from rfl) <| And.intro (show d76.getD 20 (0, []) = (0, [49, 50, 51, 52, 53, 54, 55, 56]) from rfl) <| And.intro (show d76.getD 21 (0, []) = (0, []) from rfl) <| And.intro (show d76.getD 22 (0, []) = (0, [9, 57, 58]) from rfl) <| And.intro (show d76.getD 23 (0, []) = (0, []) from rfl) <| And.intro (show d76.getD 24 (0, []) = (0, [7, 59, 60, 61, 62, 63, 64, 65, 66]) from rfl) <| And.intro (show d76.getD 25 (0, []) = (0, []) from rfl) <| (show d76.getD 26 (0, []) = (0, [5, 67, 68]) from rfl)
theorem i76 : finfo Tryz.prog 76 d76 = some ⟨bodyOf Tryz.f76, [.tmp 4], [98]⟩ := finfo_at Tryz.func76 rfl (by kernel_rfl) (by kernel_rfl)
def e76 : (List Int) → AV := fun r => .arr r.length (lm (ik .u32) r)
set_option maxHeartbeats 20000000 in
theorem w76 (cp : CallP) (fu : Nat) (x1 : List Int) (x2 : List Int) (H132_0 : ∀ (a0 : List Int) r, ref01_trim fu a0 = some r → cp 132 [.arr a0.length (lm (ik .u32) a0)] = some (.arr r.length (lm (ik .u32) r))) : J (go Tryz.prog noC cp noI 0 [] d76 fu (fin Tryz.prog [.tmp 4] [98]) (bodyOf Tryz.f76) (initE 0 [.arr x1.length (lm (ik .u32) x1), .arr x2.length (lm (ik .u32) x2)]) [] []) (ref01_Times fu x1 x2) e76 := by
  unfold ref01_Times e76
  refine J.chk fun h1 => ?_
  conv => arg 1; simp (maxSteps := 1000000) (disch := first | assumption | decide | with_unfolding_all rfl | omega | (simp only [LN] <;> omega) | (simp only [RO, OF])) only [bodyOf, Tryz.f76, RR, RM, LN, TT, d76_at, ↓reduceIte, Nat.reduceEqDiff, Nat.reduceLT, Nat.reduceLeDiff, Nat.reduceAdd, Nat.reduceSub, Nat.reduceMul, Nat.reduceMod, Nat.reduceDiv, Nat.reduceBEq, RH]
  refine J.joinS (fun (t : List Int) => ([(5, .own (0, 15, 0) 0 t.length t.length)], [((0, 15, 0), .sl true true 1 t.length (lm (ik .u32) t))])) (fun t => ref01_Times_k1 fu t) ?_ (fun hj1 => ?_)
  · rintro x3
    show J _ (ref01_Times_k1 fu x3) _
    unfold ref01_Times_k1
    refine J.bind fun x4 h2 => ?_
    have e_h2 := H132_0 _ _ h2
    try simp only [NN, NT, LN] at e_h2
    refine J.some ?_
    simp (maxSteps := 20000000) (disch := first | assumption | decide | with_unfolding_all rfl | omega | (simp only [LN] <;> omega) | (simp only [RO, OF])) only [RR, RM, LN, TT, d76_at, ↓reduceIte, Nat.reduceEqDiff, Nat.reduceLT, Nat.reduceLeDiff, Nat.reduceAdd, Nat.reduceSub, Nat.reduceMul, Nat.reduceMod, Nat.reduceDiv, Nat.reduceBEq, RH, e_h2, FF, LN, NN, NT]
  · conv => arg 1; simp (maxSteps := 1000000) (disch := first | assumption | decide | with_unfolding_all rfl | omega | (simp only [LN] <;> omega) | (simp only [RO, OF])) only [RR, RM, LN, TT, d76_at, ↓reduceIte, Nat.reduceEqDiff, Nat.reduceLT, Nat.reduceLeDiff, Nat.reduceAdd, Nat.reduceSub, Nat.reduceMul, Nat.reduceMod, Nat.reduceDiv, Nat.reduceBEq, RH]
    unfold ref01_Times_W1
    refine J.loop (fun (s : (List Int) × Int) => ([(0, .arr x1.length (lm (ik .u32) x1)), (1, .arr x2.length (lm (ik .u32) x2)), (5, .own (0, 15, 0) 0 s.1.length s.1.length), (6, .v (.int .i64 s.2))], [((0, 15, 0), .sl true true 1 s.1.length (lm (ik .u32) s.1))])) (fun next s => ref01_Times_L1 fu x1 x2 (fun x19 x20 => next (x19, x20)) s.1 s.2) (s0 := (List.replicate (wk .i64 ((x1.length : Int) + (x2.length : Int))).toNat (0 : Int), 0)) ?_ ?_ ?_
    · first | rfl | (simp only [LN, NN, NT])
    · first | (simp (disch := first | assumption | decide | with_unfolding_all rfl | omega | (simp only [LN] <;> omega) | (simp only [RO, OF])) only [RR, ↓reduceIte, Nat.reduceEqDiff, Nat.reduceLT, Nat.reduceLeDiff, Nat.reduceAdd, Nat.reduceSub, Nat.reduceMul, Nat.reduceMod, Nat.reduceDiv, Nat.reduceBEq, LN, NN, NT]; done) | (simp (disch := first | assumption | decide | with_unfolding_all rfl | omega | (simp only [LN] <;> omega) | (simp only [RO, OF])) only [RR, ↓reduceIte, Nat.reduceEqDiff, Nat.reduceLT, Nat.reduceLeDiff, Nat.reduceAdd, Nat.reduceSub, Nat.reduceMul, Nat.reduceMod, Nat.reduceDiv, Nat.reduceBEq, LN, fm_app, NN, NT]; done) | rfl
    rintro next k1 hn1 ⟨x19, x20⟩
    let nx1 : (List Int) → Int → Option (List Int) := (fun x19 x20 => next (x19, x20))
    show J _ (ref01_Times_L1 fu x1 x2 nx1 x19 x20) _
    unfold ref01_Times_L1
    refine J.eq go_seq ?_
    conv => arg 1; simp (maxSteps := 1000000) (disch := first | assumption | decide | with_unfolding_all rfl | omega | (simp only [LN] <;> omega) | (simp only [RO, OF])) only [RR, RM, LN, TT, d76_at, ↓reduceIte, Nat.reduceEqDiff, Nat.reduceLT, Nat.reduceLeDiff, Nat.reduceAdd, Nat.reduceSub, Nat.reduceMul, Nat.reduceMod, Nat.reduceDiv, Nat.reduceBEq, RH]
    refine J.ite (fun h3 => ?_) (fun h3 => ?_)
    · have h3' := decide_eq_true h3
      have h3'' : decide ((x1.length : Int) ≤ x20) = false := decide_eq_false (by omega)
      conv => arg 1; simp (maxSteps := 1000000) (disch := first | assumption | decide | with_unfolding_all rfl | omega | (simp only [LN] <;> omega) | (simp only [RO, OF])) only [RR, RM, LN, TT, d76_at, ↓reduceIte, Nat.reduceEqDiff, Nat.reduceLT, Nat.reduceLeDiff, Nat.reduceAdd, Nat.reduceSub, Nat.reduceMul, Nat.reduceMod, Nat.reduceDiv, Nat.reduceBEq, RH, h3'', h3']
      refine J.eq ret_seq ?_
      refine J.eq go_seq ?_
      conv => arg 1; simp (maxSteps := 1000000) (disch := first | assumption | decide | with_unfolding_all rfl | omega | (simp only [LN] <;> omega) | (simp only [RO, OF])) only [RR, RM, LN, TT, d76_at, ↓reduceIte, Nat.reduceEqDiff, Nat.reduceLT, Nat.reduceLeDiff, Nat.reduceAdd, Nat.reduceSub, Nat.reduceMul, Nat.reduceMod, Nat.reduceDiv, Nat.reduceBEq, RH, h3'', h3']
      refine J.joinS (fun (t : (List Int) × Int) => ([(0, .arr x1.length (lm (ik .u32) x1)), (1, .arr x2.length (lm (ik .u32) x2)), (5, .own (0, 15, 0) 0 t.1.length t.1.length), (6, .v (.int .i64 x20)), (7, .v (.int .u64 t.2))], [((0, 15, 0), .sl true true 1 t.1.length (lm (ik .u32) t.1))])) (fun t => ref01_Times_k2 fu nx1 x2 x20 t.1 t.2) ?_ (fun hj2 => ?_)
      · rintro ⟨x35, x36⟩
        show J _ (ref01_Times_k2 fu nx1 x2 x20 x35 x36) _
        unfold ref01_Times_k2
        refine J.chk fun h4 => ?_
        conv => arg 1; simp (maxSteps := 1000000) (disch := first | assumption | decide | with_unfolding_all rfl | omega | (simp only [LN] <;> omega) | (simp only [RO, OF])) only [RR, RM, LN, TT, d76_at, ↓reduceIte, Nat.reduceEqDiff, Nat.reduceLT, Nat.reduceLeDiff, Nat.reduceAdd, Nat.reduceSub, Nat.reduceMul, Nat.reduceMod, Nat.reduceDiv, Nat.reduceBEq, RH, h3'', h3']
        refine J.eq ret_seq ?_
        conv => arg 1; simp (maxSteps := 1000000) (disch := first | assumption | decide | with_unfolding_all rfl | omega | (simp only [LN] <;> omega) | (simp only [RO, OF])) only [RR, RM, LN, TT, d76_at, ↓reduceIte, Nat.reduceEqDiff, Nat.reduceLT, Nat.reduceLeDiff, Nat.reduceAdd, Nat.reduceSub, Nat.reduceMul, Nat.reduceMod, Nat.reduceDiv, Nat.reduceBEq, RH, h3'', h3']
        refine J.next (s := (x35.set (wk .i64 (x20 + (x2.length : Int))).toNat (wk .u32 x36), wk .i64 (x20 + 1))) hn1 ?_ ?_
        · first | rfl | (simp only [LN, NN, NT])
        · first | (simp (disch := first | assumption | decide | with_unfolding_all rfl | omega | (simp only [LN] <;> omega) | (simp only [RO, OF])) only [RR, ↓reduceIte, Nat.reduceEqDiff, Nat.reduceLT, Nat.reduceLeDiff, Nat.reduceAdd, Nat.reduceSub, Nat.reduceMul, Nat.reduceMod, Nat.reduceDiv, Nat.reduceBEq, LN, NN, NT]; done) | (simp (disch := first | assumption | decide | with_unfolding_all rfl | omega | (simp only [LN] <;> omega) | (simp only [RO, OF])) only [RR, ↓reduceIte, Nat.reduceEqDiff, Nat.reduceLT, Nat.reduceLeDiff, Nat.reduceAdd, Nat.reduceSub, Nat.reduceMul, Nat.reduceMod, Nat.reduceDiv, Nat.reduceBEq, LN, fm_app, NN, NT]; done) | rfl
      · conv => arg 1; simp (maxSteps := 1000000) (disch := first | assumption | decide | with_unfolding_all rfl | omega | (simp only [LN] <;> omega) | (simp only [RO, OF])) only [RR, RM, LN, TT, d76_at, ↓reduceIte, Nat.reduceEqDiff, Nat.reduceLT, Nat.reduceLeDiff, Nat.reduceAdd, Nat.reduceSub, Nat.reduceMul, Nat.reduceMod, Nat.reduceDiv, Nat.reduceBEq, RH, h3'', h3']
        unfold ref01_Times_W2
        refine J.loop (fun (s : (List Int) × Int × Int) => ([(0, .arr x1.length (lm (ik .u32) x1)), (1, .arr x2.length (lm (ik .u32) x2)), (5, .own (0, 15, 0) 0 s.1.length s.1.length), (6, .v (.int .i64 x20)), (7, .v (.int .u64 s.2.1)), (8, .v (.int .i64 s.2.2))], [((0, 15, 0), .sl true true 1 s.1.length (lm (ik .u32) s.1))])) (fun next s => ref01_Times_L2 fu nx1 x1 x2 x20 (fun x40 x41 x42 => next (x40, x41, x42)) s.1 s.2.1 s.2.2) (s0 := (x19, 0, 0)) ?_ ?_ ?_
        · first | rfl | (simp only [LN, NN, NT])
        · first | (simp (disch := first | assumption | decide | with_unfolding_all rfl | omega | (simp only [LN] <;> omega) | (simp only [RO, OF])) only [RR, ↓reduceIte, Nat.reduceEqDiff, Nat.reduceLT, Nat.reduceLeDiff, Nat.reduceAdd, Nat.reduceSub, Nat.reduceMul, Nat.reduceMod, Nat.reduceDiv, Nat.reduceBEq, LN, NN, NT]; done) | (simp (disch := first | assumption | decide | with_unfolding_all rfl | omega | (simp only [LN] <;> omega) | (simp only [RO, OF])) only [RR, ↓reduceIte, Nat.reduceEqDiff, Nat.reduceLT, Nat.reduceLeDiff, Nat.reduceAdd, Nat.reduceSub, Nat.reduceMul, Nat.reduceMod, Nat.reduceDiv, Nat.reduceBEq, LN, fm_app, NN, NT]; done) | rfl
        rintro next k2 hn2 ⟨x40, x41, x42⟩
        let nx2 : (List Int) → Int → Int → Option (List Int) := (fun x40 x41 x42 => next (x40, x41, x42))
        show J _ (ref01_Times_L2 fu nx1 x1 x2 x20 nx2 x40 x41 x42) _
        unfold ref01_Times_L2
        refine J.eq go_seq ?_
        conv => arg 1; simp (maxSteps := 1000000) (disch := first | assumption | decide | with_unfolding_all rfl | omega | (simp only [LN] <;> omega) | (simp only [RO, OF])) only [RR, RM, LN, TT, d76_at, ↓reduceIte, Nat.reduceEqDiff, Nat.reduceLT, Nat.reduceLeDiff, Nat.reduceAdd, Nat.reduceSub, Nat.reduceMul, Nat.reduceMod, Nat.reduceDiv, Nat.reduceBEq, RH, h3'', h3']
        refine J.ite (fun h5 => ?_) (fun h5 => ?_)
        · have h5' := decide_eq_true h5
          have h5'' : decide ((x2.length : Int) ≤ x42) = false := decide_eq_false (by omega)
          conv => arg 1; simp (maxSteps := 1000000) (disch := first | assumption | decide | with_unfolding_all rfl | omega | (simp only [LN] <;> omega) | (simp only [RO, OF])) only [RR, RM, LN, TT, d76_at, ↓reduceIte, Nat.reduceEqDiff, Nat.reduceLT, Nat.reduceLeDiff, Nat.reduceAdd, Nat.reduceSub, Nat.reduceMul, Nat.reduceMod, Nat.reduceDiv, Nat.reduceBEq, RH, h3'', h3', h5'', h5']
          refine J.eq ret_seq ?_
          refine J.eq go_seq ?_
          refine J.at fun x46 h6 h7 h8 => ?_
          refine J.at fun x47 h9 h10 h11 => ?_
          refine J.at fun x48 h12 h13 h14 => ?_
          refine J.chk fun h15 => ?_
          conv => arg 1; simp (maxSteps := 1000000) (disch := first | assumption | decide | with_unfolding_all rfl | omega | (simp only [LN] <;> omega) | (simp only [RO, OF])) only [RR, RM, LN, TT, d76_at, ↓reduceIte, Nat.reduceEqDiff, Nat.reduceLT, Nat.reduceLeDiff, Nat.reduceAdd, Nat.reduceSub, Nat.reduceMul, Nat.reduceMod, Nat.reduceDiv, Nat.reduceBEq, RH, h3'', h3', h5'', h5', lm_ik h8, lm_ik h11, lm_ik h14]
          refine J.eq ret_seq ?_
          conv => arg 1; simp (maxSteps := 1000000) (disch := first | assumption | decide | with_unfolding_all rfl | omega | (simp only [LN] <;> omega) | (simp only [RO, OF])) only [RR, RM, LN, TT, d76_at, ↓reduceIte, Nat.reduceEqDiff, Nat.reduceLT, Nat.reduceLeDiff, Nat.reduceAdd, Nat.reduceSub, Nat.reduceMul, Nat.reduceMod, Nat.reduceDiv, Nat.reduceBEq, RH, h3'', h3', h5'', h5', lm_ik h8, lm_ik h11, lm_ik h14]
          refine J.next (s := (x40.set (wk .i64 (x20 + x42)).toNat (wk .u32 (Int.tmod (wk .u64 ((wk .u64 ((wk .u64 ((wk .u64 x46) * (wk .u64 x47))) + (wk .u64 x48))) + x41)) 4294967296)), wk .u64 (Int.tdiv (wk .u64 ((wk .u64 ((wk .u64 ((wk .u64 x46) * (wk .u64 x47))) + (wk .u64 x48))) + x41)) 4294967296), wk .i64 (x42 + 1))) hn2 ?_ ?_
          · first | rfl | (simp only [LN, NN, NT])
          · first | (simp (disch := first | assumption | decide | with_unfolding_all rfl | omega | (simp only [LN] <;> omega) | (simp only [RO, OF])) only [RR, ↓reduceIte, Nat.reduceEqDiff, Nat.reduceLT, Nat.reduceLeDiff, Nat.reduceAdd, Nat.reduceSub, Nat.reduceMul, Nat.reduceMod, Nat.reduceDiv, Nat.reduceBEq, LN, NN, NT]; done) | (simp (disch := first | assumption | decide | with_unfolding_all rfl | omega | (simp only [LN] <;> omega) | (simp only [RO, OF])) only [RR, ↓reduceIte, Nat.reduceEqDiff, Nat.reduceLT, Nat.reduceLeDiff, Nat.reduceAdd, Nat.reduceSub, Nat.reduceMul, Nat.reduceMod, Nat.reduceDiv, Nat.reduceBEq, LN, fm_app, NN, NT]; done) | rfl
        · have h5' := decide_eq_false h5
          have h5'' : decide ((x2.length : Int) ≤ x42) = true := decide_eq_true (by omega)
          conv => arg 1; simp (maxSteps := 1000000) (disch := first | assumption | decide | with_unfolding_all rfl | omega | (simp only [LN] <;> omega) | (simp only [RO, OF])) only [RR, RM, LN, TT, d76_at, ↓reduceIte, Nat.reduceEqDiff, Nat.reduceLT, Nat.reduceLeDiff, Nat.reduceAdd, Nat.reduceSub, Nat.reduceMul, Nat.reduceMod, Nat.reduceDiv, Nat.reduceBEq, RH, h3'', h3', h5'', h5']
          refine J.jmp (t := (x40, x41)) hj2 ?_ ?_
          · first | rfl | (simp only [LN, NN, NT])
          · first | (simp (disch := first | assumption | decide | with_unfolding_all rfl | omega | (simp only [LN] <;> omega) | (simp only [RO, OF])) only [RR, ↓reduceIte, Nat.reduceEqDiff, Nat.reduceLT, Nat.reduceLeDiff, Nat.reduceAdd, Nat.reduceSub, Nat.reduceMul, Nat.reduceMod, Nat.reduceDiv, Nat.reduceBEq, LN, NN, NT]; done) | (simp (disch := first | assumption | decide | with_unfolding_all rfl | omega | (simp only [LN] <;> omega) | (simp only [RO, OF])) only [RR, ↓reduceIte, Nat.reduceEqDiff, Nat.reduceLT, Nat.reduceLeDiff, Nat.reduceAdd, Nat.reduceSub, Nat.reduceMul, Nat.reduceMod, Nat.reduceDiv, Nat.reduceBEq, LN, fm_app, NN, NT]; done) | rfl
    · have h3' := decide_eq_false h3
      have h3'' : decide ((x1.length : Int) ≤ x20) = true := decide_eq_true (by omega)
      conv => arg 1; simp (maxSteps := 1000000) (disch := first | assumption | decide | with_unfolding_all rfl | omega | (simp only [LN] <;> omega) | (simp only [RO, OF])) only [RR, RM, LN, TT, d76_at, ↓reduceIte, Nat.reduceEqDiff, Nat.reduceLT, Nat.reduceLeDiff, Nat.reduceAdd, Nat.reduceSub, Nat.reduceMul, Nat.reduceMod, Nat.reduceDiv, Nat.reduceBEq, RH, h3'', h3']
      refine J.jmp (t := x19) hj1 ?_ ?_
      · first | rfl | (simp only [LN, NN, NT])
      · first | (simp (disch := first | assumption | decide | with_unfolding_all rfl | omega | (simp only [LN] <;> omega) | (simp only [RO, OF])) only [RR, ↓reduceIte, Nat.reduceEqDiff, Nat.reduceLT, Nat.reduceLeDiff, Nat.reduceAdd, Nat.reduceSub, Nat.reduceMul, Nat.reduceMod, Nat.reduceDiv, Nat.reduceBEq, LN, NN, NT]; done) | (simp (disch := first | assumption | decide | with_unfolding_all rfl | omega | (simp only [LN] <;> omega) | (simp only [RO, OF])) only [RR, ↓reduceIte, Nat.reduceEqDiff, Nat.reduceLT, Nat.reduceLeDiff, Nat.reduceAdd, Nat.reduceSub, Nat.reduceMul, Nat.reduceMod, Nat.reduceDiv, Nat.reduceBEq, LN, fm_app, NN, NT]; done) | rfl
noncomputable def t76 (fu : Nat) : CallP := orE 132 (mkC (fun (t : List Int) => ([.arr t.length (lm (ik .u32) t)] : List AV)) (fun t => ref01_trim fu t) e132) (noP)
theorem t76_ok (fu : Nat) : CpOK Tryz.prog (t76 fu ) := orE_ok (noP_ok) (mkC_ok (fun t b h => ok132 fu t  b h))
theorem ok76 (fu : Nat) (x1 : List Int) (x2 : List Int) (r) (h : ref01_Times fu x1 x2 = some r) : PureOK Tryz.prog 76 [.arr x1.length (lm (ik .u32) x1), .arr x2.length (lm (ik .u32) x2)] (e76 r) :=
  pure_J mixed (cp := t76 fu ) (t76_ok fu  ) noI_ok i76 (w76 _ fu x1 x2  (fun a0 r h => orE_hit (mkC_at (a := a0) (by intro a b h; first | (exact rfl) | (simp only [INJ, IJ] at h; first | exact h | (simp_all [Prod.ext_iff]) )) h))) h
/-! 73: lattice/latticeref01.Compare -/
def d73 : List (Nat × List Nat) := [(0, [4]), (0, [0, 1, 5]), (0, [6, 7, 8, 9]), (0, []), (0, [11, 12, 13, 14]), (0, []), (0, []), (0, []), (0, []), (0, []), (0, [16, 17, 18]), (0, []), (0, [19]), (0, []), (0, [21, 22]), (0, []), (9, [23, 24, 25, 26, 27, 28, 29, 30]), (0, []), (0, []), (0, []), (9, [32, 33, 34, 35, 36, 37, 38, 39]), (0, []), (0, []), (0, []), (0, [])]
def d73_at := And.intro (show d73.getD 0 (0, []) = (0, [4]) from rfl) <| And.intro (show d73.getD 1 (0, []) = (0, [0, 1, 5]) from rfl) <| And.intro (show d73.getD 2 (0, []) = (0, [6, 7, 8, 9]) from rfl) <| And.intro (show d73.getD 3 (0, []) = (0, []) from rfl) <| And.intro (show d73.getD 4 (0, []) = (0, [11, 12, 13, 14]) from rfl) <| And.intro (show d73.getD 5 (0, []) = (0, []) from rfl) <| And.intro (show d73.getD 6 (0, []) = (0, []) from rfl) <| And.intro (show d73.getD 7 (0, []) = (0, []) from rfl) <| And.intro (show d73.getD 8 (0, []) = (0, []) from rfl) <| And.intro (show d73.getD 9 (0, []) = (0, []) from rfl) <| And.intro (show d73.getD 10 (0, []) = (0, [16, 17, 18]) from rfl) <| And.intro (show d73.getD 11 (0, []) = (0, []) from rfl) <| And.intro (show d73.getD 12 (0, []) = (0, [19]) from rfl) <| And.intro (show d73.getD 13 (0, []) = (0, []) from rfl) <| And.intro (show d73.getD 14 (0, []) = (0, [21, 22]) from rfl) <| And.intro (show d73.getD 15 (0, []) = (0, []) from rfl) <| And.intro (show d73.getD 16 (0, []) = (9, [23, 24, 25, 26, 27, 28, 29, 30]) from rfl) <| And.intro (show d73.getD 17 (0, []) = (0, []) from rfl) <| And.intro (show d73.getD 18 (0, []) = (0, []) from rfl) <| And.intro (show d73.getD 19 (0, []) = (0, []) from rfl) <| And.intro (show d73.getD 20 (0, []) = (9, [32, 33, 34, 35, 36, 37, 38, 39]) from rfl) <| And.intro (show d73.getD 21 (0, []) = (0, []) from rfl) <| And.intro (show d73.getD 22 (0, []) = (0, []) from rfl) <| And.intro (show d73.getD 23 (0, []) = (0, []) from rfl) <| (show d73.getD 24 (0, []) = (0, []) from rfl)
theorem i73 : finfo Tryz.prog 73 d73 = some ⟨bodyOf Tryz.f73, [.tmp 4], [3]⟩ := finfo_at Tryz.func73 rfl (by kernel_rfl) (by kernel_rfl)
def e73 : Int → AV := fun r => .v (.int .i64 r)
set_option maxHeartbeats 20000000 in
theorem w73 (cp : CallP) (fu : Nat) (x1 : List Int) (x2 : List Int) : J (go Tryz.prog noC cp noI 0 [] d73 fu (fin Tryz.prog [.tmp 4] [3]) (bodyOf Tryz.f73) (initE 0 [.arr x1.length (lm (ik .u32) x1), .arr x2.length (lm (ik .u32) x2)]) [] []) (ref01_Compare fu x1 x2) e73 := by
  unfold ref01_Compare e73
  conv => arg 1; simp (maxSteps := 1000000) (disch := first | assumption | decide | with_unfolding_all rfl | omega | (simp only [LN] <;> omega) | (simp only [RO, OF])) only [bodyOf, Tryz.f73, RR, RM, LN, TT, d73_at, ↓reduceIte, Nat.reduceEqDiff, Nat.reduceLT, Nat.reduceLeDiff, Nat.reduceAdd, Nat.reduceSub, Nat.reduceMul, Nat.reduceMod, Nat.reduceDiv, Nat.reduceBEq, RH]
  refine J.eq go_seq ?_
  conv => arg 1; simp (maxSteps := 1000000) (disch := first | assumption | decide | with_unfolding_all rfl | omega | (simp only [LN] <;> omega) | (simp only [RO, OF])) only [RR, RM, LN, TT, d73_at, ↓reduceIte, Nat.reduceEqDiff, Nat.reduceLT, Nat.reduceLeDiff, Nat.reduceAdd, Nat.reduceSub, Nat.reduceMul, Nat.reduceMod, Nat.reduceDiv, Nat.reduceBEq, RH]
  refine J.ite (fun h1 => ?_) (fun h1 => ?_)
  · have h1' := decide_eq_true h1
    conv => arg 1; simp (maxSteps := 1000000) (disch := first | assumption | decide | with_unfolding_all rfl | omega | (simp only [LN] <;> omega) | (simp only [RO, OF])) only [RR, RM, LN, TT, d73_at, ↓reduceIte, Nat.reduceEqDiff, Nat.reduceLT, Nat.reduceLeDiff, Nat.reduceAdd, Nat.reduceSub, Nat.reduceMul, Nat.reduceMod, Nat.reduceDiv, Nat.reduceBEq, RH, h1']
    refine J.eq ret_seq ?_
    refine J.eq go_seq ?_
    conv => arg 1; simp (maxSteps := 1000000) (disch := first | assumption | decide | with_unfolding_all rfl | omega | (simp only [LN] <;> omega) | (simp only [RO, OF])) only [RR, RM, LN, TT, d73_at, ↓reduceIte, Nat.reduceEqDiff, Nat.reduceLT, Nat.reduceLeDiff, Nat.reduceAdd, Nat.reduceSub, Nat.reduceMul, Nat.reduceMod, Nat.reduceDiv, Nat.reduceBEq, RH, h1']
    unfold ref01_Compare_W1
    refine J.loop (fun (s : Int) => ([(0, .arr x1.length (lm (ik .u32) x1)), (1, .arr x2.length (lm (ik .u32) x2)), (5, .v (.int .i64 s))], [])) (fun next s => ref01_Compare_L1 fu x1 x2 next s) (s0 := wk .i64 ((x1.length : Int) - 1)) ?_ ?_ ?_
    · first | rfl | (simp only [LN, NN, NT])
    · first | (simp (disch := first | assumption | decide | with_unfolding_all rfl | omega | (simp only [LN] <;> omega) | (simp only [RO, OF])) only [RR, ↓reduceIte, Nat.reduceEqDiff, Nat.reduceLT, Nat.reduceLeDiff, Nat.reduceAdd, Nat.reduceSub, Nat.reduceMul, Nat.reduceMod, Nat.reduceDiv, Nat.reduceBEq, LN, NN, NT]; done) | (simp (disch := first | assumption | decide | with_unfolding_all rfl | omega | (simp only [LN] <;> omega) | (simp only [RO, OF])) only [RR, ↓reduceIte, Nat.reduceEqDiff, Nat.reduceLT, Nat.reduceLeDiff, Nat.reduceAdd, Nat.reduceSub, Nat.reduceMul, Nat.reduceMod, Nat.reduceDiv, Nat.reduceBEq, LN, fm_app, NN, NT]; done) | rfl
    rintro nx1 k1 hn1 x5
    show J _ (ref01_Compare_L1 fu x1 x2 nx1 x5) _
    unfold ref01_Compare_L1
    refine J.eq go_seq ?_
    conv => arg 1; simp (maxSteps := 1000000) (disch := first | assumption | decide | with_unfolding_all rfl | omega | (simp only [LN] <;> omega) | (simp only [RO, OF])) only [RR, RM, LN, TT, d73_at, ↓reduceIte, Nat.reduceEqDiff, Nat.reduceLT, Nat.reduceLeDiff, Nat.reduceAdd, Nat.reduceSub, Nat.reduceMul, Nat.reduceMod, Nat.reduceDiv, Nat.reduceBEq, RH, h1']
    refine J.ite (fun h2 => ?_) (fun h2 => ?_)
    · have h2' := decide_eq_true h2
      have h2'' : decide (x5 < 0) = false := decide_eq_false (by omega)
      conv => arg 1; simp (maxSteps := 1000000) (disch := first | assumption | decide | with_unfolding_all rfl | omega | (simp only [LN] <;> omega) | (simp only [RO, OF])) only [RR, RM, LN, TT, d73_at, ↓reduceIte, Nat.reduceEqDiff, Nat.reduceLT, Nat.reduceLeDiff, Nat.reduceAdd, Nat.reduceSub, Nat.reduceMul, Nat.reduceMod, Nat.reduceDiv, Nat.reduceBEq, RH, h1', h2'', h2']
      refine J.eq ret_seq ?_
      refine J.eq go_seq ?_
      conv => arg 1; simp (maxSteps := 1000000) (disch := first | assumption | decide | with_unfolding_all rfl | omega | (simp only [LN] <;> omega) | (simp only [RO, OF])) only [RR, RM, LN, TT, d73_at, ↓reduceIte, Nat.reduceEqDiff, Nat.reduceLT, Nat.reduceLeDiff, Nat.reduceAdd, Nat.reduceSub, Nat.reduceMul, Nat.reduceMod, Nat.reduceDiv, Nat.reduceBEq, RH, h1', h2'', h2']
      refine J.eq go_seq ?_
      refine J.at fun x8 h3 h4 h5 => ?_
      refine J.at fun x9 h6 h7 h8 => ?_
      conv => arg 1; simp (maxSteps := 1000000) (disch := first | assumption | decide | with_unfolding_all rfl | omega | (simp only [LN] <;> omega) | (simp only [RO, OF])) only [RR, RM, LN, TT, d73_at, ↓reduceIte, Nat.reduceEqDiff, Nat.reduceLT, Nat.reduceLeDiff, Nat.reduceAdd, Nat.reduceSub, Nat.reduceMul, Nat.reduceMod, Nat.reduceDiv, Nat.reduceBEq, RH, h1', h2'', h2', lm_ik h5, lm_ik h8]
      refine J.ite (fun h9 => ?_) (fun h9 => ?_)
      · have h9' := decide_eq_true h9
        have h9'' : decide (x9 ≤ x8) = false := decide_eq_false (by omega)
        refine J.some ?_
        simp (maxSteps := 20000000) (disch := first | assumption | decide | with_unfolding_all rfl | omega | (simp only [LN] <;> omega) | (simp only [RO, OF])) only [RR, RM, LN, TT, d73_at, ↓reduceIte, Nat.reduceEqDiff, Nat.reduceLT, Nat.reduceLeDiff, Nat.reduceAdd, Nat.reduceSub, Nat.reduceMul, Nat.reduceMod, Nat.reduceDiv, Nat.reduceBEq, RH, h1', h2'', h2', lm_ik h5, lm_ik h8, h9'', h9', FF, LN, NN, NT]
      · have h9' := decide_eq_false h9
        have h9'' : decide (x9 ≤ x8) = true := decide_eq_true (by omega)
        conv => arg 1; simp (maxSteps := 1000000) (disch := first | assumption | decide | with_unfolding_all rfl | omega | (simp only [LN] <;> omega) | (simp only [RO, OF])) only [RR, RM, LN, TT, d73_at, ↓reduceIte, Nat.reduceEqDiff, Nat.reduceLT, Nat.reduceLeDiff, Nat.reduceAdd, Nat.reduceSub, Nat.reduceMul, Nat.reduceMod, Nat.reduceDiv, Nat.reduceBEq, RH, h1', h2'', h2', lm_ik h5, lm_ik h8, h9'', h9']
        refine J.eq ret_seq ?_
        conv => arg 1; simp (maxSteps := 1000000) (disch := first | assumption | decide | with_unfolding_all rfl | omega | (simp only [LN] <;> omega) | (simp only [RO, OF])) only [RR, RM, LN, TT, d73_at, ↓reduceIte, Nat.reduceEqDiff, Nat.reduceLT, Nat.reduceLeDiff, Nat.reduceAdd, Nat.reduceSub, Nat.reduceMul, Nat.reduceMod, Nat.reduceDiv, Nat.reduceBEq, RH, h1', h2'', h2', lm_ik h5, lm_ik h8, h9'', h9']
        refine J.ite (fun h10 => ?_) (fun h10 => ?_)
        · have h10' := decide_eq_true h10
          have h10'' : decide (x8 ≤ x9) = false := decide_eq_false (by omega)
          refine J.some ?_
          simp (maxSteps := 20000000) (disch := first | assumption | decide | with_unfolding_all rfl | omega | (simp only [LN] <;> omega) | (simp only [RO, OF])) only [RR, RM, LN, TT, d73_at, ↓reduceIte, Nat.reduceEqDiff, Nat.reduceLT, Nat.reduceLeDiff, Nat.reduceAdd, Nat.reduceSub, Nat.reduceMul, Nat.reduceMod, Nat.reduceDiv, Nat.reduceBEq, RH, h1', h2'', h2', lm_ik h5, lm_ik h8, h9'', h9', h10'', h10', FF, LN, NN, NT]
        · have h10' := decide_eq_false h10
          have h10'' : decide (x8 ≤ x9) = true := decide_eq_true (by omega)
          conv => arg 1; simp (maxSteps := 1000000) (disch := first | assumption | decide | with_unfolding_all rfl | omega | (simp only [LN] <;> omega) | (simp only [RO, OF])) only [RR, RM, LN, TT, d73_at, ↓reduceIte, Nat.reduceEqDiff, Nat.reduceLT, Nat.reduceLeDiff, Nat.reduceAdd, Nat.reduceSub, Nat.reduceMul, Nat.reduceMod, Nat.reduceDiv, Nat.reduceBEq, RH, h1', h2'', h2', lm_ik h5, lm_ik h8, h9'', h9', h10'', h10']
          refine J.eq ret_seq ?_
          conv => arg 1; simp (maxSteps := 1000000) (disch := first | assumption | decide | with_unfolding_all rfl | omega | (simp only [LN] <;> omega) | (simp only [RO, OF])) only [RR, RM, LN, TT, d73_at, ↓reduceIte, Nat.reduceEqDiff, Nat.reduceLT, Nat.reduceLeDiff, Nat.reduceAdd, Nat.reduceSub, Nat.reduceMul, Nat.reduceMod, Nat.reduceDiv, Nat.reduceBEq, RH, h1', h2'', h2', lm_ik h5, lm_ik h8, h9'', h9', h10'', h10']
          refine J.next (s := wk .i64 (x5 - 1)) hn1 ?_ ?_
          · first | rfl | (simp only [LN, NN, NT])
          · first | (simp (disch := first | assumption | decide | with_unfolding_all rfl | omega | (simp only [LN] <;> omega) | (simp only [RO, OF])) only [RR, ↓reduceIte, Nat.reduceEqDiff, Nat.reduceLT, Nat.reduceLeDiff, Nat.reduceAdd, Nat.reduceSub, Nat.reduceMul, Nat.reduceMod, Nat.reduceDiv, Nat.reduceBEq, LN, NN, NT]; done) | (simp (disch := first | assumption | decide | with_unfolding_all rfl | omega | (simp only [LN] <;> omega) | (simp only [RO, OF])) only [RR, ↓reduceIte, Nat.reduceEqDiff, Nat.reduceLT, Nat.reduceLeDiff, Nat.reduceAdd, Nat.reduceSub, Nat.reduceMul, Nat.reduceMod, Nat.reduceDiv, Nat.reduceBEq, LN, fm_app, NN, NT]; done) | rfl
    · have h2' := decide_eq_false h2
      have h2'' : decide (x5 < 0) = true := decide_eq_true (by omega)
      conv => arg 1; simp (maxSteps := 1000000) (disch := first | assumption | decide | with_unfolding_all rfl | omega | (simp only [LN] <;> omega) | (simp only [RO, OF])) only [RR, RM, LN, TT, d73_at, ↓reduceIte, Nat.reduceEqDiff, Nat.reduceLT, Nat.reduceLeDiff, Nat.reduceAdd, Nat.reduceSub, Nat.reduceMul, Nat.reduceMod, Nat.reduceDiv, Nat.reduceBEq, RH, h1', h2'', h2']
      refine J.eq ret_seq ?_
      refine J.some ?_
      simp (maxSteps := 20000000) (disch := first | assumption | decide | with_unfolding_all rfl | omega | (simp only [LN] <;> omega) | (simp only [RO, OF])) only [RR, RM, LN, TT, d73_at, ↓reduceIte, Nat.reduceEqDiff, Nat.reduceLT, Nat.reduceLeDiff, Nat.reduceAdd, Nat.reduceSub, Nat.reduceMul, Nat.reduceMod, Nat.reduceDiv, Nat.reduceBEq, RH, h1', h2'', h2', FF, LN, NN, NT]
  · have h1' := decide_eq_false h1
    conv => arg 1; simp (maxSteps := 1000000) (disch := first | assumption | decide | with_unfolding_all rfl | omega | (simp only [LN] <;> omega) | (simp only [RO, OF])) only [RR, RM, LN, TT, d73_at, ↓reduceIte, Nat.reduceEqDiff, Nat.reduceLT, Nat.reduceLeDiff, Nat.reduceAdd, Nat.reduceSub, Nat.reduceMul, Nat.reduceMod, Nat.reduceDiv, Nat.reduceBEq, RH, h1']
    refine J.eq go_seq ?_
    conv => arg 1; simp (maxSteps := 1000000) (disch := first | assumption | decide | with_unfolding_all rfl | omega | (simp only [LN] <;> omega) | (simp only [RO, OF])) only [RR, RM, LN, TT, d73_at, ↓reduceIte, Nat.reduceEqDiff, Nat.reduceLT, Nat.reduceLeDiff, Nat.reduceAdd, Nat.reduceSub, Nat.reduceMul, Nat.reduceMod, Nat.reduceDiv, Nat.reduceBEq, RH, h1']
    refine J.ite (fun h11 => ?_) (fun h11 => ?_)
    · have h11' := decide_eq_true h11
      have h11'' : decide ((x2.length : Int) ≤ (x1.length : Int)) = false := decide_eq_false (by omega)
      refine J.some ?_
      simp (maxSteps := 20000000) (disch := first | assumption | decide | with_unfolding_all rfl | omega | (simp only [LN] <;> omega) | (simp only [RO, OF])) only [RR, RM, LN, TT, d73_at, ↓reduceIte, Nat.reduceEqDiff, Nat.reduceLT, Nat.reduceLeDiff, Nat.reduceAdd, Nat.reduceSub, Nat.reduceMul, Nat.reduceMod, Nat.reduceDiv, Nat.reduceBEq, RH, h1', h11'', h11', FF, LN, NN, NT]
    · have h11' := decide_eq_false h11
      have h11'' : decide ((x2.length : Int) ≤ (x1.length : Int)) = true := decide_eq_true (by omega)
      conv => arg 1; simp (maxSteps := 1000000) (disch := first | assumption | decide | with_unfolding_all rfl | omega | (simp only [LN] <;> omega) | (simp only [RO, OF])) only [RR, RM, LN, TT, d73_at, ↓reduceIte, Nat.reduceEqDiff, Nat.reduceLT, Nat.reduceLeDiff, Nat.reduceAdd, Nat.reduceSub, Nat.reduceMul, Nat.reduceMod, Nat.reduceDiv, Nat.reduceBEq, RH, h1', h11'', h11']
      refine J.eq ret_seq ?_
      refine J.some ?_
      simp (maxSteps := 20000000) (disch := first | assumption | decide | with_unfolding_all rfl | omega | (simp only [LN] <;> omega) | (simp only [RO, OF])) only [RR, RM, LN, TT, d73_at, ↓reduceIte, Nat.reduceEqDiff, Nat.reduceLT, Nat.reduceLeDiff, Nat.reduceAdd, Nat.reduceSub, Nat.reduceMul, Nat.reduceMod, Nat.reduceDiv, Nat.reduceBEq, RH, h1', h11'', h11', FF, LN, NN, NT]
noncomputable def t73 (fu : Nat) : CallP := noP
theorem t73_ok (fu : Nat) : CpOK Tryz.prog (t73 fu ) := noP_ok
theorem ok73 (fu : Nat) (x1 : List Int) (x2 : List Int) (r) (h : ref01_Compare fu x1 x2 = some r) : PureOK Tryz.prog 73 [.arr x1.length (lm (ik .u32) x1), .arr x2.length (lm (ik .u32) x2)] (e73 r) :=
  pure_J mixed (cp := t73 fu ) (t73_ok fu  ) noI_ok i73 (w73 _ fu x1 x2  ) h
/-! 131: lattice/latticeref01.least -/
def d131 : List (Nat × List Nat) := [(0, [4]), (0, [0, 1, 6]), (0, []), (0, [7]), (0, []), (0, []), (0, [8, 9, 10]), (0, []), (0, [12, 13, 14, 15, 16, 17]), (0, []), (0, [18, 19, 20, 21, 22, 23]), (0, []), (0, [25]), (0, []), (0, [26]), (0, []), (0, [5, 27])]
def d131_at := And.intro (show d131.getD 0 (0, []) = (0, [4]) from rfl) <| And.intro (show d131.getD 1 (0, []) = (0, [0, 1, 6]) from rfl) <| And.intro (show d131.getD 2 (0, []) = (0, []) from rfl) <| And.intro (show d131.getD 3 (0, []) = (0, [7]) from rfl) <| And.intro (show d131.getD 4 (0, []) = (0, []) from rfl) <| And.intro (show d131.getD 5 (0, []) = (0, []) from rfl) <| And.intro (show d131.getD 6 (0, []) = (0, [8, 9, 10]) from rfl) <| And.intro (show d131.getD 7 (0, []) = (0, []) from rfl) <| And.intro (show d131.getD 8 (0, []) = (0, [12, 13, 14, 15, 16, 17]) from rfl) <| And.intro (show d131.getD 9 (0, []) = (0, []) from rfl) <| And.intro (show d131.getD 10 (0, []) = (0, [18, 19, 20, 21, 22, 23]) from rfl) <| And.intro (show d131.getD 11 (0, []) = (0, []) from rfl) <| And.intro (show d131.getD 12 (0, []) = (0, [25]) from rfl) <| And.intro (show d131.getD 13 (0, []) = (0, []) from rfl) <| And.intro (show d131.getD 14 (0, []) = (0, [26]) from rfl) <| And.intro (show d131.getD 15 (0, []) = (0, []) from rfl) <| (show d131.getD 16 (0, []) = (0, [5, 27]) from rfl)
theorem i131 : finfo Tryz.prog 131 d131 = some ⟨bodyOf Tryz.f131, [.tmp 4], [24]⟩ := finfo_at Tryz.func131 rfl (by kernel_rfl) (by kernel_rfl)
def e131 : Int → AV := fun r => .v (.int .u32 r)
set_option maxHeartbeats 20000000 in
theorem w131 (cp : CallP) (fu : Nat) (x1 : List Int) (x2 : List Int) (H68_0 : ∀ (a0 : Int) r, ref01_Amount fu a0 = some r → cp 68 [.v (.int .u32 a0)] = some (.arr r.length (lm (ik .u32) r))) (H76_0 : ∀ (a0 : List Int) (a1 : List Int) r, ref01_Times fu a0 a1 = some r → cp 76 [.arr a0.length (lm (ik .u32) a0), .arr a1.length (lm (ik .u32) a1)] = some (.arr r.length (lm (ik .u32) r))) (H73_0 : ∀ (a0 : List Int) (a1 : List Int) r, ref01_Compare fu a0 a1 = some r → cp 73 [.arr a0.length (lm (ik .u32) a0), .arr a1.length (lm (ik .u32) a1)] = some (.v (.int .i64 r))) : J (go Tryz.prog noC cp noI 0 [] d131 fu (fin Tryz.prog [.tmp 4] [24]) (bodyOf Tryz.f131) (initE 0 [.arr x1.length (lm (ik .u32) x1), .arr x2.length (lm (ik .u32) x2)]) [] []) (ref01_least fu x1 x2) e131 := by
  unfold ref01_least e131
  conv => arg 1; simp (maxSteps := 1000000) (disch := first | assumption | decide | with_unfolding_all rfl | omega | (simp only [LN] <;> omega) | (simp only [RO, OF])) only [bodyOf, Tryz.f131, RR, RM, LN, TT, d131_at, ↓reduceIte, Nat.reduceEqDiff, Nat.reduceLT, Nat.reduceLeDiff, Nat.reduceAdd, Nat.reduceSub, Nat.reduceMul, Nat.reduceMod, Nat.reduceDiv, Nat.reduceBEq, RH]
  refine J.eq go_seq ?_
  conv => arg 1; simp (maxSteps := 1000000) (disch := first | assumption | decide | with_unfolding_all rfl | omega | (simp only [LN] <;> omega) | (simp only [RO, OF])) only [RR, RM, LN, TT, d131_at, ↓reduceIte, Nat.reduceEqDiff, Nat.reduceLT, Nat.reduceLeDiff, Nat.reduceAdd, Nat.reduceSub, Nat.reduceMul, Nat.reduceMod, Nat.reduceDiv, Nat.reduceBEq, RH]
  unfold ref01_least_W1
  refine J.loop (fun (s : Int × Int) => ([(0, .arr x1.length (lm (ik .u32) x1)), (1, .arr x2.length (lm (ik .u32) x2)), (5, .v (.int .u32 s.1)), (6, .v (.int .u32 s.2))], [])) (fun next s => ref01_least_L1 fu x1 x2 (fun x6 x7 => next (x6, x7)) s.1 s.2) (s0 := (0, 2139095041)) ?_ ?_ ?_
  · first | rfl | (simp only [LN, NN, NT])
  · first | (simp (disch := first | assumption | decide | with_unfolding_all rfl | omega | (simp only [LN] <;> omega) | (simp only [RO, OF])) only [RR, ↓reduceIte, Nat.reduceEqDiff, Nat.reduceLT, Nat.reduceLeDiff, Nat.reduceAdd, Nat.reduceSub, Nat.reduceMul, Nat.reduceMod, Nat.reduceDiv, Nat.reduceBEq, LN, NN, NT]; done) | (simp (disch := first | assumption | decide | with_unfolding_all rfl | omega | (simp only [LN] <;> omega) | (simp only [RO, OF])) only [RR, ↓reduceIte, Nat.reduceEqDiff, Nat.reduceLT, Nat.reduceLeDiff, Nat.reduceAdd, Nat.reduceSub, Nat.reduceMul, Nat.reduceMod, Nat.reduceDiv, Nat.reduceBEq, LN, fm_app, NN, NT]; done) | rfl
  rintro next k1 hn1 ⟨x6, x7⟩
  let nx1 : Int → Int → Option Int := (fun x6 x7 => next (x6, x7))
  show J _ (ref01_least_L1 fu x1 x2 nx1 x6 x7) _
  unfold ref01_least_L1
  refine J.eq go_seq ?_
  conv => arg 1; simp (maxSteps := 1000000) (disch := first | assumption | decide | with_unfolding_all rfl | omega | (simp only [LN] <;> omega) | (simp only [RO, OF])) only [RR, RM, LN, TT, d131_at, ↓reduceIte, Nat.reduceEqDiff, Nat.reduceLT, Nat.reduceLeDiff, Nat.reduceAdd, Nat.reduceSub, Nat.reduceMul, Nat.reduceMod, Nat.reduceDiv, Nat.reduceBEq, RH]
  refine J.ite (fun h1 => ?_) (fun h1 => ?_)
  · have h1' := decide_eq_true h1
    have h1'' : decide ((wk .u32 (x7 - x6)) ≤ 1) = false := decide_eq_false (by omega)
    conv => arg 1; simp (maxSteps := 1000000) (disch := first | assumption | decide | with_unfolding_all rfl | omega | (simp only [LN] <;> omega) | (simp only [RO, OF])) only [RR, RM, LN, TT, d131_at, ↓reduceIte, Nat.reduceEqDiff, Nat.reduceLT, Nat.reduceLeDiff, Nat.reduceAdd, Nat.reduceSub, Nat.reduceMul, Nat.reduceMod, Nat.reduceDiv, Nat.reduceBEq, RH, h1'', h1']
    refine J.eq ret_seq ?_
    refine J.bind fun x11 h2 => ?_
    have e_h2 := H68_0 _ _ h2
    try simp only [NN, NT, LN] at e_h2
    refine J.bind fun x12 h3 => ?_
    have e_h3 := H76_0 _ _ _ h3
    try simp only [NN, NT, LN] at e_h3
    refine J.bind fun x13 h4 => ?_
    have e_h4 := H73_0 _ _ _ h4
    try simp only [NN, NT, LN] at e_h4
    conv => arg 1; simp (maxSteps := 1000000) (disch := first | assumption | decide | with_unfolding_all rfl | omega | (simp only [LN] <;> omega) | (simp only [RO, OF])) only [RR, RM, LN, TT, d131_at, ↓reduceIte, Nat.reduceEqDiff, Nat.reduceLT, Nat.reduceLeDiff, Nat.reduceAdd, Nat.reduceSub, Nat.reduceMul, Nat.reduceMod, Nat.reduceDiv, Nat.reduceBEq, RH, h1'', h1', e_h2, e_h3, e_h4]
    refine J.ite (fun h5 => ?_) (fun h5 => ?_)
    · have h5' := decide_eq_true h5
      have h5'' : decide (0 < x13) = false := decide_eq_false (by omega)
      conv => arg 1; simp (maxSteps := 1000000) (disch := first | assumption | decide | with_unfolding_all rfl | omega | (simp only [LN] <;> omega) | (simp only [RO, OF])) only [RR, RM, LN, TT, d131_at, ↓reduceIte, Nat.reduceEqDiff, Nat.reduceLT, Nat.reduceLeDiff, Nat.reduceAdd, Nat.reduceSub, Nat.reduceMul, Nat.reduceMod, Nat.reduceDiv, Nat.reduceBEq, RH, h1'', h1', e_h2, e_h3, e_h4, h5'', h5']
      refine J.next (s := (wk .u32 (x6 + (wk .u32 (Int.tdiv (wk .u32 (x7 - x6)) 2))), x7)) hn1 ?_ ?_
      · first | rfl | (simp only [LN, NN, NT])
      · first | (simp (disch := first | assumption | decide | with_unfolding_all rfl | omega | (simp only [LN] <;> omega) | (simp only [RO, OF])) only [RR, ↓reduceIte, Nat.reduceEqDiff, Nat.reduceLT, Nat.reduceLeDiff, Nat.reduceAdd, Nat.reduceSub, Nat.reduceMul, Nat.reduceMod, Nat.reduceDiv, Nat.reduceBEq, LN, NN, NT]; done) | (simp (disch := first | assumption | decide | with_unfolding_all rfl | omega | (simp only [LN] <;> omega) | (simp only [RO, OF])) only [RR, ↓reduceIte, Nat.reduceEqDiff, Nat.reduceLT, Nat.reduceLeDiff, Nat.reduceAdd, Nat.reduceSub, Nat.reduceMul, Nat.reduceMod, Nat.reduceDiv, Nat.reduceBEq, LN, fm_app, NN, NT]; done) | rfl
    · have h5' := decide_eq_false h5
      have h5'' : decide (0 < x13) = true := decide_eq_true (by omega)
      conv => arg 1; simp (maxSteps := 1000000) (disch := first | assumption | decide | with_unfolding_all rfl | omega | (simp only [LN] <;> omega) | (simp only [RO, OF])) only [RR, RM, LN, TT, d131_at, ↓reduceIte, Nat.reduceEqDiff, Nat.reduceLT, Nat.reduceLeDiff, Nat.reduceAdd, Nat.reduceSub, Nat.reduceMul, Nat.reduceMod, Nat.reduceDiv, Nat.reduceBEq, RH, h1'', h1', e_h2, e_h3, e_h4, h5'', h5']
      refine J.next (s := (x6, wk .u32 (x6 + (wk .u32 (Int.tdiv (wk .u32 (x7 - x6)) 2))))) hn1 ?_ ?_
      · first | rfl | (simp only [LN, NN, NT])
      · first | (simp (disch := first | assumption | decide | with_unfolding_all rfl | omega | (simp only [LN] <;> omega) | (simp only [RO, OF])) only [RR, ↓reduceIte, Nat.reduceEqDiff, Nat.reduceLT, Nat.reduceLeDiff, Nat.reduceAdd, Nat.reduceSub, Nat.reduceMul, Nat.reduceMod, Nat.reduceDiv, Nat.reduceBEq, LN, NN, NT]; done) | (simp (disch := first | assumption | decide | with_unfolding_all rfl | omega | (simp only [LN] <;> omega) | (simp only [RO, OF])) only [RR, ↓reduceIte, Nat.reduceEqDiff, Nat.reduceLT, Nat.reduceLeDiff, Nat.reduceAdd, Nat.reduceSub, Nat.reduceMul, Nat.reduceMod, Nat.reduceDiv, Nat.reduceBEq, LN, fm_app, NN, NT]; done) | rfl
  · have h1' := decide_eq_false h1
    have h1'' : decide ((wk .u32 (x7 - x6)) ≤ 1) = true := decide_eq_true (by omega)
    conv => arg 1; simp (maxSteps := 1000000) (disch := first | assumption | decide | with_unfolding_all rfl | omega | (simp only [LN] <;> omega) | (simp only [RO, OF])) only [RR, RM, LN, TT, d131_at, ↓reduceIte, Nat.reduceEqDiff, Nat.reduceLT, Nat.reduceLeDiff, Nat.reduceAdd, Nat.reduceSub, Nat.reduceMul, Nat.reduceMod, Nat.reduceDiv, Nat.reduceBEq, RH, h1'', h1']
    refine J.eq ret_seq ?_
    refine J.some ?_
    simp (maxSteps := 20000000) (disch := first | assumption | decide | with_unfolding_all rfl | omega | (simp only [LN] <;> omega) | (simp only [RO, OF])) only [RR, RM, LN, TT, d131_at, ↓reduceIte, Nat.reduceEqDiff, Nat.reduceLT, Nat.reduceLeDiff, Nat.reduceAdd, Nat.reduceSub, Nat.reduceMul, Nat.reduceMod, Nat.reduceDiv, Nat.reduceBEq, RH, h1'', h1', FF, LN, NN, NT]
noncomputable def t131 (fu : Nat) : CallP := orE 68 (mkC (fun (t : Int) => ([.v (.int .u32 t)] : List AV)) (fun t => ref01_Amount fu t) e68) (orE 76 (mkC (fun (t : (List Int) × (List Int)) => ([.arr t.1.length (lm (ik .u32) t.1), .arr t.2.length (lm (ik .u32) t.2)] : List AV)) (fun t => ref01_Times fu t.1 t.2) e76) (orE 73 (mkC (fun (t : (List Int) × (List Int)) => ([.arr t.1.length (lm (ik .u32) t.1), .arr t.2.length (lm (ik .u32) t.2)] : List AV)) (fun t => ref01_Compare fu t.1 t.2) e73) (noP)))
theorem t131_ok (fu : Nat) : CpOK Tryz.prog (t131 fu ) := orE_ok (orE_ok (orE_ok (noP_ok) (mkC_ok (fun t b h => ok73 fu t.1 t.2  b h))) (mkC_ok (fun t b h => ok76 fu t.1 t.2  b h))) (mkC_ok (fun t b h => ok68 fu t  b h))
theorem ok131 (fu : Nat) (x1 : List Int) (x2 : List Int) (r) (h : ref01_least fu x1 x2 = some r) : PureOK Tryz.prog 131 [.arr x1.length (lm (ik .u32) x1), .arr x2.length (lm (ik .u32) x2)] (e131 r) :=
  pure_J mixed (cp := t131 fu ) (t131_ok fu  ) noI_ok i131 (w131 _ fu x1 x2  (fun a0 r h => orE_hit (mkC_at (a := a0) (by intro a b h; first | (exact rfl) | (simp only [INJ, IJ] at h; first | exact h | (simp_all [Prod.ext_iff]) )) h)) (fun a0 a1 r h => orE_miss (by decide) (orE_hit (mkC_at (a := (a0, a1)) (by intro a b h; first | (exact rfl) | (simp only [INJ, IJ] at h; first | exact h | (simp_all [Prod.ext_iff]) )) h))) (fun a0 a1 r h => orE_miss (by decide) (orE_miss (by decide) (orE_hit (mkC_at (a := (a0, a1)) (by intro a b h; first | (exact rfl) | (simp only [INJ, IJ] at h; first | exact h | (simp_all [Prod.ext_iff]) )) h))))) h
/-! 71: lattice/latticeref01.Plus -/
def d71 : List (Nat × List Nat) := [(0, [4]), (0, [0, 1, 6, 7]), (0, [1000005]), (0, []), (0, []), (0, []), (0, []), (0, []), (0, [9, 10, 11, 12, 13, 14, 15, 16, 17, 18, 19, 20, 21]), (0, []), (0, [23, 24]), (0, []), (0, [25]), (0, []), (0, [26, 27, 28]), (0, []), (0, [30, 31, 32, 33, 34, 35, 36]), (0, []), (0, [37, 38, 39]), (0, []), (0, [41, 42, 43, 44, 45, 46, 47]), (0, []), (0, [48, 49, 50, 51, 52, 53]), (0, []), (0, [8, 54, 55]), (0, []), (0, [5, 56, 57])]
def d71_at := And.intro (show d71.getD 0 (0, []) = (0, [4]) from rfl) <| And.intro (show d71.getD 1 (0, []) = (0, [0, 1, 6, 7]) from rfl) <| And.intro (show d71.getD 2 (0, []) = (0, [1000005]) from rfl) <| And.intro (show d71.getD 3 (0, []) = (0, []) from rfl) <| And.intro (show d71.getD 4 (0, []) = (0, []) from rfl) <| And.intro (show d71.getD 5 (0, []) = (0, []) from rfl) <| And.intro (show d71.getD 6 (0, []) = (0, []) from rfl) <| And.intro (show d71.getD 7 (0, []) = (0, []) from rfl) <| And.intro (show d71.getD 8 (0, []) = (0, [9, 10, 11, 12, 13, 14, 15, 16, 17, 18, 19, 20, 21]) from rfl) <| And.intro (show d71.getD 9 (0, []) = (0, []) from rfl) <| And.intro (show d71.getD 10 (0, []) = (0, [23, 24]) from rfl) <| And.intro (show d71.getD 11 (0, []) = (0, []) from rfl) <| And.intro (show d71.getD 12 (0, []) = (0, [25]) from rfl) <| And.intro (show d71.getD 13 (0, []) = (0, []) from rfl) <| And.intro (show d71.getD 14 (0, []) = (0, [26, 27, 28]) from rfl) <| And.intro (show d71.getD 15 (0, []) = (0, []) from rfl) <| And.intro (show d71.getD 16 (0, []) = (0, [30, 31, 32, 33, 34, 35, 36]) from rfl) <| And.intro (show d71.getD 17 (0, []) = (0, []) from rfl) <| And.intro (show d71.getD 18 (0, []) = (0, [37, 38, 39]) from rfl) <| And.intro (show d71.getD 19 (0, []) = (0, []) from rfl) <| And.intro (show d71.getD 20 (0, []) = (0, [41, 42, 43, 44, 45, 46, 47]) from rfl) <| And.intro (show d71.getD 21 (0, []) = (0, []) from rfl) <| And.intro (show d71.getD 22 (0, []) = (0, [48, 49, 50, 51, 52, 53]) from rfl) <| And.intro (show d71.getD 23 (0, []) = (0, []) from rfl) <| And.intro (show d71.getD 24 (0, []) = (0, [8, 54, 55]) from rfl) <| And.intro (show d71.getD 25 (0, []) = (0, []) from rfl) <| (show d71.getD 26 (0, []) = (0, [5, 56, 57]) from rfl)
theorem i71 : finfo Tryz.prog 71 d71 = some ⟨bodyOf Tryz.f71, [.tmp 4], [98]⟩ := finfo_at Tryz.func71 rfl (by kernel_rfl) (by kernel_rfl)
def e71 : (List Int) → AV := fun r => .arr r.length (lm (ik .u32) r)
set_option maxHeartbeats 20000000 in
theorem w71 (cp : CallP) (fu : Nat) (x1 : List Int) (x2 : List Int) (H132_0 : ∀ (a0 : List Int) r, ref01_trim fu a0 = some r → cp 132 [.arr a0.length (lm (ik .u32) a0)] = some (.arr r.length (lm (ik .u32) r))) : J (go Tryz.prog noC cp noI 0 [] d71 fu (fin Tryz.prog [.tmp 4] [98]) (bodyOf Tryz.f71) (initE 0 [.arr x1.length (lm (ik .u32) x1), .arr x2.length (lm (ik .u32) x2)]) [] []) (ref01_Plus fu x1 x2) e71 := by
  unfold ref01_Plus e71
  conv => arg 1; simp (maxSteps := 1000000) (disch := first | assumption | decide | with_unfolding_all rfl | omega | (simp only [LN] <;> omega) | (simp only [RO, OF])) only [bodyOf, Tryz.f71, RR, RM, LN, TT, d71_at, ↓reduceIte, Nat.reduceEqDiff, Nat.reduceLT, Nat.reduceLeDiff, Nat.reduceAdd, Nat.reduceSub, Nat.reduceMul, Nat.reduceMod, Nat.reduceDiv, Nat.reduceBEq, RH]
  refine J.joinS (fun (t : List Int) => ([(5, .own (0, 5, 77) 0 t.length t.length)], [((0, 5, 77), .sl true true 1 t.length (lm (ik .u32) t))])) (fun t => ref01_Plus_k1 fu t) ?_ (fun hj1 => ?_)
  · rintro x3
    show J _ (ref01_Plus_k1 fu x3) _
    unfold ref01_Plus_k1
    refine J.bind fun x4 h1 => ?_
    have e_h1 := H132_0 _ _ h1
    try simp only [NN, NT, LN] at e_h1
    refine J.some ?_
    simp (maxSteps := 20000000) (disch := first | assumption | decide | with_unfolding_all rfl | omega | (simp only [LN] <;> omega) | (simp only [RO, OF])) only [RR, RM, LN, TT, d71_at, ↓reduceIte, Nat.reduceEqDiff, Nat.reduceLT, Nat.reduceLeDiff, Nat.reduceAdd, Nat.reduceSub, Nat.reduceMul, Nat.reduceMod, Nat.reduceDiv, Nat.reduceBEq, RH, e_h1, FF, LN, NN, NT]
  · conv => arg 1; simp (maxSteps := 1000000) (disch := first | assumption | decide | with_unfolding_all rfl | omega | (simp only [LN] <;> omega) | (simp only [RO, OF])) only [RR, RM, LN, TT, d71_at, ↓reduceIte, Nat.reduceEqDiff, Nat.reduceLT, Nat.reduceLeDiff, Nat.reduceAdd, Nat.reduceSub, Nat.reduceMul, Nat.reduceMod, Nat.reduceDiv, Nat.reduceBEq, RH]
    unfold ref01_Plus_W1
    refine J.loop (fun (s : (List Int) × Int × Int) => ([(0, .arr x1.length (lm (ik .u32) x1)), (1, .arr x2.length (lm (ik .u32) x2)), (5, .own (0, 5, 77) 0 s.1.length s.1.length), (6, .v (.int .u64 s.2.1)), (7, .v (.int .i64 s.2.2))], [((0, 5, 77), .sl true true 1 s.1.length (lm (ik .u32) s.1))])) (fun next s => ref01_Plus_L1 fu x1 x2 (fun x9 x10 x11 => next (x9, x10, x11)) s.1 s.2.1 s.2.2) (s0 := (([] : List Int), 0, 0)) ?_ ?_ ?_
    · first | rfl | (simp only [LN, NN, NT])
    · first | (simp (disch := first | assumption | decide | with_unfolding_all rfl | omega | (simp only [LN] <;> omega) | (simp only [RO, OF])) only [RR, ↓reduceIte, Nat.reduceEqDiff, Nat.reduceLT, Nat.reduceLeDiff, Nat.reduceAdd, Nat.reduceSub, Nat.reduceMul, Nat.reduceMod, Nat.reduceDiv, Nat.reduceBEq, LN, NN, NT]; done) | (simp (disch := first | assumption | decide | with_unfolding_all rfl | omega | (simp only [LN] <;> omega) | (simp only [RO, OF])) only [RR, ↓reduceIte, Nat.reduceEqDiff, Nat.reduceLT, Nat.reduceLeDiff, Nat.reduceAdd, Nat.reduceSub, Nat.reduceMul, Nat.reduceMod, Nat.reduceDiv, Nat.reduceBEq, LN, fm_app, NN, NT]; done) | rfl
    rintro next k1 hn1 ⟨x9, x10, x11⟩
    let nx1 : (List Int) → Int → Int → Option (List Int) := (fun x9 x10 x11 => next (x9, x10, x11))
    show J _ (ref01_Plus_L1 fu x1 x2 nx1 x9 x10 x11) _
    unfold ref01_Plus_L1
    refine J.joinS (fun (t : Unit) => ([(0, .arr x1.length (lm (ik .u32) x1)), (1, .arr x2.length (lm (ik .u32) x2)), (5, .own (0, 5, 77) 0 x9.length x9.length), (6, .v (.int .u64 x10)), (7, .v (.int .i64 x11))], [((0, 5, 77), .sl true true 1 x9.length (lm (ik .u32) x9))])) (fun t => ref01_Plus_k2 fu nx1 x1 x2 x9 x10 x11) ?_ (fun hj2 => ?_)
    · rintro ⟨⟩
      show J _ (ref01_Plus_k2 fu nx1 x1 x2 x9 x10 x11) _
      unfold ref01_Plus_k2
      refine J.eq go_seq ?_
      conv => arg 1; simp (maxSteps := 1000000) (disch := first | assumption | decide | with_unfolding_all rfl | omega | (simp only [LN] <;> omega) | (simp only [RO, OF])) only [RR, RM, LN, TT, d71_at, ↓reduceIte, Nat.reduceEqDiff, Nat.reduceLT, Nat.reduceLeDiff, Nat.reduceAdd, Nat.reduceSub, Nat.reduceMul, Nat.reduceMod, Nat.reduceDiv, Nat.reduceBEq, RH]
      refine J.joinS (fun (t : Int) => ([(0, .arr x1.length (lm (ik .u32) x1)), (1, .arr x2.length (lm (ik .u32) x2)), (5, .own (0, 5, 77) 0 x9.length x9.length), (6, .v (.int .u64 x10)), (7, .v (.int .i64 x11)), (8, .v (.int .u64 t))], [((0, 5, 77), .sl true true 1 x9.length (lm (ik .u32) x9))])) (fun t => ref01_Plus_k3 fu nx1 x2 x9 x11 t) ?_ (fun hj3 => ?_)
      · rintro x16
        show J _ (ref01_Plus_k3 fu nx1 x2 x9 x11 x16) _
        unfold ref01_Plus_k3
        refine J.joinS (fun (t : Int) => ([(0, .arr x1.length (lm (ik .u32) x1)), (1, .arr x2.length (lm (ik .u32) x2)), (5, .own (0, 5, 77) 0 x9.length x9.length), (6, .v (.int .u64 x10)), (7, .v (.int .i64 x11)), (8, .v (.int .u64 t))], [((0, 5, 77), .sl true true 1 x9.length (lm (ik .u32) x9))])) (fun t => ref01_Plus_k4 fu nx1 x9 x11 t) ?_ (fun hj4 => ?_)
        · rintro x17
          show J _ (ref01_Plus_k4 fu nx1 x9 x11 x17) _
          unfold ref01_Plus_k4
          refine J.chk fun h2 => ?_
          conv => arg 1; simp (maxSteps := 1000000) (disch := first | assumption | decide | with_unfolding_all rfl | omega | (simp only [LN] <;> omega) | (simp only [RO, OF])) only [RR, RM, LN, TT, d71_at, ↓reduceIte, Nat.reduceEqDiff, Nat.reduceLT, Nat.reduceLeDiff, Nat.reduceAdd, Nat.reduceSub, Nat.reduceMul, Nat.reduceMod, Nat.reduceDiv, Nat.reduceBEq, RH]
          refine J.eq ret_seq ?_
          conv => arg 1; simp (maxSteps := 1000000) (disch := first | assumption | decide | with_unfolding_all rfl | omega | (simp only [LN] <;> omega) | (simp only [RO, OF])) only [RR, RM, LN, TT, d71_at, ↓reduceIte, Nat.reduceEqDiff, Nat.reduceLT, Nat.reduceLeDiff, Nat.reduceAdd, Nat.reduceSub, Nat.reduceMul, Nat.reduceMod, Nat.reduceDiv, Nat.reduceBEq, RH]
          refine J.next (s := (x9 ++ ([wk .u32 (Int.tmod x17 4294967296)]), wk .u64 (Int.tdiv x17 4294967296), wk .i64 (x11 + 1))) hn1 ?_ ?_
          · first | rfl | (simp only [LN, NN, NT])
          · first | (simp (disch := first | assumption | decide | with_unfolding_all rfl | omega | (simp only [LN] <;> omega) | (simp only [RO, OF])) only [RR, ↓reduceIte, Nat.reduceEqDiff, Nat.reduceLT, Nat.reduceLeDiff, Nat.reduceAdd, Nat.reduceSub, Nat.reduceMul, Nat.reduceMod, Nat.reduceDiv, Nat.reduceBEq, LN, NN, NT]; done) | (simp (disch := first | assumption | decide | with_unfolding_all rfl | omega | (simp only [LN] <;> omega) | (simp only [RO, OF])) only [RR, ↓reduceIte, Nat.reduceEqDiff, Nat.reduceLT, Nat.reduceLeDiff, Nat.reduceAdd, Nat.reduceSub, Nat.reduceMul, Nat.reduceMod, Nat.reduceDiv, Nat.reduceBEq, LN, fm_app, NN, NT]; done) | rfl
        · conv => arg 1; simp (maxSteps := 1000000) (disch := first | assumption | decide | with_unfolding_all rfl | omega | (simp only [LN] <;> omega) | (simp only [RO, OF])) only [RR, RM, LN, TT, d71_at, ↓reduceIte, Nat.reduceEqDiff, Nat.reduceLT, Nat.reduceLeDiff, Nat.reduceAdd, Nat.reduceSub, Nat.reduceMul, Nat.reduceMod, Nat.reduceDiv, Nat.reduceBEq, RH]
          refine J.ite (fun h3 => ?_) (fun h3 => ?_)
          · have h3' := decide_eq_true h3
            have h3'' : decide ((x2.length : Int) ≤ x11) = false := decide_eq_false (by omega)
            refine J.at fun x18 h4 h5 h6 => ?_
            conv => arg 1; simp (maxSteps := 1000000) (disch := first | assumption | decide | with_unfolding_all rfl | omega | (simp only [LN] <;> omega) | (simp only [RO, OF])) only [RR, RM, LN, TT, d71_at, ↓reduceIte, Nat.reduceEqDiff, Nat.reduceLT, Nat.reduceLeDiff, Nat.reduceAdd, Nat.reduceSub, Nat.reduceMul, Nat.reduceMod, Nat.reduceDiv, Nat.reduceBEq, RH, h3'', h3', lm_ik h6]
            refine J.jmp (t := wk .u64 (x16 + (wk .u64 x18))) hj4 ?_ ?_
            · first | rfl | (simp only [LN, NN, NT])
            · first | (simp (disch := first | assumption | decide | with_unfolding_all rfl | omega | (simp only [LN] <;> omega) | (simp only [RO, OF])) only [RR, ↓reduceIte, Nat.reduceEqDiff, Nat.reduceLT, Nat.reduceLeDiff, Nat.reduceAdd, Nat.reduceSub, Nat.reduceMul, Nat.reduceMod, Nat.reduceDiv, Nat.reduceBEq, LN, NN, NT]; done) | (simp (disch := first | assumption | decide | with_unfolding_all rfl | omega | (simp only [LN] <;> omega) | (simp only [RO, OF])) only [RR, ↓reduceIte, Nat.reduceEqDiff, Nat.reduceLT, Nat.reduceLeDiff, Nat.reduceAdd, Nat.reduceSub, Nat.reduceMul, Nat.reduceMod, Nat.reduceDiv, Nat.reduceBEq, LN, fm_app, NN, NT]; done) | rfl
          · have h3' := decide_eq_false h3
            have h3'' : decide ((x2.length : Int) ≤ x11) = true := decide_eq_true (by omega)
            conv => arg 1; simp (maxSteps := 1000000) (disch := first | assumption | decide | with_unfolding_all rfl | omega | (simp only [LN] <;> omega) | (simp only [RO, OF])) only [RR, RM, LN, TT, d71_at, ↓reduceIte, Nat.reduceEqDiff, Nat.reduceLT, Nat.reduceLeDiff, Nat.reduceAdd, Nat.reduceSub, Nat.reduceMul, Nat.reduceMod, Nat.reduceDiv, Nat.reduceBEq, RH, h3'', h3']
            refine J.jmp (t := x16) hj4 ?_ ?_
            · first | rfl | (simp only [LN, NN, NT])
            · first | (simp (disch := first | assumption | decide | with_unfolding_all rfl | omega | (simp only [LN] <;> omega) | (simp only [RO, OF])) only [RR, ↓reduceIte, Nat.reduceEqDiff, Nat.reduceLT, Nat.reduceLeDiff, Nat.reduceAdd, Nat.reduceSub, Nat.reduceMul, Nat.reduceMod, Nat.reduceDiv, Nat.reduceBEq, LN, NN, NT]; done) | (simp (disch := first | assumption | decide | with_unfolding_all rfl | omega | (simp only [LN] <;> omega) | (simp only [RO, OF])) only [RR, ↓reduceIte, Nat.reduceEqDiff, Nat.reduceLT, Nat.reduceLeDiff, Nat.reduceAdd, Nat.reduceSub, Nat.reduceMul, Nat.reduceMod, Nat.reduceDiv, Nat.reduceBEq, LN, fm_app, NN, NT]; done) | rfl
      · conv => arg 1; simp (maxSteps := 1000000) (disch := first | assumption | decide | with_unfolding_all rfl | omega | (simp only [LN] <;> omega) | (simp only [RO, OF])) only [RR, RM, LN, TT, d71_at, ↓reduceIte, Nat.reduceEqDiff, Nat.reduceLT, Nat.reduceLeDiff, Nat.reduceAdd, Nat.reduceSub, Nat.reduceMul, Nat.reduceMod, Nat.reduceDiv, Nat.reduceBEq, RH]
        refine J.ite (fun h7 => ?_) (fun h7 => ?_)
        · have h7' := decide_eq_true h7
          have h7'' : decide ((x1.length : Int) ≤ x11) = false := decide_eq_false (by omega)
          refine J.at fun x19 h8 h9 h10 => ?_
          conv => arg 1; simp (maxSteps := 1000000) (disch := first | assumption | decide | with_unfolding_all rfl | omega | (simp only [LN] <;> omega) | (simp only [RO, OF])) only [RR, RM, LN, TT, d71_at, ↓reduceIte, Nat.reduceEqDiff, Nat.reduceLT, Nat.reduceLeDiff, Nat.reduceAdd, Nat.reduceSub, Nat.reduceMul, Nat.reduceMod, Nat.reduceDiv, Nat.reduceBEq, RH, h7'', h7', lm_ik h10]
          refine J.jmp (t := wk .u64 (x10 + (wk .u64 x19))) hj3 ?_ ?_
          · first | rfl | (simp only [LN, NN, NT])
          · first | (simp (disch := first | assumption | decide | with_unfolding_all rfl | omega | (simp only [LN] <;> omega) | (simp only [RO, OF])) only [RR, ↓reduceIte, Nat.reduceEqDiff, Nat.reduceLT, Nat.reduceLeDiff, Nat.reduceAdd, Nat.reduceSub, Nat.reduceMul, Nat.reduceMod, Nat.reduceDiv, Nat.reduceBEq, LN, NN, NT]; done) | (simp (disch := first | assumption | decide | with_unfolding_all rfl | omega | (simp only [LN] <;> omega) | (simp only [RO, OF])) only [RR, ↓reduceIte, Nat.reduceEqDiff, Nat.reduceLT, Nat.reduceLeDiff, Nat.reduceAdd, Nat.reduceSub, Nat.reduceMul, Nat.reduceMod, Nat.reduceDiv, Nat.reduceBEq, LN, fm_app, NN, NT]; done) | rfl
        · have h7' := decide_eq_false h7
          have h7'' : decide ((x1.length : Int) ≤ x11) = true := decide_eq_true (by omega)
          conv => arg 1; simp (maxSteps := 1000000) (disch := first | assumption | decide | with_unfolding_all rfl | omega | (simp only [LN] <;> omega) | (simp only [RO, OF])) only [RR, RM, LN, TT, d71_at, ↓reduceIte, Nat.reduceEqDiff, Nat.reduceLT, Nat.reduceLeDiff, Nat.reduceAdd, Nat.reduceSub, Nat.reduceMul, Nat.reduceMod, Nat.reduceDiv, Nat.reduceBEq, RH, h7'', h7']
          refine J.jmp (t := x10) hj3 ?_ ?_
          · first | rfl | (simp only [LN, NN, NT])
          · first | (simp (disch := first | assumption | decide | with_unfolding_all rfl | omega | (simp only [LN] <;> omega) | (simp only [RO, OF])) only [RR, ↓reduceIte, Nat.reduceEqDiff, Nat.reduceLT, Nat.reduceLeDiff, Nat.reduceAdd, Nat.reduceSub, Nat.reduceMul, Nat.reduceMod, Nat.reduceDiv, Nat.reduceBEq, LN, NN, NT]; done) | (simp (disch := first | assumption | decide | with_unfolding_all rfl | omega | (simp only [LN] <;> omega) | (simp only [RO, OF])) only [RR, ↓reduceIte, Nat.reduceEqDiff, Nat.reduceLT, Nat.reduceLeDiff, Nat.reduceAdd, Nat.reduceSub, Nat.reduceMul, Nat.reduceMod, Nat.reduceDiv, Nat.reduceBEq, LN, fm_app, NN, NT]; done) | rfl
    · refine J.eq go_seq ?_
      conv => arg 1; simp (maxSteps := 1000000) (disch := first | assumption | decide | with_unfolding_all rfl | omega | (simp only [LN] <;> omega) | (simp only [RO, OF])) only [RR, RM, LN, TT, d71_at, ↓reduceIte, Nat.reduceEqDiff, Nat.reduceLT, Nat.reduceLeDiff, Nat.reduceAdd, Nat.reduceSub, Nat.reduceMul, Nat.reduceMod, Nat.reduceDiv, Nat.reduceBEq, RH]
      refine J.ite (fun h11 => ?_) (fun h11 => ?_)
      · have h11' := decide_eq_true h11
        have h11'' : decide ((x1.length : Int) ≤ x11) = false := decide_eq_false (by omega)
        conv => arg 1; simp (maxSteps := 1000000) (disch := first | assumption | decide | with_unfolding_all rfl | omega | (simp only [LN] <;> omega) | (simp only [RO, OF])) only [RR, RM, LN, TT, d71_at, ↓reduceIte, Nat.reduceEqDiff, Nat.reduceLT, Nat.reduceLeDiff, Nat.reduceAdd, Nat.reduceSub, Nat.reduceMul, Nat.reduceMod, Nat.reduceDiv, Nat.reduceBEq, RH, h11'', h11']
        refine J.eq ret_seq ?_
        conv => arg 1; simp (maxSteps := 1000000) (disch := first | assumption | decide | with_unfolding_all rfl | omega | (simp only [LN] <;> omega) | (simp only [RO, OF])) only [RR, RM, LN, TT, d71_at, ↓reduceIte, Nat.reduceEqDiff, Nat.reduceLT, Nat.reduceLeDiff, Nat.reduceAdd, Nat.reduceSub, Nat.reduceMul, Nat.reduceMod, Nat.reduceDiv, Nat.reduceBEq, RH, h11'', h11']
        refine J.jmp (t := ()) hj2 ?_ ?_
        · first | rfl | (simp only [LN, NN, NT])
        · first | (simp (disch := first | assumption | decide | with_unfolding_all rfl | omega | (simp only [LN] <;> omega) | (simp only [RO, OF])) only [RR, ↓reduceIte, Nat.reduceEqDiff, Nat.reduceLT, Nat.reduceLeDiff, Nat.reduceAdd, Nat.reduceSub, Nat.reduceMul, Nat.reduceMod, Nat.reduceDiv, Nat.reduceBEq, LN, NN, NT]; done) | (simp (disch := first | assumption | decide | with_unfolding_all rfl | omega | (simp only [LN] <;> omega) | (simp only [RO, OF])) only [RR, ↓reduceIte, Nat.reduceEqDiff, Nat.reduceLT, Nat.reduceLeDiff, Nat.reduceAdd, Nat.reduceSub, Nat.reduceMul, Nat.reduceMod, Nat.reduceDiv, Nat.reduceBEq, LN, fm_app, NN, NT]; done) | rfl
      · have h11' := decide_eq_false h11
        have h11'' : decide ((x1.length : Int) ≤ x11) = true := decide_eq_true (by omega)
        conv => arg 1; simp (maxSteps := 1000000) (disch := first | assumption | decide | with_unfolding_all rfl | omega | (simp only [LN] <;> omega) | (simp only [RO, OF])) only [RR, RM, LN, TT, d71_at, ↓reduceIte, Nat.reduceEqDiff, Nat.reduceLT, Nat.reduceLeDiff, Nat.reduceAdd, Nat.reduceSub, Nat.reduceMul, Nat.reduceMod, Nat.reduceDiv, Nat.reduceBEq, RH, h11'', h11']
        refine J.ite (fun h12 => ?_) (fun h12 => ?_)
        · have h12' := decide_eq_true h12
          have h12'' : decide ((x2.length : Int) ≤ x11) = false := decide_eq_false (by omega)
          conv => arg 1; simp (maxSteps := 1000000) (disch := first | assumption | decide | with_unfolding_all rfl | omega | (simp only [LN] <;> omega) | (simp only [RO, OF])) only [RR, RM, LN, TT, d71_at, ↓reduceIte, Nat.reduceEqDiff, Nat.reduceLT, Nat.reduceLeDiff, Nat.reduceAdd, Nat.reduceSub, Nat.reduceMul, Nat.reduceMod, Nat.reduceDiv, Nat.reduceBEq, RH, h11'', h11', h12'', h12']
          refine J.eq ret_seq ?_
          conv => arg 1; simp (maxSteps := 1000000) (disch := first | assumption | decide | with_unfolding_all rfl | omega | (simp only [LN] <;> omega) | (simp only [RO, OF])) only [RR, RM, LN, TT, d71_at, ↓reduceIte, Nat.reduceEqDiff, Nat.reduceLT, Nat.reduceLeDiff, Nat.reduceAdd, Nat.reduceSub, Nat.reduceMul, Nat.reduceMod, Nat.reduceDiv, Nat.reduceBEq, RH, h11'', h11', h12'', h12']
          refine J.jmp (t := ()) hj2 ?_ ?_
          · first | rfl | (simp only [LN, NN, NT])
          · first | (simp (disch := first | assumption | decide | with_unfolding_all rfl | omega | (simp only [LN] <;> omega) | (simp only [RO, OF])) only [RR, ↓reduceIte, Nat.reduceEqDiff, Nat.reduceLT, Nat.reduceLeDiff, Nat.reduceAdd, Nat.reduceSub, Nat.reduceMul, Nat.reduceMod, Nat.reduceDiv, Nat.reduceBEq, LN, NN, NT]; done) | (simp (disch := first | assumption | decide | with_unfolding_all rfl | omega | (simp only [LN] <;> omega) | (simp only [RO, OF])) only [RR, ↓reduceIte, Nat.reduceEqDiff, Nat.reduceLT, Nat.reduceLeDiff, Nat.reduceAdd, Nat.reduceSub, Nat.reduceMul, Nat.reduceMod, Nat.reduceDiv, Nat.reduceBEq, LN, fm_app, NN, NT]; done) | rfl
        · have h12' := decide_eq_false h12
          have h12'' : decide ((x2.length : Int) ≤ x11) = true := decide_eq_true (by omega)
          conv => arg 1; simp (maxSteps := 1000000) (disch := first | assumption | decide | with_unfolding_all rfl | omega | (simp only [LN] <;> omega) | (simp only [RO, OF])) only [RR, RM, LN, TT, d71_at, ↓reduceIte, Nat.reduceEqDiff, Nat.reduceLT, Nat.reduceLeDiff, Nat.reduceAdd, Nat.reduceSub, Nat.reduceMul, Nat.reduceMod, Nat.reduceDiv, Nat.reduceBEq, RH, h11'', h11', h12'', h12']
          refine J.eq ret_seq ?_
          conv => arg 1; simp (maxSteps := 1000000) (disch := first | assumption | decide | with_unfolding_all rfl | omega | (simp only [LN] <;> omega) | (simp only [RO, OF])) only [RR, RM, LN, TT, d71_at, ↓reduceIte, Nat.reduceEqDiff, Nat.reduceLT, Nat.reduceLeDiff, Nat.reduceAdd, Nat.reduceSub, Nat.reduceMul, Nat.reduceMod, Nat.reduceDiv, Nat.reduceBEq, RH, h11'', h11', h12'', h12']
          refine J.ite (fun h13 => ?_) (fun h13 => ?_)
          · have h13' := decide_eq_true h13
            have h13'' : decide (x10 ≤ 0) = false := decide_eq_false (by omega)
            conv => arg 1; simp (maxSteps := 1000000) (disch := first | assumption | decide | with_unfolding_all rfl | omega | (simp only [LN] <;> omega) | (simp only [RO, OF])) only [RR, RM, LN, TT, d71_at, ↓reduceIte, Nat.reduceEqDiff, Nat.reduceLT, Nat.reduceLeDiff, Nat.reduceAdd, Nat.reduceSub, Nat.reduceMul, Nat.reduceMod, Nat.reduceDiv, Nat.reduceBEq, RH, h11'', h11', h12'', h12', h13'', h13']
            refine J.jmp (t := ()) hj2 ?_ ?_
            · first | rfl | (simp only [LN, NN, NT])
            · first | (simp (disch := first | assumption | decide | with_unfolding_all rfl | omega | (simp only [LN] <;> omega) | (simp only [RO, OF])) only [RR, ↓reduceIte, Nat.reduceEqDiff, Nat.reduceLT, Nat.reduceLeDiff, Nat.reduceAdd, Nat.reduceSub, Nat.reduceMul, Nat.reduceMod, Nat.reduceDiv, Nat.reduceBEq, LN, NN, NT]; done) | (simp (disch := first | assumption | decide | with_unfolding_all rfl | omega | (simp only [LN] <;> omega) | (simp only [RO, OF])) only [RR, ↓reduceIte, Nat.reduceEqDiff, Nat.reduceLT, Nat.reduceLeDiff, Nat.reduceAdd, Nat.reduceSub, Nat.reduceMul, Nat.reduceMod, Nat.reduceDiv, Nat.reduceBEq, LN, fm_app, NN, NT]; done) | rfl
          · have h13' := decide_eq_false h13
            have h13'' : decide (x10 ≤ 0) = true := decide_eq_true (by omega)
            conv => arg 1; simp (maxSteps := 1000000) (disch := first | assumption | decide | with_unfolding_all rfl | omega | (simp only [LN] <;> omega) | (simp only [RO, OF])) only [RR, RM, LN, TT, d71_at, ↓reduceIte, Nat.reduceEqDiff, Nat.reduceLT, Nat.reduceLeDiff, Nat.reduceAdd, Nat.reduceSub, Nat.reduceMul, Nat.reduceMod, Nat.reduceDiv, Nat.reduceBEq, RH, h11'', h11', h12'', h12', h13'', h13']
            refine J.jmp (t := x9) hj1 ?_ ?_
            · first | rfl | (simp only [LN, NN, NT])
            · first | (simp (disch := first | assumption | decide | with_unfolding_all rfl | omega | (simp only [LN] <;> omega) | (simp only [RO, OF])) only [RR, ↓reduceIte, Nat.reduceEqDiff, Nat.reduceLT, Nat.reduceLeDiff, Nat.reduceAdd, Nat.reduceSub, Nat.reduceMul, Nat.reduceMod, Nat.reduceDiv, Nat.reduceBEq, LN, NN, NT]; done) | (simp (disch := first | assumption | decide | with_unfolding_all rfl | omega | (simp only [LN] <;> omega) | (simp only [RO, OF])) only [RR, ↓reduceIte, Nat.reduceEqDiff, Nat.reduceLT, Nat.reduceLeDiff, Nat.reduceAdd, Nat.reduceSub, Nat.reduceMul, Nat.reduceMod, Nat.reduceDiv, Nat.reduceBEq, LN, fm_app, NN, NT]; done) | rfl
noncomputable def t71 (fu : Nat) : CallP := orE 132 (mkC (fun (t : List Int) => ([.arr t.length (lm (ik .u32) t)] : List AV)) (fun t => ref01_trim fu t) e132) (noP)
theorem t71_ok (fu : Nat) : CpOK Tryz.prog (t71 fu ) := orE_ok (noP_ok) (mkC_ok (fun t b h => ok132 fu t  b h))
theorem ok71 (fu : Nat) (x1 : List Int) (x2 : List Int) (r) (h : ref01_Plus fu x1 x2 = some r) : PureOK Tryz.prog 71 [.arr x1.length (lm (ik .u32) x1), .arr x2.length (lm (ik .u32) x2)] (e71 r) :=
  pure_J mixed (cp := t71 fu ) (t71_ok fu  ) noI_ok i71 (w71 _ fu x1 x2  (fun a0 r h => orE_hit (mkC_at (a := a0) (by intro a b h; first | (exact rfl) | (simp only [INJ, IJ] at h; first | exact h | (simp_all [Prod.ext_iff]) )) h))) h
/-! 70: lattice/latticeref01.Rounded -/
def d70 : List (Nat × List Nat) := [(0, [8]), (0, []), (0, [15, 16, 17]), (0, []), (0, []), (0, []), (0, []), (0, []), (0, []), (0, []), (0, [19, 20, 21, 22, 23, 24, 25, 26, 27, 28, 29, 30, 31]), (0, []), (0, [0, 1, 32, 33, 34, 35, 36, 37, 38, 39, 40, 41, 42, 43, 44]), (0, []), (0, [45, 46, 47, 48, 49, 50, 51]), (0, []), (0, [52]), (0, []), (0, []), (0, []), (0, [55, 56]), (0, []), (0, [57, 58]), (0, []), (0, [12, 13, 59, 60, 61]), (0, []), (0, [63, 64, 65]), (0, []), (0, [11]), (0, []), (0, [67, 68, 69, 70]), (0, []), (0, [2, 3, 71, 72, 73, 74, 75, 76, 77, 78, 79, 80, 81]), (0, []), (0, [14, 82, 83, 84, 85, 86, 87, 88, 89, 90, 91]), (0, []), (0, [93, 94, 95, 96]), (0, []), (0, [9, 10, 97, 98, 99])]
def d70_at := And.intro (show d70.getD 0 (0, []) = (0, [8]) from rfl) <| And.intro (show d70.getD 1 (0, []) = (0, []) from rfl) <| And.intro (show d70.getD 2 (0, []) = (0, [15, 16, 17]) from rfl) <| And.intro (show d70.getD 3 (0, []) = (0, []) from rfl) <| And.intro (show d70.getD 4 (0, []) = (0, []) from rfl) <| And.intro (show d70.getD 5 (0, []) = (0, []) from rfl) <| And.intro (show d70.getD 6 (0, []) = (0, []) from rfl) <| And.intro (show d70.getD 7 (0, []) = (0, []) from rfl) <| And.intro (show d70.getD 8 (0, []) = (0, []) from rfl) <| And.intro (show d70.getD 9 (0, []) = (0, []) from rfl) <| And.intro (show d70.getD 10 (0, []) = (0, [19, 20, 21, 22, 23, 24, 25, 26, 27, 28, 29, 30, 31]) from rfl) <| And.intro (show d70.getD 11 (0, []) = (0, []) from rfl) <| And.intro (show d70.getD 12 (0, []) = (0, [0, 1, 32, 33, 34, 35, 36, 37, 38, 39, 40, 41, 42, 43, 44]) from rfl) <| And.intro (show d70.getD 13 (0, []) = (0, []) from rfl) <| And.intro (show d70.getD 14 (0, []) = (0, [45, 46, 47, 48, 49, 50, 51]) from rfl) <| And.intro (show d70.getD 15 (0, []) = (0, []) from rfl) <| And.intro (show d70.getD 16 (0, []) = (0, [52]) from rfl) <| And.intro (show d70.getD 17 (0, []) = (0, []) from rfl) <| And.intro (show d70.getD 18 (0, []) = (0, []) from rfl) <| And.intro (show d70.getD 19 (0, []) = (0, []) from rfl) <| And.intro (show d70.getD 20 (0, []) = (0, [55, 56]) from rfl) <| And.intro (show d70.getD 21 (0, []) = (0, []) from rfl) <| And.intro (show d70.getD 22 (0, []) = (0, [57, 58]) from rfl) <| And.intro (show d70.getD 23 (0, []) = (0, []) from rfl) <| And.intro (show d70.getD 24 (0, []) = (0, [12, 13, 59, 60, 61]) from rfl) <| And.intro (show d70.getD 25 (0, []) = (0, []) from rfl) <| And.intro (show d70.getD 26 (0, []) = (0, [63, 64, 65]) from rfl) <| And.intro (show d70.getD 27 (0, []) = (0, []) from rfl) <| And.intro (show d70.getD 28 (0, []) = (0, [11]) from rfl) <| And.intro (show d70.getD 29 (0, []) = (0, []) from rfl) <| And.intro (show d70.getD 30 (0, []) = (0, [67, 68, 69, 70]) from rfl) <| And.intro (show d70.getD 31 (0, []) = (0, []) from rfl) <| And.intro (show d70.getD 32 (0, []) = (0, [2, 3, 71, 72, 73, 74, 75, 76, 77, 78, 79, 80, 81]) from rfl) <| And.intro (show d70.getD 33 (0, []) = (0, []) from rfl) <| And.intro (show d70.getD 34 (0, []) = (0, [14, 82, 83, 84, 85, 86, 87, 88, 89, 90, 91]) from rfl) <| And.intro (show d70.getD 35 (0, []) = (0, []) from rfl) <| And.intro (show d70.getD 36 (0, []) = (0, [93, 94, 95, 96]) from rfl) <| And.intro (show d70.getD 37 (0, []) = (0, []) from rfl) <| (show d70.getD 38 (0, []) = (0, [9, 10, 97, 98, 99]) from rfl)
theorem i70 : finfo Tryz.prog 70 d70 = some ⟨bodyOf Tryz.f70, [.tmp 8], [24]⟩ := finfo_at Tryz.func70 rfl (by kernel_rfl) (by kernel_rfl)
def e70 : Int → AV := fun r => .v (.int .u32 r)
set_option maxHeartbeats 20000000 in
theorem w70 (cp : CallP) (fu : Nat) (x1 : Int) (x2 : Bool) (x3 : List Int) (x4 : List Int) (H131_0 : ∀ (a0 : List Int) (a1 : List Int) r, ref01_least fu a0 a1 = some r → cp 131 [.arr a0.length (lm (ik .u32) a0), .arr a1.length (lm (ik .u32) a1)] = some (.v (.int .u32 r))) (H68_0 : ∀ (a0 : Int) r, ref01_Amount fu a0 = some r → cp 68 [.v (.int .u32 a0)] = some (.arr r.length (lm (ik .u32) r))) (H76_0 : ∀ (a0 : List Int) (a1 : List Int) r, ref01_Times fu a0 a1 = some r → cp 76 [.arr a0.length (lm (ik .u32) a0), .arr a1.length (lm (ik .u32) a1)] = some (.arr r.length (lm (ik .u32) r))) (H73_0 : ∀ (a0 : List Int) (a1 : List Int) r, ref01_Compare fu a0 a1 = some r → cp 73 [.arr a0.length (lm (ik .u32) a0), .arr a1.length (lm (ik .u32) a1)] = some (.v (.int .i64 r))) (H71_0 : ∀ (a0 : List Int) (a1 : List Int) r, ref01_Plus fu a0 a1 = some r → cp 71 [.arr a0.length (lm (ik .u32) a0), .arr a1.length (lm (ik .u32) a1)] = some (.arr r.length (lm (ik .u32) r))) (H77_0 : ∀ (a0 : List Int) (a1 : Int) r, ref01_Twice fu a0 a1 = some r → cp 77 [.arr a0.length (lm (ik .u32) a0), .v (.int .i64 a1)] = some (.arr r.length (lm (ik .u32) r))) : J (go Tryz.prog noC cp noI 0 [] d70 fu (fin Tryz.prog [.tmp 8] [24]) (bodyOf Tryz.f70) (initE 0 [.v (.int .i64 x1), .v (.bool x2), .arr x3.length (lm (ik .u32) x3), .arr x4.length (lm (ik .u32) x4)]) [] []) (ref01_Rounded fu x1 x2 x3 x4) e70 := by
  unfold ref01_Rounded e70
  refine J.bind fun x5 h1 => ?_
  have e_h1 := H131_0 _ _ _ h1
  try simp only [NN, NT, LN] at e_h1
  conv => arg 1; simp (maxSteps := 1000000) (disch := first | assumption | decide | with_unfolding_all rfl | omega | (simp only [LN] <;> omega) | (simp only [RO, OF])) only [bodyOf, Tryz.f70, RR, RM, LN, TT, d70_at, ↓reduceIte, Nat.reduceEqDiff, Nat.reduceLT, Nat.reduceLeDiff, Nat.reduceAdd, Nat.reduceSub, Nat.reduceMul, Nat.reduceMod, Nat.reduceDiv, Nat.reduceBEq, RH, e_h1]
  refine J.joinS (fun (t : Bool × Int) => ([(0, .v (.int .i64 x1)), (1, .v (.bool t.1)), (2, .arr x3.length (lm (ik .u32) x3)), (3, .arr x4.length (lm (ik .u32) x4)), (9, .v (.int .u32 x5)), (10, .v (.int .u32 t.2))], [])) (fun t => ref01_Rounded_k1 fu x1 x3 x4 x5 t.1 t.2) ?_ (fun hj1 => ?_)
  · rintro ⟨x6, x7⟩
    show J _ (ref01_Rounded_k1 fu x1 x3 x4 x5 x6 x7) _
    unfold ref01_Rounded_k1
    refine J.joinS (fun (t : Bool × Bool) => ([(0, .v (.int .i64 x1)), (1, .v (.bool t.1)), (2, .arr x3.length (lm (ik .u32) x3)), (3, .arr x4.length (lm (ik .u32) x4)), (9, .v (.int .u32 x5)), (10, .v (.int .u32 x7)), (11, .v (.bool t.2))], [])) (fun t => ref01_Rounded_k2 fu x1 x3 x4 x5 x7 t.1 t.2) ?_ (fun hj2 => ?_)
    · rintro ⟨x8, x9⟩
      show J _ (ref01_Rounded_k2 fu x1 x3 x4 x5 x7 x8 x9) _
      unfold ref01_Rounded_k2
      refine J.joinS (fun (t : Bool) => ([(2, .arr x3.length (lm (ik .u32) x3)), (3, .arr x4.length (lm (ik .u32) x4)), (9, .v (.int .u32 x5)), (10, .v (.int .u32 x7)), (11, .v (.bool x9)), (12, .v (.bool t))], [])) (fun t => ref01_Rounded_k3 fu x3 x4 x5 x7 x9 t) ?_ (fun hj3 => ?_)
      · rintro x10
        show J _ (ref01_Rounded_k3 fu x3 x4 x5 x7 x9 x10) _
        unfold ref01_Rounded_k3
        refine J.bind fun x11 h2 => ?_
        have e_h2 := H68_0 _ _ h2
        try simp only [NN, NT, LN] at e_h2
        refine J.bind fun x12 h3 => ?_
        have e_h3 := H76_0 _ _ _ h3
        try simp only [NN, NT, LN] at e_h3
        refine J.bind fun x13 h4 => ?_
        have e_h4 := H73_0 _ _ _ h4
        try simp only [NN, NT, LN] at e_h4
        conv => arg 1; simp (maxSteps := 1000000) (disch := first | assumption | decide | with_unfolding_all rfl | omega | (simp only [LN] <;> omega) | (simp only [RO, OF])) only [RR, RM, LN, TT, d70_at, ↓reduceIte, Nat.reduceEqDiff, Nat.reduceLT, Nat.reduceLeDiff, Nat.reduceAdd, Nat.reduceSub, Nat.reduceMul, Nat.reduceMod, Nat.reduceDiv, Nat.reduceBEq, RH, e_h1, e_h2, e_h3, e_h4]
        refine J.eq go_seq ?_
        conv => arg 1; simp (maxSteps := 1000000) (disch := first | assumption | decide | with_unfolding_all rfl | omega | (simp only [LN] <;> omega) | (simp only [RO, OF])) only [RR, RM, LN, TT, d70_at, ↓reduceIte, Nat.reduceEqDiff, Nat.reduceLT, Nat.reduceLeDiff, Nat.reduceAdd, Nat.reduceSub, Nat.reduceMul, Nat.reduceMod, Nat.reduceDiv, Nat.reduceBEq, RH, e_h1, e_h2, e_h3, e_h4]
        refine J.ite (fun h5 => ?_) (fun h5 => ?_)
        · have h5' := decide_eq_true h5
          conv => arg 1; simp (maxSteps := 1000000) (disch := first | assumption | decide | with_unfolding_all rfl | omega | (simp only [LN] <;> omega) | (simp only [RO, OF])) only [RR, RM, LN, TT, d70_at, ↓reduceIte, Nat.reduceEqDiff, Nat.reduceLT, Nat.reduceLeDiff, Nat.reduceAdd, Nat.reduceSub, Nat.reduceMul, Nat.reduceMod, Nat.reduceDiv, Nat.reduceBEq, RH, e_h1, e_h2, e_h3, e_h4, h5']
          refine J.eq go_seq ?_
          conv => arg 1; simp (maxSteps := 1000000) (disch := first | assumption | decide | with_unfolding_all rfl | omega | (simp only [LN] <;> omega) | (simp only [RO, OF])) only [RR, RM, LN, TT, d70_at, ↓reduceIte, Nat.reduceEqDiff, Nat.reduceLT, Nat.reduceLeDiff, Nat.reduceAdd, Nat.reduceSub, Nat.reduceMul, Nat.reduceMod, Nat.reduceDiv, Nat.reduceBEq, RH, e_h1, e_h2, e_h3, e_h4, h5']
          refine J.ite (fun h6 => ?_) (fun h6 => ?_)
          · have h6' : x10 = true := h6
            refine J.some ?_
            simp (maxSteps := 20000000) (disch := first | assumption | decide | with_unfolding_all rfl | omega | (simp only [LN] <;> omega) | (simp only [RO, OF])) only [RR, RM, LN, TT, d70_at, ↓reduceIte, Nat.reduceEqDiff, Nat.reduceLT, Nat.reduceLeDiff, Nat.reduceAdd, Nat.reduceSub, Nat.reduceMul, Nat.reduceMod, Nat.reduceDiv, Nat.reduceBEq, RH, e_h1, e_h2, e_h3, e_h4, h5', h6', FF, LN, NN, NT]
          · have h6' : x10 = false := Bool.eq_false_iff.2 h6
            conv => arg 1; simp (maxSteps := 1000000) (disch := first | assumption | decide | with_unfolding_all rfl | omega | (simp only [LN] <;> omega) | (simp only [RO, OF])) only [RR, RM, LN, TT, d70_at, ↓reduceIte, Nat.reduceEqDiff, Nat.reduceLT, Nat.reduceLeDiff, Nat.reduceAdd, Nat.reduceSub, Nat.reduceMul, Nat.reduceMod, Nat.reduceDiv, Nat.reduceBEq, RH, e_h1, e_h2, e_h3, e_h4, h5', h6']
            refine J.eq ret_seq ?_
            refine J.some ?_
            simp (maxSteps := 20000000) (disch := first | assumption | decide | with_unfolding_all rfl | omega | (simp only [LN] <;> omega) | (simp only [RO, OF])) only [RR, RM, LN, TT, d70_at, ↓reduceIte, Nat.reduceEqDiff, Nat.reduceLT, Nat.reduceLeDiff, Nat.reduceAdd, Nat.reduceSub, Nat.reduceMul, Nat.reduceMod, Nat.reduceDiv, Nat.reduceBEq, RH, e_h1, e_h2, e_h3, e_h4, h5', h6', FF, LN, NN, NT]
        · have h5' := decide_eq_false h5
          conv => arg 1; simp (maxSteps := 1000000) (disch := first | assumption | decide | with_unfolding_all rfl | omega | (simp only [LN] <;> omega) | (simp only [RO, OF])) only [RR, RM, LN, TT, d70_at, ↓reduceIte, Nat.reduceEqDiff, Nat.reduceLT, Nat.reduceLeDiff, Nat.reduceAdd, Nat.reduceSub, Nat.reduceMul, Nat.reduceMod, Nat.reduceDiv, Nat.reduceBEq, RH, e_h1, e_h2, e_h3, e_h4, h5']
          refine J.eq ret_seq ?_
          refine J.joinS (fun (t : Unit) => ([(2, .arr x3.length (lm (ik .u32) x3)), (3, .arr x4.length (lm (ik .u32) x4)), (9, .v (.int .u32 x5)), (10, .v (.int .u32 x7)), (11, .v (.bool x9))], [])) (fun t => ref01_Rounded_k4 fu x3 x4 x5 x7 x9 x11) ?_ (fun hj4 => ?_)
          · rintro ⟨⟩
            show J _ (ref01_Rounded_k4 fu x3 x4 x5 x7 x9 x11) _
            unfold ref01_Rounded_k4
            refine J.eq go_seq ?_
            conv => arg 1; simp (maxSteps := 1000000) (disch := first | assumption | decide | with_unfolding_all rfl | omega | (simp only [LN] <;> omega) | (simp only [RO, OF])) only [RR, RM, LN, TT, d70_at, ↓reduceIte, Nat.reduceEqDiff, Nat.reduceLT, Nat.reduceLeDiff, Nat.reduceAdd, Nat.reduceSub, Nat.reduceMul, Nat.reduceMod, Nat.reduceDiv, Nat.reduceBEq, RH, e_h1, e_h2, e_h3, e_h4, h5']
            refine J.ite (fun h7 => ?_) (fun h7 => ?_)
            · have h7' : x9 = true := h7
              refine J.some ?_
              simp (maxSteps := 20000000) (disch := first | assumption | decide | with_unfolding_all rfl | omega | (simp only [LN] <;> omega) | (simp only [RO, OF])) only [RR, RM, LN, TT, d70_at, ↓reduceIte, Nat.reduceEqDiff, Nat.reduceLT, Nat.reduceLeDiff, Nat.reduceAdd, Nat.reduceSub, Nat.reduceMul, Nat.reduceMod, Nat.reduceDiv, Nat.reduceBEq, RH, e_h1, e_h2, e_h3, e_h4, h5', h7', FF, LN, NN, NT]
            · have h7' : x9 = false := Bool.eq_false_iff.2 h7
              conv => arg 1; simp (maxSteps := 1000000) (disch := first | assumption | decide | with_unfolding_all rfl | omega | (simp only [LN] <;> omega) | (simp only [RO, OF])) only [RR, RM, LN, TT, d70_at, ↓reduceIte, Nat.reduceEqDiff, Nat.reduceLT, Nat.reduceLeDiff, Nat.reduceAdd, Nat.reduceSub, Nat.reduceMul, Nat.reduceMod, Nat.reduceDiv, Nat.reduceBEq, RH, e_h1, e_h2, e_h3, e_h4, h5', h7']
              refine J.eq ret_seq ?_
              refine J.bind fun x14 h8 => ?_
              have e_h8 := H68_0 _ _ h8
              try simp only [NN, NT, LN] at e_h8
              refine J.bind fun x15 h9 => ?_
              have e_h9 := H71_0 _ _ _ h9
              try simp only [NN, NT, LN] at e_h9
              refine J.bind fun x16 h10 => ?_
              have e_h10 := H76_0 _ _ _ h10
              try simp only [NN, NT, LN] at e_h10
              refine J.bind fun x17 h11 => ?_
              have e_h11 := H77_0 _ _ _ h11
              try simp only [NN, NT, LN] at e_h11
              refine J.bind fun x18 h12 => ?_
              have e_h12 := H73_0 _ _ _ h12
              try simp only [NN, NT, LN] at e_h12
              conv => arg 1; simp (maxSteps := 1000000) (disch := first | assumption | decide | with_unfolding_all rfl | omega | (simp only [LN] <;> omega) | (simp only [RO, OF])) only [RR, RM, LN, TT, d70_at, ↓reduceIte, Nat.reduceEqDiff, Nat.reduceLT, Nat.reduceLeDiff, Nat.reduceAdd, Nat.reduceSub, Nat.reduceMul, Nat.reduceMod, Nat.reduceDiv, Nat.reduceBEq, RH, e_h1, e_h2, e_h3, e_h4, h5', h7', e_h8, e_h9, e_h10, e_h11, e_h12]
              refine J.eq go_seq ?_
              refine J.eq go_seq ?_
              conv => arg 1; simp (maxSteps := 1000000) (disch := first | assumption | decide | with_unfolding_all rfl | omega | (simp only [LN] <;> omega) | (simp only [RO, OF])) only [RR, RM, LN, TT, d70_at, ↓reduceIte, Nat.reduceEqDiff, Nat.reduceLT, Nat.reduceLeDiff, Nat.reduceAdd, Nat.reduceSub, Nat.reduceMul, Nat.reduceMod, Nat.reduceDiv, Nat.reduceBEq, RH, e_h1, e_h2, e_h3, e_h4, h5', h7', e_h8, e_h9, e_h10, e_h11, e_h12]
              refine J.ite (fun h13 => ?_) (fun h13 => ?_)
              · have h13' := decide_eq_true h13
                have h13'' : decide (0 ≤ x18) = false := decide_eq_false (by omega)
                conv => arg 1; simp (maxSteps := 1000000) (disch := first | assumption | decide | with_unfolding_all rfl | omega | (simp only [LN] <;> omega) | (simp only [RO, OF])) only [RR, RM, LN, TT, d70_at, ↓reduceIte, Nat.reduceEqDiff, Nat.reduceLT, Nat.reduceLeDiff, Nat.reduceAdd, Nat.reduceSub, Nat.reduceMul, Nat.reduceMod, Nat.reduceDiv, Nat.reduceBEq, RH, e_h1, e_h2, e_h3, e_h4, h5', h7', e_h8, e_h9, e_h10, e_h11, e_h12, h13'', h13']
                refine J.eq ret_seq ?_
                refine J.some ?_
                simp (maxSteps := 20000000) (disch := first | assumption | decide | with_unfolding_all rfl | omega | (simp only [LN] <;> omega) | (simp only [RO, OF])) only [RR, RM, LN, TT, d70_at, ↓reduceIte, Nat.reduceEqDiff, Nat.reduceLT, Nat.reduceLeDiff, Nat.reduceAdd, Nat.reduceSub, Nat.reduceMul, Nat.reduceMod, Nat.reduceDiv, Nat.reduceBEq, RH, e_h1, e_h2, e_h3, e_h4, h5', h7', e_h8, e_h9, e_h10, e_h11, e_h12, h13'', h13', FF, LN, NN, NT]
              · have h13' := decide_eq_false h13
                have h13'' : decide (0 ≤ x18) = true := decide_eq_true (by omega)
                conv => arg 1; simp (maxSteps := 1000000) (disch := first | assumption | decide | with_unfolding_all rfl | omega | (simp only [LN] <;> omega) | (simp only [RO, OF])) only [RR, RM, LN, TT, d70_at, ↓reduceIte, Nat.reduceEqDiff, Nat.reduceLT, Nat.reduceLeDiff, Nat.reduceAdd, Nat.reduceSub, Nat.reduceMul, Nat.reduceMod, Nat.reduceDiv, Nat.reduceBEq, RH, e_h1, e_h2, e_h3, e_h4, h5', h7', e_h8, e_h9, e_h10, e_h11, e_h12, h13'', h13']
                refine J.ite (fun h14 => ?_) (fun h14 => ?_)
                · have h14' := decide_eq_true h14
                  conv => arg 1; simp (maxSteps := 1000000) (disch := first | assumption | decide | with_unfolding_all rfl | omega | (simp only [LN] <;> omega) | (simp only [RO, OF])) only [RR, RM, LN, TT, d70_at, ↓reduceIte, Nat.reduceEqDiff, Nat.reduceLT, Nat.reduceLeDiff, Nat.reduceAdd, Nat.reduceSub, Nat.reduceMul, Nat.reduceMod, Nat.reduceDiv, Nat.reduceBEq, RH, e_h1, e_h2, e_h3, e_h4, h5', h7', e_h8, e_h9, e_h10, e_h11, e_h12, h13'', h13', h14']
                  refine J.eq ret_seq ?_
                  conv => arg 1; simp (maxSteps := 1000000) (disch := first | assumption | decide | with_unfolding_all rfl | omega | (simp only [LN] <;> omega) | (simp only [RO, OF])) only [RR, RM, LN, TT, d70_at, ↓reduceIte, Nat.reduceEqDiff, Nat.reduceLT, Nat.reduceLeDiff, Nat.reduceAdd, Nat.reduceSub, Nat.reduceMul, Nat.reduceMod, Nat.reduceDiv, Nat.reduceBEq, RH, e_h1, e_h2, e_h3, e_h4, h5', h7', e_h8, e_h9, e_h10, e_h11, e_h12, h13'', h13', h14']
                  refine J.ite (fun h15 => ?_) (fun h15 => ?_)
                  · have h15' := decide_eq_true h15
                    refine J.some ?_
                    simp (maxSteps := 20000000) (disch := first | assumption | decide | with_unfolding_all rfl | omega | (simp only [LN] <;> omega) | (simp only [RO, OF])) only [RR, RM, LN, TT, d70_at, ↓reduceIte, Nat.reduceEqDiff, Nat.reduceLT, Nat.reduceLeDiff, Nat.reduceAdd, Nat.reduceSub, Nat.reduceMul, Nat.reduceMod, Nat.reduceDiv, Nat.reduceBEq, RH, e_h1, e_h2, e_h3, e_h4, h5', h7', e_h8, e_h9, e_h10, e_h11, e_h12, h13'', h13', h14', h15', FF, LN, NN, NT]
                  · have h15' := decide_eq_false h15
                    conv => arg 1; simp (maxSteps := 1000000) (disch := first | assumption | decide | with_unfolding_all rfl | omega | (simp only [LN] <;> omega) | (simp only [RO, OF])) only [RR, RM, LN, TT, d70_at, ↓reduceIte, Nat.reduceEqDiff, Nat.reduceLT, Nat.reduceLeDiff, Nat.reduceAdd, Nat.reduceSub, Nat.reduceMul, Nat.reduceMod, Nat.reduceDiv, Nat.reduceBEq, RH, e_h1, e_h2, e_h3, e_h4, h5', h7', e_h8, e_h9, e_h10, e_h11, e_h12, h13'', h13', h14', h15']
                    refine J.eq ret_seq ?_
                    refine J.some ?_
                    simp (maxSteps := 20000000) (disch := first | assumption | decide | with_unfolding_all rfl | omega | (simp only [LN] <;> omega) | (simp only [RO, OF])) only [RR, RM, LN, TT, d70_at, ↓reduceIte, Nat.reduceEqDiff, Nat.reduceLT, Nat.reduceLeDiff, Nat.reduceAdd, Nat.reduceSub, Nat.reduceMul, Nat.reduceMod, Nat.reduceDiv, Nat.reduceBEq, RH, e_h1, e_h2, e_h3, e_h4, h5', h7', e_h8, e_h9, e_h10, e_h11, e_h12, h13'', h13', h14', h15', FF, LN, NN, NT]
                · have h14' := decide_eq_false h14
                  conv => arg 1; simp (maxSteps := 1000000) (disch := first | assumption | decide | with_unfolding_all rfl | omega | (simp only [LN] <;> omega) | (simp only [RO, OF])) only [RR, RM, LN, TT, d70_at, ↓reduceIte, Nat.reduceEqDiff, Nat.reduceLT, Nat.reduceLeDiff, Nat.reduceAdd, Nat.reduceSub, Nat.reduceMul, Nat.reduceMod, Nat.reduceDiv, Nat.reduceBEq, RH, e_h1, e_h2, e_h3, e_h4, h5', h7', e_h8, e_h9, e_h10, e_h11, e_h12, h13'', h13', h14']
                  refine J.eq ret_seq ?_
                  conv => arg 1; simp (maxSteps := 1000000) (disch := first | assumption | decide | with_unfolding_all rfl | omega | (simp only [LN] <;> omega) | (simp only [RO, OF])) only [RR, RM, LN, TT, d70_at, ↓reduceIte, Nat.reduceEqDiff, Nat.reduceLT, Nat.reduceLeDiff, Nat.reduceAdd, Nat.reduceSub, Nat.reduceMul, Nat.reduceMod, Nat.reduceDiv, Nat.reduceBEq, RH, e_h1, e_h2, e_h3, e_h4, h5', h7', e_h8, e_h9, e_h10, e_h11, e_h12, h13'', h13', h14']
                  refine J.eq ret_seq ?_
                  refine J.some ?_
                  simp (maxSteps := 20000000) (disch := first | assumption | decide | with_unfolding_all rfl | omega | (simp only [LN] <;> omega) | (simp only [RO, OF])) only [RR, RM, LN, TT, d70_at, ↓reduceIte, Nat.reduceEqDiff, Nat.reduceLT, Nat.reduceLeDiff, Nat.reduceAdd, Nat.reduceSub, Nat.reduceMul, Nat.reduceMod, Nat.reduceDiv, Nat.reduceBEq, RH, e_h1, e_h2, e_h3, e_h4, h5', h7', e_h8, e_h9, e_h10, e_h11, e_h12, h13'', h13', h14', FF, LN, NN, NT]
          · refine J.eq go_seq ?_
            conv => arg 1; simp (maxSteps := 1000000) (disch := first | assumption | decide | with_unfolding_all rfl | omega | (simp only [LN] <;> omega) | (simp only [RO, OF])) only [RR, RM, LN, TT, d70_at, ↓reduceIte, Nat.reduceEqDiff, Nat.reduceLT, Nat.reduceLeDiff, Nat.reduceAdd, Nat.reduceSub, Nat.reduceMul, Nat.reduceMod, Nat.reduceDiv, Nat.reduceBEq, RH, e_h1, e_h2, e_h3, e_h4, h5']
            refine J.ite (fun h16 => ?_) (fun h16 => ?_)
            · have h16' := decide_eq_true h16
              conv => arg 1; simp (maxSteps := 1000000) (disch := first | assumption | decide | with_unfolding_all rfl | omega | (simp only [LN] <;> omega) | (simp only [RO, OF])) only [RR, RM, LN, TT, d70_at, ↓reduceIte, Nat.reduceEqDiff, Nat.reduceLT, Nat.reduceLeDiff, Nat.reduceAdd, Nat.reduceSub, Nat.reduceMul, Nat.reduceMod, Nat.reduceDiv, Nat.reduceBEq, RH, e_h1, e_h2, e_h3, e_h4, h5', h16']
              refine J.eq ret_seq ?_
              refine J.some ?_
              simp (maxSteps := 20000000) (disch := first | assumption | decide | with_unfolding_all rfl | omega | (simp only [LN] <;> omega) | (simp only [RO, OF])) only [RR, RM, LN, TT, d70_at, ↓reduceIte, Nat.reduceEqDiff, Nat.reduceLT, Nat.reduceLeDiff, Nat.reduceAdd, Nat.reduceSub, Nat.reduceMul, Nat.reduceMod, Nat.reduceDiv, Nat.reduceBEq, RH, e_h1, e_h2, e_h3, e_h4, h5', h16', FF, LN, NN, NT]
            · have h16' := decide_eq_false h16
              conv => arg 1; simp (maxSteps := 1000000) (disch := first | assumption | decide | with_unfolding_all rfl | omega | (simp only [LN] <;> omega) | (simp only [RO, OF])) only [RR, RM, LN, TT, d70_at, ↓reduceIte, Nat.reduceEqDiff, Nat.reduceLT, Nat.reduceLeDiff, Nat.reduceAdd, Nat.reduceSub, Nat.reduceMul, Nat.reduceMod, Nat.reduceDiv, Nat.reduceBEq, RH, e_h1, e_h2, e_h3, e_h4, h5', h16']
              refine J.eq ret_seq ?_
              conv => arg 1; simp (maxSteps := 1000000) (disch := first | assumption | decide | with_unfolding_all rfl | omega | (simp only [LN] <;> omega) | (simp only [RO, OF])) only [RR, RM, LN, TT, d70_at, ↓reduceIte, Nat.reduceEqDiff, Nat.reduceLT, Nat.reduceLeDiff, Nat.reduceAdd, Nat.reduceSub, Nat.reduceMul, Nat.reduceMod, Nat.reduceDiv, Nat.reduceBEq, RH, e_h1, e_h2, e_h3, e_h4, h5', h16']
              refine J.ite (fun h17 => ?_) (fun h17 => ?_)
              · have h17' : x10 = true := h17
                refine J.some ?_
                simp (maxSteps := 20000000) (disch := first | assumption | decide | with_unfolding_all rfl | omega | (simp only [LN] <;> omega) | (simp only [RO, OF])) only [RR, RM, LN, TT, d70_at, ↓reduceIte, Nat.reduceEqDiff, Nat.reduceLT, Nat.reduceLeDiff, Nat.reduceAdd, Nat.reduceSub, Nat.reduceMul, Nat.reduceMod, Nat.reduceDiv, Nat.reduceBEq, RH, e_h1, e_h2, e_h3, e_h4, h5', h16', h17', FF, LN, NN, NT]
              · have h17' : x10 = false := Bool.eq_false_iff.2 h17
                conv => arg 1; simp (maxSteps := 1000000) (disch := first | assumption | decide | with_unfolding_all rfl | omega | (simp only [LN] <;> omega) | (simp only [RO, OF])) only [RR, RM, LN, TT, d70_at, ↓reduceIte, Nat.reduceEqDiff, Nat.reduceLT, Nat.reduceLeDiff, Nat.reduceAdd, Nat.reduceSub, Nat.reduceMul, Nat.reduceMod, Nat.reduceDiv, Nat.reduceBEq, RH, e_h1, e_h2, e_h3, e_h4, h5', h16', h17']
                refine J.jmp (t := ()) hj4 ?_ ?_
                · first | rfl | (simp only [LN, NN, NT])
                · first | (simp (disch := first | assumption | decide | with_unfolding_all rfl | omega | (simp only [LN] <;> omega) | (simp only [RO, OF])) only [RR, ↓reduceIte, Nat.reduceEqDiff, Nat.reduceLT, Nat.reduceLeDiff, Nat.reduceAdd, Nat.reduceSub, Nat.reduceMul, Nat.reduceMod, Nat.reduceDiv, Nat.reduceBEq, LN, NN, NT]; done) | (simp (disch := first | assumption | decide | with_unfolding_all rfl | omega | (simp only [LN] <;> omega) | (simp only [RO, OF])) only [RR, ↓reduceIte, Nat.reduceEqDiff, Nat.reduceLT, Nat.reduceLeDiff, Nat.reduceAdd, Nat.reduceSub, Nat.reduceMul, Nat.reduceMod, Nat.reduceDiv, Nat.reduceBEq, LN, fm_app, NN, NT]; done) | rfl
      · conv => arg 1; simp (maxSteps := 1000000) (disch := first | assumption | decide | with_unfolding_all rfl | omega | (simp only [LN] <;> omega) | (simp only [RO, OF])) only [RR, RM, LN, TT, d70_at, ↓reduceIte, Nat.reduceEqDiff, Nat.reduceLT, Nat.reduceLeDiff, Nat.reduceAdd, Nat.reduceSub, Nat.reduceMul, Nat.reduceMod, Nat.reduceDiv, Nat.reduceBEq, RH, e_h1]
        refine J.ite (fun h18 => ?_) (fun h18 => ?_)
        · have h18' := decide_eq_true h18
          conv => arg 1; simp (maxSteps := 1000000) (disch := first | assumption | decide | with_unfolding_all rfl | omega | (simp only [LN] <;> omega) | (simp only [RO, OF])) only [RR, RM, LN, TT, d70_at, ↓reduceIte, Nat.reduceEqDiff, Nat.reduceLT, Nat.reduceLeDiff, Nat.reduceAdd, Nat.reduceSub, Nat.reduceMul, Nat.reduceMod, Nat.reduceDiv, Nat.reduceBEq, RH, e_h1, h18']
          refine J.ite (fun h19 => ?_) (fun h19 => ?_)
          · have h19' : x8 = true := h19
            conv => arg 1; simp (maxSteps := 1000000) (disch := first | assumption | decide | with_unfolding_all rfl | omega | (simp only [LN] <;> omega) | (simp only [RO, OF])) only [RR, RM, LN, TT, d70_at, ↓reduceIte, Nat.reduceEqDiff, Nat.reduceLT, Nat.reduceLeDiff, Nat.reduceAdd, Nat.reduceSub, Nat.reduceMul, Nat.reduceMod, Nat.reduceDiv, Nat.reduceBEq, RH, e_h1, h18', h19']
            refine J.jmp (t := true) hj3 ?_ ?_
            · first | rfl | (simp only [LN, NN, NT])
            · first | (simp (disch := first | assumption | decide | with_unfolding_all rfl | omega | (simp only [LN] <;> omega) | (simp only [RO, OF])) only [RR, ↓reduceIte, Nat.reduceEqDiff, Nat.reduceLT, Nat.reduceLeDiff, Nat.reduceAdd, Nat.reduceSub, Nat.reduceMul, Nat.reduceMod, Nat.reduceDiv, Nat.reduceBEq, LN, NN, NT]; done) | (simp (disch := first | assumption | decide | with_unfolding_all rfl | omega | (simp only [LN] <;> omega) | (simp only [RO, OF])) only [RR, ↓reduceIte, Nat.reduceEqDiff, Nat.reduceLT, Nat.reduceLeDiff, Nat.reduceAdd, Nat.reduceSub, Nat.reduceMul, Nat.reduceMod, Nat.reduceDiv, Nat.reduceBEq, LN, fm_app, NN, NT]; done) | rfl
          · have h19' : x8 = false := Bool.eq_false_iff.2 h19
            conv => arg 1; simp (maxSteps := 1000000) (disch := first | assumption | decide | with_unfolding_all rfl | omega | (simp only [LN] <;> omega) | (simp only [RO, OF])) only [RR, RM, LN, TT, d70_at, ↓reduceIte, Nat.reduceEqDiff, Nat.reduceLT, Nat.reduceLeDiff, Nat.reduceAdd, Nat.reduceSub, Nat.reduceMul, Nat.reduceMod, Nat.reduceDiv, Nat.reduceBEq, RH, e_h1, h18', h19']
            refine J.ite (fun h20 => ?_) (fun h20 => ?_)
            · exact J.none
            · have h20' := decide_eq_false h20
              conv => arg 1; simp (maxSteps := 1000000) (disch := first | assumption | decide | with_unfolding_all rfl | omega | (simp only [LN] <;> omega) | (simp only [RO, OF])) only [RR, RM, LN, TT, d70_at, ↓reduceIte, Nat.reduceEqDiff, Nat.reduceLT, Nat.reduceLeDiff, Nat.reduceAdd, Nat.reduceSub, Nat.reduceMul, Nat.reduceMod, Nat.reduceDiv, Nat.reduceBEq, RH, e_h1, h18', h19', h20']
              refine J.jmp (t := false) hj3 ?_ ?_
              · first | rfl | (simp only [LN, NN, NT])
              · first | (simp (disch := first | assumption | decide | with_unfolding_all rfl | omega | (simp only [LN] <;> omega) | (simp only [RO, OF])) only [RR, ↓reduceIte, Nat.reduceEqDiff, Nat.reduceLT, Nat.reduceLeDiff, Nat.reduceAdd, Nat.reduceSub, Nat.reduceMul, Nat.reduceMod, Nat.reduceDiv, Nat.reduceBEq, LN, NN, NT]; done) | (simp (disch := first | assumption | decide | with_unfolding_all rfl | omega | (simp only [LN] <;> omega) | (simp only [RO, OF])) only [RR, ↓reduceIte, Nat.reduceEqDiff, Nat.reduceLT, Nat.reduceLeDiff, Nat.reduceAdd, Nat.reduceSub, Nat.reduceMul, Nat.reduceMod, Nat.reduceDiv, Nat.reduceBEq, LN, fm_app, NN, NT]; done) | rfl
        · have h18' := decide_eq_false h18
          conv => arg 1; simp (maxSteps := 1000000) (disch := first | assumption | decide | with_unfolding_all rfl | omega | (simp only [LN] <;> omega) | (simp only [RO, OF])) only [RR, RM, LN, TT, d70_at, ↓reduceIte, Nat.reduceEqDiff, Nat.reduceLT, Nat.reduceLeDiff, Nat.reduceAdd, Nat.reduceSub, Nat.reduceMul, Nat.reduceMod, Nat.reduceDiv, Nat.reduceBEq, RH, e_h1, h18']
          refine J.ite (fun h21 => ?_) (fun h21 => ?_)
          · have h21' := decide_eq_true h21
            conv => arg 1; simp (maxSteps := 1000000) (disch := first | assumption | decide | with_unfolding_all rfl | omega | (simp only [LN] <;> omega) | (simp only [RO, OF])) only [RR, RM, LN, TT, d70_at, ↓reduceIte, Nat.reduceEqDiff, Nat.reduceLT, Nat.reduceLeDiff, Nat.reduceAdd, Nat.reduceSub, Nat.reduceMul, Nat.reduceMod, Nat.reduceDiv, Nat.reduceBEq, RH, e_h1, h18', h21']
            refine J.jmp (t := !x8) hj3 ?_ ?_
            · first | rfl | (simp only [LN, NN, NT])
            · first | (simp (disch := first | assumption | decide | with_unfolding_all rfl | omega | (simp only [LN] <;> omega) | (simp only [RO, OF])) only [RR, ↓reduceIte, Nat.reduceEqDiff, Nat.reduceLT, Nat.reduceLeDiff, Nat.reduceAdd, Nat.reduceSub, Nat.reduceMul, Nat.reduceMod, Nat.reduceDiv, Nat.reduceBEq, LN, NN, NT]; done) | (simp (disch := first | assumption | decide | with_unfolding_all rfl | omega | (simp only [LN] <;> omega) | (simp only [RO, OF])) only [RR, ↓reduceIte, Nat.reduceEqDiff, Nat.reduceLT, Nat.reduceLeDiff, Nat.reduceAdd, Nat.reduceSub, Nat.reduceMul, Nat.reduceMod, Nat.reduceDiv, Nat.reduceBEq, LN, fm_app, NN, NT]; done) | rfl
          · have h21' := decide_eq_false h21
            conv => arg 1; simp (maxSteps := 1000000) (disch := first | assumption | decide | with_unfolding_all rfl | omega | (simp only [LN] <;> omega) | (simp only [RO, OF])) only [RR, RM, LN, TT, d70_at, ↓reduceIte, Nat.reduceEqDiff, Nat.reduceLT, Nat.reduceLeDiff, Nat.reduceAdd, Nat.reduceSub, Nat.reduceMul, Nat.reduceMod, Nat.reduceDiv, Nat.reduceBEq, RH, e_h1, h18', h21']
            refine J.jmp (t := false) hj3 ?_ ?_
            · first | rfl | (simp only [LN, NN, NT])
            · first | (simp (disch := first | assumption | decide | with_unfolding_all rfl | omega | (simp only [LN] <;> omega) | (simp only [RO, OF])) only [RR, ↓reduceIte, Nat.reduceEqDiff, Nat.reduceLT, Nat.reduceLeDiff, Nat.reduceAdd, Nat.reduceSub, Nat.reduceMul, Nat.reduceMod, Nat.reduceDiv, Nat.reduceBEq, LN, NN, NT]; done) | (simp (disch := first | assumption | decide | with_unfolding_all rfl | omega | (simp only [LN] <;> omega) | (simp only [RO, OF])) only [RR, ↓reduceIte, Nat.reduceEqDiff, Nat.reduceLT, Nat.reduceLeDiff, Nat.reduceAdd, Nat.reduceSub, Nat.reduceMul, Nat.reduceMod, Nat.reduceDiv, Nat.reduceBEq, LN, fm_app, NN, NT]; done) | rfl
    · conv => arg 1; simp (maxSteps := 1000000) (disch := first | assumption | decide | with_unfolding_all rfl | omega | (simp only [LN] <;> omega) | (simp only [RO, OF])) only [RR, RM, LN, TT, d70_at, ↓reduceIte, Nat.reduceEqDiff, Nat.reduceLT, Nat.reduceLeDiff, Nat.reduceAdd, Nat.reduceSub, Nat.reduceMul, Nat.reduceMod, Nat.reduceDiv, Nat.reduceBEq, RH, e_h1]
      refine J.ite (fun h22 => ?_) (fun h22 => ?_)
      · have h22' := decide_eq_true h22
        conv => arg 1; simp (maxSteps := 1000000) (disch := first | assumption | decide | with_unfolding_all rfl | omega | (simp only [LN] <;> omega) | (simp only [RO, OF])) only [RR, RM, LN, TT, d70_at, ↓reduceIte, Nat.reduceEqDiff, Nat.reduceLT, Nat.reduceLeDiff, Nat.reduceAdd, Nat.reduceSub, Nat.reduceMul, Nat.reduceMod, Nat.reduceDiv, Nat.reduceBEq, RH, e_h1, h22']
        refine J.ite (fun h23 => ?_) (fun h23 => ?_)
        · have h23' : x6 = true := h23
          conv => arg 1; simp (maxSteps := 1000000) (disch := first | assumption | decide | with_unfolding_all rfl | omega | (simp only [LN] <;> omega) | (simp only [RO, OF])) only [RR, RM, LN, TT, d70_at, ↓reduceIte, Nat.reduceEqDiff, Nat.reduceLT, Nat.reduceLeDiff, Nat.reduceAdd, Nat.reduceSub, Nat.reduceMul, Nat.reduceMod, Nat.reduceDiv, Nat.reduceBEq, RH, e_h1, h22', h23']
          refine J.ite (fun h24 => ?_) (fun h24 => ?_)
          · exact J.none
          · have h24' := decide_eq_false h24
            conv => arg 1; simp (maxSteps := 1000000) (disch := first | assumption | decide | with_unfolding_all rfl | omega | (simp only [LN] <;> omega) | (simp only [RO, OF])) only [RR, RM, LN, TT, d70_at, ↓reduceIte, Nat.reduceEqDiff, Nat.reduceLT, Nat.reduceLeDiff, Nat.reduceAdd, Nat.reduceSub, Nat.reduceMul, Nat.reduceMod, Nat.reduceDiv, Nat.reduceBEq, RH, e_h1, h22', h23', h24']
            refine J.jmp (t := (true, false)) hj2 ?_ ?_
            · first | rfl | (simp only [LN, NN, NT])
            · first | (simp (disch := first | assumption | decide | with_unfolding_all rfl | omega | (simp only [LN] <;> omega) | (simp only [RO, OF])) only [RR, ↓reduceIte, Nat.reduceEqDiff, Nat.reduceLT, Nat.reduceLeDiff, Nat.reduceAdd, Nat.reduceSub, Nat.reduceMul, Nat.reduceMod, Nat.reduceDiv, Nat.reduceBEq, LN, NN, NT]; done) | (simp (disch := first | assumption | decide | with_unfolding_all rfl | omega | (simp only [LN] <;> omega) | (simp only [RO, OF])) only [RR, ↓reduceIte, Nat.reduceEqDiff, Nat.reduceLT, Nat.reduceLeDiff, Nat.reduceAdd, Nat.reduceSub, Nat.reduceMul, Nat.reduceMod, Nat.reduceDiv, Nat.reduceBEq, LN, fm_app, NN, NT]; done) | rfl
        · have h23' : x6 = false := Bool.eq_false_iff.2 h23
          conv => arg 1; simp (maxSteps := 1000000) (disch := first | assumption | decide | with_unfolding_all rfl | omega | (simp only [LN] <;> omega) | (simp only [RO, OF])) only [RR, RM, LN, TT, d70_at, ↓reduceIte, Nat.reduceEqDiff, Nat.reduceLT, Nat.reduceLeDiff, Nat.reduceAdd, Nat.reduceSub, Nat.reduceMul, Nat.reduceMod, Nat.reduceDiv, Nat.reduceBEq, RH, e_h1, h22', h23']
          refine J.jmp (t := (false, true)) hj2 ?_ ?_
          · first | rfl | (simp only [LN, NN, NT])
          · first | (simp (disch := first | assumption | decide | with_unfolding_all rfl | omega | (simp only [LN] <;> omega) | (simp only [RO, OF])) only [RR, ↓reduceIte, Nat.reduceEqDiff, Nat.reduceLT, Nat.reduceLeDiff, Nat.reduceAdd, Nat.reduceSub, Nat.reduceMul, Nat.reduceMod, Nat.reduceDiv, Nat.reduceBEq, LN, NN, NT]; done) | (simp (disch := first | assumption | decide | with_unfolding_all rfl | omega | (simp only [LN] <;> omega) | (simp only [RO, OF])) only [RR, ↓reduceIte, Nat.reduceEqDiff, Nat.reduceLT, Nat.reduceLeDiff, Nat.reduceAdd, Nat.reduceSub, Nat.reduceMul, Nat.reduceMod, Nat.reduceDiv, Nat.reduceBEq, LN, fm_app, NN, NT]; done) | rfl
      · have h22' := decide_eq_false h22
        conv => arg 1; simp (maxSteps := 1000000) (disch := first | assumption | decide | with_unfolding_all rfl | omega | (simp only [LN] <;> omega) | (simp only [RO, OF])) only [RR, RM, LN, TT, d70_at, ↓reduceIte, Nat.reduceEqDiff, Nat.reduceLT, Nat.reduceLeDiff, Nat.reduceAdd, Nat.reduceSub, Nat.reduceMul, Nat.reduceMod, Nat.reduceDiv, Nat.reduceBEq, RH, e_h1, h22']
        refine J.ite (fun h25 => ?_) (fun h25 => ?_)
        · have h25' := decide_eq_true h25
          conv => arg 1; simp (maxSteps := 1000000) (disch := first | assumption | decide | with_unfolding_all rfl | omega | (simp only [LN] <;> omega) | (simp only [RO, OF])) only [RR, RM, LN, TT, d70_at, ↓reduceIte, Nat.reduceEqDiff, Nat.reduceLT, Nat.reduceLeDiff, Nat.reduceAdd, Nat.reduceSub, Nat.reduceMul, Nat.reduceMod, Nat.reduceDiv, Nat.reduceBEq, RH, e_h1, h22', h25']
          refine J.jmp (t := (x6, x6)) hj2 ?_ ?_
          · first | rfl | (simp only [LN, NN, NT])
          · first | (simp (disch := first | assumption | decide | with_unfolding_all rfl | omega | (simp only [LN] <;> omega) | (simp only [RO, OF])) only [RR, ↓reduceIte, Nat.reduceEqDiff, Nat.reduceLT, Nat.reduceLeDiff, Nat.reduceAdd, Nat.reduceSub, Nat.reduceMul, Nat.reduceMod, Nat.reduceDiv, Nat.reduceBEq, LN, NN, NT]; done) | (simp (disch := first | assumption | decide | with_unfolding_all rfl | omega | (simp only [LN] <;> omega) | (simp only [RO, OF])) only [RR, ↓reduceIte, Nat.reduceEqDiff, Nat.reduceLT, Nat.reduceLeDiff, Nat.reduceAdd, Nat.reduceSub, Nat.reduceMul, Nat.reduceMod, Nat.reduceDiv, Nat.reduceBEq, LN, fm_app, NN, NT]; done) | rfl
        · have h25' := decide_eq_false h25
          conv => arg 1; simp (maxSteps := 1000000) (disch := first | assumption | decide | with_unfolding_all rfl | omega | (simp only [LN] <;> omega) | (simp only [RO, OF])) only [RR, RM, LN, TT, d70_at, ↓reduceIte, Nat.reduceEqDiff, Nat.reduceLT, Nat.reduceLeDiff, Nat.reduceAdd, Nat.reduceSub, Nat.reduceMul, Nat.reduceMod, Nat.reduceDiv, Nat.reduceBEq, RH, e_h1, h22', h25']
          refine J.jmp (t := (x6, false)) hj2 ?_ ?_
          · first | rfl | (simp only [LN, NN, NT])
          · first | (simp (disch := first | assumption | decide | with_unfolding_all rfl | omega | (simp only [LN] <;> omega) | (simp only [RO, OF])) only [RR, ↓reduceIte, Nat.reduceEqDiff, Nat.reduceLT, Nat.reduceLeDiff, Nat.reduceAdd, Nat.reduceSub, Nat.reduceMul, Nat.reduceMod, Nat.reduceDiv, Nat.reduceBEq, LN, NN, NT]; done) | (simp (disch := first | assumption | decide | with_unfolding_all rfl | omega | (simp only [LN] <;> omega) | (simp only [RO, OF])) only [RR, ↓reduceIte, Nat.reduceEqDiff, Nat.reduceLT, Nat.reduceLeDiff, Nat.reduceAdd, Nat.reduceSub, Nat.reduceMul, Nat.reduceMod, Nat.reduceDiv, Nat.reduceBEq, LN, fm_app, NN, NT]; done) | rfl
  · conv => arg 1; simp (maxSteps := 1000000) (disch := first | assumption | decide | with_unfolding_all rfl | omega | (simp only [LN] <;> omega) | (simp only [RO, OF])) only [RR, RM, LN, TT, d70_at, ↓reduceIte, Nat.reduceEqDiff, Nat.reduceLT, Nat.reduceLeDiff, Nat.reduceAdd, Nat.reduceSub, Nat.reduceMul, Nat.reduceMod, Nat.reduceDiv, Nat.reduceBEq, RH, e_h1]
    refine J.ite (fun h26 => ?_) (fun h26 => ?_)
    · have h26' : x2 = true := h26
      conv => arg 1; simp (maxSteps := 1000000) (disch := first | assumption | decide | with_unfolding_all rfl | omega | (simp only [LN] <;> omega) | (simp only [RO, OF])) only [RR, RM, LN, TT, d70_at, ↓reduceIte, Nat.reduceEqDiff, Nat.reduceLT, Nat.reduceLeDiff, Nat.reduceAdd, Nat.reduceSub, Nat.reduceMul, Nat.reduceMod, Nat.reduceDiv, Nat.reduceBEq, RH, e_h1, h26']
      refine J.jmp (t := (true, 2147483648)) hj1 ?_ ?_
      · first | rfl | (simp only [LN, NN, NT])
      · first | (simp (disch := first | assumption | decide | with_unfolding_all rfl | omega | (simp only [LN] <;> omega) | (simp only [RO, OF])) only [RR, ↓reduceIte, Nat.reduceEqDiff, Nat.reduceLT, Nat.reduceLeDiff, Nat.reduceAdd, Nat.reduceSub, Nat.reduceMul, Nat.reduceMod, Nat.reduceDiv, Nat.reduceBEq, LN, NN, NT]; done) | (simp (disch := first | assumption | decide | with_unfolding_all rfl | omega | (simp only [LN] <;> omega) | (simp only [RO, OF])) only [RR, ↓reduceIte, Nat.reduceEqDiff, Nat.reduceLT, Nat.reduceLeDiff, Nat.reduceAdd, Nat.reduceSub, Nat.reduceMul, Nat.reduceMod, Nat.reduceDiv, Nat.reduceBEq, LN, fm_app, NN, NT]; done) | rfl
    · have h26' : x2 = false := Bool.eq_false_iff.2 h26
      conv => arg 1; simp (maxSteps := 1000000) (disch := first | assumption | decide | with_unfolding_all rfl | omega | (simp only [LN] <;> omega) | (simp only [RO, OF])) only [RR, RM, LN, TT, d70_at, ↓reduceIte, Nat.reduceEqDiff, Nat.reduceLT, Nat.reduceLeDiff, Nat.reduceAdd, Nat.reduceSub, Nat.reduceMul, Nat.reduceMod, Nat.reduceDiv, Nat.reduceBEq, RH, e_h1, h26']
      refine J.jmp (t := (false, 0)) hj1 ?_ ?_
      · first | rfl | (simp only [LN, NN, NT])
      · first | (simp (disch := first | assumption | decide | with_unfolding_all rfl | omega | (simp only [LN] <;> omega) | (simp only [RO, OF])) only [RR, ↓reduceIte, Nat.reduceEqDiff, Nat.reduceLT, Nat.reduceLeDiff, Nat.reduceAdd, Nat.reduceSub, Nat.reduceMul, Nat.reduceMod, Nat.reduceDiv, Nat.reduceBEq, LN, NN, NT]; done) | (simp (disch := first | assumption | decide | with_unfolding_all rfl | omega | (simp only [LN] <;> omega) | (simp only [RO, OF])) only [RR, ↓reduceIte, Nat.reduceEqDiff, Nat.reduceLT, Nat.reduceLeDiff, Nat.reduceAdd, Nat.reduceSub, Nat.reduceMul, Nat.reduceMod, Nat.reduceDiv, Nat.reduceBEq, LN, fm_app, NN, NT]; done) | rfl
noncomputable def t70 (fu : Nat) : CallP := orE 131 (mkC (fun (t : (List Int) × (List Int)) => ([.arr t.1.length (lm (ik .u32) t.1), .arr t.2.length (lm (ik .u32) t.2)] : List AV)) (fun t => ref01_least fu t.1 t.2) e131) (orE 68 (mkC (fun (t : Int) => ([.v (.int .u32 t)] : List AV)) (fun t => ref01_Amount fu t) e68) (orE 76 (mkC (fun (t : (List Int) × (List Int)) => ([.arr t.1.length (lm (ik .u32) t.1), .arr t.2.length (lm (ik .u32) t.2)] : List AV)) (fun t => ref01_Times fu t.1 t.2) e76) (orE 73 (mkC (fun (t : (List Int) × (List Int)) => ([.arr t.1.length (lm (ik .u32) t.1), .arr t.2.length (lm (ik .u32) t.2)] : List AV)) (fun t => ref01_Compare fu t.1 t.2) e73) (orE 71 (mkC (fun (t : (List Int) × (List Int)) => ([.arr t.1.length (lm (ik .u32) t.1), .arr t.2.length (lm (ik .u32) t.2)] : List AV)) (fun t => ref01_Plus fu t.1 t.2) e71) (orE 77 (mkC (fun (t : (List Int) × Int) => ([.arr t.1.length (lm (ik .u32) t.1), .v (.int .i64 t.2)] : List AV)) (fun t => ref01_Twice fu t.1 t.2) e77) (noP))))))
theorem t70_ok (fu : Nat) : CpOK Tryz.prog (t70 fu ) := orE_ok (orE_ok (orE_ok (orE_ok (orE_ok (orE_ok (noP_ok) (mkC_ok (fun t b h => ok77 fu t.1 t.2  b h))) (mkC_ok (fun t b h => ok71 fu t.1 t.2  b h))) (mkC_ok (fun t b h => ok73 fu t.1 t.2  b h))) (mkC_ok (fun t b h => ok76 fu t.1 t.2  b h))) (mkC_ok (fun t b h => ok68 fu t  b h))) (mkC_ok (fun t b h => ok131 fu t.1 t.2  b h))
theorem ok70 (fu : Nat) (x1 : Int) (x2 : Bool) (x3 : List Int) (x4 : List Int) (r) (h : ref01_Rounded fu x1 x2 x3 x4 = some r) : PureOK Tryz.prog 70 [.v (.int .i64 x1), .v (.bool x2), .arr x3.length (lm (ik .u32) x3), .arr x4.length (lm (ik .u32) x4)] (e70 r) :=
  pure_J mixed (cp := t70 fu ) (t70_ok fu  ) noI_ok i70 (w70 _ fu x1 x2 x3 x4  (fun a0 a1 r h => orE_hit (mkC_at (a := (a0, a1)) (by intro a b h; first | (exact rfl) | (simp only [INJ, IJ] at h; first | exact h | (simp_all [Prod.ext_iff]) )) h)) (fun a0 r h => orE_miss (by decide) (orE_hit (mkC_at (a := a0) (by intro a b h; first | (exact rfl) | (simp only [INJ, IJ] at h; first | exact h | (simp_all [Prod.ext_iff]) )) h))) (fun a0 a1 r h => orE_miss (by decide) (orE_miss (by decide) (orE_hit (mkC_at (a := (a0, a1)) (by intro a b h; first | (exact rfl) | (simp only [INJ, IJ] at h; first | exact h | (simp_all [Prod.ext_iff]) )) h)))) (fun a0 a1 r h => orE_miss (by decide) (orE_miss (by decide) (orE_miss (by decide) (orE_hit (mkC_at (a := (a0, a1)) (by intro a b h; first | (exact rfl) | (simp only [INJ, IJ] at h; first | exact h | (simp_all [Prod.ext_iff]) )) h))))) (fun a0 a1 r h => orE_miss (by decide) (orE_miss (by decide) (orE_miss (by decide) (orE_miss (by decide) (orE_hit (mkC_at (a := (a0, a1)) (by intro a b h; first | (exact rfl) | (simp only [INJ, IJ] at h; first | exact h | (simp_all [Prod.ext_iff]) )) h)))))) (fun a0 a1 r h => orE_miss (by decide) (orE_miss (by decide) (orE_miss (by decide) (orE_miss (by decide) (orE_miss (by decide) (orE_hit (mkC_at (a := (a0, a1)) (by intro a b h; first | (exact rfl) | (simp only [INJ, IJ] at h; first | exact h | (simp_all [Prod.ext_iff]) )) h)))))))) h
/-! 36: lattice/latticeref01.MulBy -/
def d36 : List (Nat × List Nat) := [(0, [6]), (0, []), (0, [8, 9, 10, 11, 12]), (0, []), (0, [14, 15, 16, 17, 18, 19]), (0, []), (0, []), (0, []), (0, [21, 22, 23, 24, 25, 26, 27, 28]), (0, []), (0, [29, 30, 31, 32, 33, 34, 35]), (0, []), (0, []), (0, []), (0, [37, 38]), (0, []), (0, [0, 1, 2, 7, 39, 40, 41, 42, 43, 44, 45, 46, 47, 48, 49, 50])]
def d36_at := And.intro (show d36.getD 0 (0, []) = (0, [6]) from rfl) <| And.intro (show d36.getD 1 (0, []) = (0, []) from rfl) <| And.intro (show d36.getD 2 (0, []) = (0, [8, 9, 10, 11, 12]) from rfl) <| And.intro (show d36.getD 3 (0, []) = (0, []) from rfl) <| And.intro (show d36.getD 4 (0, []) = (0, [14, 15, 16, 17, 18, 19]) from rfl) <| And.intro (show d36.getD 5 (0, []) = (0, []) from rfl) <| And.intro (show d36.getD 6 (0, []) = (0, []) from rfl) <| And.intro (show d36.getD 7 (0, []) = (0, []) from rfl) <| And.intro (show d36.getD 8 (0, []) = (0, [21, 22, 23, 24, 25, 26, 27, 28]) from rfl) <| And.intro (show d36.getD 9 (0, []) = (0, []) from rfl) <| And.intro (show d36.getD 10 (0, []) = (0, [29, 30, 31, 32, 33, 34, 35]) from rfl) <| And.intro (show d36.getD 11 (0, []) = (0, []) from rfl) <| And.intro (show d36.getD 12 (0, []) = (0, []) from rfl) <| And.intro (show d36.getD 13 (0, []) = (0, []) from rfl) <| And.intro (show d36.getD 14 (0, []) = (0, [37, 38]) from rfl) <| And.intro (show d36.getD 15 (0, []) = (0, []) from rfl) <| (show d36.getD 16 (0, []) = (0, [0, 1, 2, 7, 39, 40, 41, 42, 43, 44, 45, 46, 47, 48, 49, 50]) from rfl)
theorem i36 : finfo Tryz.prog 36 d36 = some ⟨bodyOf Tryz.f36, [.tmp 6], [24]⟩ := finfo_at Tryz.func36 rfl (by kernel_rfl) (by kernel_rfl)
def e36 : Int → AV := fun r => .v (.int .u32 r)
set_option maxHeartbeats 20000000 in
theorem w36 (cp : CallP) (fu : Nat) (x1 : Int) (x2 : Int) (x3 : Int) (H69_0 : ∀ (a0 : Int) r, ref01_Below fu a0 = some r → cp 69 [.v (.int .u32 a0)] = some (.v (.bool r))) (H67_0 : ∀ (a0 : Int) r, ref01_IsNone fu a0 = some r → cp 67 [.v (.int .u32 a0)] = some (.v (.bool r))) (H15_0 : ∀ (a0 : Int) r, ref01_Abs fu a0 = some r → cp 15 [.v (.int .u32 a0)] = some (.v (.int .u32 r))) (H75_0 : ∀ (a0 : Bool) (a1 : Int) r, ref01_signed fu a0 a1 = some r → cp 75 [.v (.bool a0), .v (.int .u32 a1)] = some (.v (.int .u32 r))) (H68_0 : ∀ (a0 : Int) r, ref01_Amount fu a0 = some r → cp 68 [.v (.int .u32 a0)] = some (.arr r.length (lm (ik .u32) r))) (H76_0 : ∀ (a0 : List Int) (a1 : List Int) r, ref01_Times fu a0 a1 = some r → cp 76 [.arr a0.length (lm (ik .u32) a0), .arr a1.length (lm (ik .u32) a1)] = some (.arr r.length (lm (ik .u32) r))) (H72_0 : ∀ (a0 : Int) r, ref01_Of fu a0 = some r → cp 72 [.v (.int .u64 a0)] = some (.arr r.length (lm (ik .u32) r))) (H77_0 : ∀ (a0 : List Int) (a1 : Int) r, ref01_Twice fu a0 a1 = some r → cp 77 [.arr a0.length (lm (ik .u32) a0), .v (.int .i64 a1)] = some (.arr r.length (lm (ik .u32) r))) (H70_0 : ∀ (a0 : Int) (a1 : Bool) (a2 : List Int) (a3 : List Int) r, ref01_Rounded fu a0 a1 a2 a3 = some r → cp 70 [.v (.int .i64 a0), .v (.bool a1), .arr a2.length (lm (ik .u32) a2), .arr a3.length (lm (ik .u32) a3)] = some (.v (.int .u32 r))) : J (go Tryz.prog noC cp noI 0 [] d36 fu (fin Tryz.prog [.tmp 6] [24]) (bodyOf Tryz.f36) (initE 0 [.v (.int .i64 x1), .v (.int .u32 x2), .v (.int .u32 x3)]) [] []) (ref01_MulBy fu x1 x2 x3) e36 := by
  unfold ref01_MulBy e36
  refine J.bind fun x4 h1 => ?_
  have e_h1 := H69_0 _ _ h1
  try simp only [NN, NT, LN] at e_h1
  refine J.bind fun x5 h2 => ?_
  have e_h2 := H69_0 _ _ h2
  try simp only [NN, NT, LN] at e_h2
  conv => arg 1; simp (maxSteps := 1000000) (disch := first | assumption | decide | with_unfolding_all rfl | omega | (simp only [LN] <;> omega) | (simp only [RO, OF])) only [bodyOf, Tryz.f36, RR, RM, LN, TT, d36_at, ↓reduceIte, Nat.reduceEqDiff, Nat.reduceLT, Nat.reduceLeDiff, Nat.reduceAdd, Nat.reduceSub, Nat.reduceMul, Nat.reduceMod, Nat.reduceDiv, Nat.reduceBEq, RH, e_h1, e_h2]
  refine J.joinS (fun (t : Unit) => ([(0, .v (.int .i64 x1)), (1, .v (.int .u32 x2)), (2, .v (.int .u32 x3)), (7, .v (.bool (!(x4 == x5))))], [])) (fun t => ref01_MulBy_k1 fu x1 x2 x3 x4 x5) ?_ (fun hj1 => ?_)
  · rintro ⟨⟩
    show J _ (ref01_MulBy_k1 fu x1 x2 x3 x4 x5) _
    unfold ref01_MulBy_k1
    refine J.bind fun x6 h3 => ?_
    have e_h3 := H15_0 _ _ h3
    try simp only [NN, NT, LN] at e_h3
    refine J.bind fun x7 h4 => ?_
    have e_h4 := H68_0 _ _ h4
    try simp only [NN, NT, LN] at e_h4
    refine J.bind fun x8 h5 => ?_
    have e_h5 := H15_0 _ _ h5
    try simp only [NN, NT, LN] at e_h5
    refine J.bind fun x9 h6 => ?_
    have e_h6 := H68_0 _ _ h6
    try simp only [NN, NT, LN] at e_h6
    refine J.bind fun x10 h7 => ?_
    have e_h7 := H76_0 _ _ _ h7
    try simp only [NN, NT, LN] at e_h7
    refine J.bind fun x11 h8 => ?_
    have e_h8 := H72_0 _ _ h8
    try simp only [NN, NT, LN] at e_h8
    refine J.bind fun x12 h9 => ?_
    have e_h9 := H77_0 _ _ _ h9
    try simp only [NN, NT, LN] at e_h9
    refine J.bind fun x13 h10 => ?_
    have e_h10 := H70_0 _ _ _ _ _ h10
    try simp only [NN, NT, LN] at e_h10
    refine J.some ?_
    simp (maxSteps := 20000000) (disch := first | assumption | decide | with_unfolding_all rfl | omega | (simp only [LN] <;> omega) | (simp only [RO, OF])) only [RR, RM, LN, TT, d36_at, ↓reduceIte, Nat.reduceEqDiff, Nat.reduceLT, Nat.reduceLeDiff, Nat.reduceAdd, Nat.reduceSub, Nat.reduceMul, Nat.reduceMod, Nat.reduceDiv, Nat.reduceBEq, RH, e_h1, e_h2, e_h3, e_h4, e_h5, e_h6, e_h7, e_h8, e_h9, e_h10, FF, LN, NN, NT]
  · conv => arg 1; simp (maxSteps := 1000000) (disch := first | assumption | decide | with_unfolding_all rfl | omega | (simp only [LN] <;> omega) | (simp only [RO, OF])) only [RR, RM, LN, TT, d36_at, ↓reduceIte, Nat.reduceEqDiff, Nat.reduceLT, Nat.reduceLeDiff, Nat.reduceAdd, Nat.reduceSub, Nat.reduceMul, Nat.reduceMod, Nat.reduceDiv, Nat.reduceBEq, RH, e_h1, e_h2]
    refine J.eq go_seq ?_
    refine J.bind fun x14 h11 => ?_
    have e_h11 := H67_0 _ _ h11
    try simp only [NN, NT, LN] at e_h11
    conv => arg 1; simp (maxSteps := 1000000) (disch := first | assumption | decide | with_unfolding_all rfl | omega | (simp only [LN] <;> omega) | (simp only [RO, OF])) only [RR, RM, LN, TT, d36_at, ↓reduceIte, Nat.reduceEqDiff, Nat.reduceLT, Nat.reduceLeDiff, Nat.reduceAdd, Nat.reduceSub, Nat.reduceMul, Nat.reduceMod, Nat.reduceDiv, Nat.reduceBEq, RH, e_h1, e_h2, e_h11]
    refine J.ite (fun h12 => ?_) (fun h12 => ?_)
    · have h12' : x14 = true := h12
      conv => arg 1; simp (maxSteps := 1000000) (disch := first | assumption | decide | with_unfolding_all rfl | omega | (simp only [LN] <;> omega) | (simp only [RO, OF])) only [RR, RM, LN, TT, d36_at, ↓reduceIte, Nat.reduceEqDiff, Nat.reduceLT, Nat.reduceLeDiff, Nat.reduceAdd, Nat.reduceSub, Nat.reduceMul, Nat.reduceMod, Nat.reduceDiv, Nat.reduceBEq, RH, e_h1, e_h2, e_h11, h12']
      refine J.eq ret_seq ?_
      refine J.some ?_
      simp (maxSteps := 20000000) (disch := first | assumption | decide | with_unfolding_all rfl | omega | (simp only [LN] <;> omega) | (simp only [RO, OF])) only [RR, RM, LN, TT, d36_at, ↓reduceIte, Nat.reduceEqDiff, Nat.reduceLT, Nat.reduceLeDiff, Nat.reduceAdd, Nat.reduceSub, Nat.reduceMul, Nat.reduceMod, Nat.reduceDiv, Nat.reduceBEq, RH, e_h1, e_h2, e_h11, h12', FF, LN, NN, NT]
    · have h12' : x14 = false := Bool.eq_false_iff.2 h12
      refine J.bind fun x15 h13 => ?_
      have e_h13 := H67_0 _ _ h13
      try simp only [NN, NT, LN] at e_h13
      conv => arg 1; simp (maxSteps := 1000000) (disch := first | assumption | decide | with_unfolding_all rfl | omega | (simp only [LN] <;> omega) | (simp only [RO, OF])) only [RR, RM, LN, TT, d36_at, ↓reduceIte, Nat.reduceEqDiff, Nat.reduceLT, Nat.reduceLeDiff, Nat.reduceAdd, Nat.reduceSub, Nat.reduceMul, Nat.reduceMod, Nat.reduceDiv, Nat.reduceBEq, RH, e_h1, e_h2, e_h11, h12', e_h13]
      refine J.eq ret_seq ?_
      conv => arg 1; simp (maxSteps := 1000000) (disch := first | assumption | decide | with_unfolding_all rfl | omega | (simp only [LN] <;> omega) | (simp only [RO, OF])) only [RR, RM, LN, TT, d36_at, ↓reduceIte, Nat.reduceEqDiff, Nat.reduceLT, Nat.reduceLeDiff, Nat.reduceAdd, Nat.reduceSub, Nat.reduceMul, Nat.reduceMod, Nat.reduceDiv, Nat.reduceBEq, RH, e_h1, e_h2, e_h11, h12', e_h13]
      refine J.ite (fun h14 => ?_) (fun h14 => ?_)
      · have h14' : x15 = true := h14
        refine J.some ?_
        simp (maxSteps := 20000000) (disch := first | assumption | decide | with_unfolding_all rfl | omega | (simp only [LN] <;> omega) | (simp only [RO, OF])) only [RR, RM, LN, TT, d36_at, ↓reduceIte, Nat.reduceEqDiff, Nat.reduceLT, Nat.reduceLeDiff, Nat.reduceAdd, Nat.reduceSub, Nat.reduceMul, Nat.reduceMod, Nat.reduceDiv, Nat.reduceBEq, RH, e_h1, e_h2, e_h11, h12', e_h13, h14', FF, LN, NN, NT]
      · have h14' : x15 = false := Bool.eq_false_iff.2 h14
        conv => arg 1; simp (maxSteps := 1000000) (disch := first | assumption | decide | with_unfolding_all rfl | omega | (simp only [LN] <;> omega) | (simp only [RO, OF])) only [RR, RM, LN, TT, d36_at, ↓reduceIte, Nat.reduceEqDiff, Nat.reduceLT, Nat.reduceLeDiff, Nat.reduceAdd, Nat.reduceSub, Nat.reduceMul, Nat.reduceMod, Nat.reduceDiv, Nat.reduceBEq, RH, e_h1, e_h2, e_h11, h12', e_h13, h14']
        refine J.eq go_seq ?_
        refine J.bind fun x16 h15 => ?_
        have e_h15 := H15_0 _ _ h15
        try simp only [NN, NT, LN] at e_h15
        conv => arg 1; simp (maxSteps := 1000000) (disch := first | assumption | decide | with_unfolding_all rfl | omega | (simp only [LN] <;> omega) | (simp only [RO, OF])) only [RR, RM, LN, TT, d36_at, ↓reduceIte, Nat.reduceEqDiff, Nat.reduceLT, Nat.reduceLeDiff, Nat.reduceAdd, Nat.reduceSub, Nat.reduceMul, Nat.reduceMod, Nat.reduceDiv, Nat.reduceBEq, RH, e_h1, e_h2, e_h11, h12', e_h13, h14', e_h15]
        refine J.ite (fun h16 => ?_) (fun h16 => ?_)
        · have h16' := decide_eq_true h16
          conv => arg 1; simp (maxSteps := 1000000) (disch := first | assumption | decide | with_unfolding_all rfl | omega | (simp only [LN] <;> omega) | (simp only [RO, OF])) only [RR, RM, LN, TT, d36_at, ↓reduceIte, Nat.reduceEqDiff, Nat.reduceLT, Nat.reduceLeDiff, Nat.reduceAdd, Nat.reduceSub, Nat.reduceMul, Nat.reduceMod, Nat.reduceDiv, Nat.reduceBEq, RH, e_h1, e_h2, e_h11, h12', e_h13, h14', e_h15, h16']
          refine J.eq ret_seq ?_
          conv => arg 1; simp (maxSteps := 1000000) (disch := first | assumption | decide | with_unfolding_all rfl | omega | (simp only [LN] <;> omega) | (simp only [RO, OF])) only [RR, RM, LN, TT, d36_at, ↓reduceIte, Nat.reduceEqDiff, Nat.reduceLT, Nat.reduceLeDiff, Nat.reduceAdd, Nat.reduceSub, Nat.reduceMul, Nat.reduceMod, Nat.reduceDiv, Nat.reduceBEq, RH, e_h1, e_h2, e_h11, h12', e_h13, h14', e_h15, h16']
          refine J.joinS (fun (t : Unit) => ([(0, .v (.int .i64 x1)), (1, .v (.int .u32 x2)), (2, .v (.int .u32 x3)), (7, .v (.bool (!(x4 == x5))))], [])) (fun t => ref01_MulBy_k2 fu x4 x5) ?_ (fun hj2 => ?_)
          · rintro ⟨⟩
            show J _ (ref01_MulBy_k2 fu x4 x5) _
            unfold ref01_MulBy_k2
            refine J.bind fun x17 h17 => ?_
            have e_h17 := H75_0 _ _ _ h17
            try simp only [NN, NT, LN] at e_h17
            refine J.some ?_
            simp (maxSteps := 20000000) (disch := first | assumption | decide | with_unfolding_all rfl | omega | (simp only [LN] <;> omega) | (simp only [RO, OF])) only [RR, RM, LN, TT, d36_at, ↓reduceIte, Nat.reduceEqDiff, Nat.reduceLT, Nat.reduceLeDiff, Nat.reduceAdd, Nat.reduceSub, Nat.reduceMul, Nat.reduceMod, Nat.reduceDiv, Nat.reduceBEq, RH, e_h1, e_h2, e_h11, h12', e_h13, h14', e_h15, h16', e_h17, FF, LN, NN, NT]
          · refine J.eq go_seq ?_
            conv => arg 1; simp (maxSteps := 1000000) (disch := first | assumption | decide | with_unfolding_all rfl | omega | (simp only [LN] <;> omega) | (simp only [RO, OF])) only [RR, RM, LN, TT, d36_at, ↓reduceIte, Nat.reduceEqDiff, Nat.reduceLT, Nat.reduceLeDiff, Nat.reduceAdd, Nat.reduceSub, Nat.reduceMul, Nat.reduceMod, Nat.reduceDiv, Nat.reduceBEq, RH, e_h1, e_h2, e_h11, h12', e_h13, h14', e_h15, h16']
            refine J.ite (fun h18 => ?_) (fun h18 => ?_)
            · exact J.none
            · have h18' := decide_eq_false h18
              refine J.bind fun x18 h19 => ?_
              have e_h19 := H15_0 _ _ h19
              try simp only [NN, NT, LN] at e_h19
              conv => arg 1; simp (maxSteps := 1000000) (disch := first | assumption | decide | with_unfolding_all rfl | omega | (simp only [LN] <;> omega) | (simp only [RO, OF])) only [RR, RM, LN, TT, d36_at, ↓reduceIte, Nat.reduceEqDiff, Nat.reduceLT, Nat.reduceLeDiff, Nat.reduceAdd, Nat.reduceSub, Nat.reduceMul, Nat.reduceMod, Nat.reduceDiv, Nat.reduceBEq, RH, e_h1, e_h2, e_h11, h12', e_h13, h14', e_h15, h16', h18', e_h19]
              refine J.eq ret_seq ?_
              conv => arg 1; simp (maxSteps := 1000000) (disch := first | assumption | decide | with_unfolding_all rfl | omega | (simp only [LN] <;> omega) | (simp only [RO, OF])) only [RR, RM, LN, TT, d36_at, ↓reduceIte, Nat.reduceEqDiff, Nat.reduceLT, Nat.reduceLeDiff, Nat.reduceAdd, Nat.reduceSub, Nat.reduceMul, Nat.reduceMod, Nat.reduceDiv, Nat.reduceBEq, RH, e_h1, e_h2, e_h11, h12', e_h13, h14', e_h15, h16', h18', e_h19]
              refine J.ite (fun h20 => ?_) (fun h20 => ?_)
              · have h20' := decide_eq_true h20
                refine J.some ?_
                simp (maxSteps := 20000000) (disch := first | assumption | decide | with_unfolding_all rfl | omega | (simp only [LN] <;> omega) | (simp only [RO, OF])) only [RR, RM, LN, TT, d36_at, ↓reduceIte, Nat.reduceEqDiff, Nat.reduceLT, Nat.reduceLeDiff, Nat.reduceAdd, Nat.reduceSub, Nat.reduceMul, Nat.reduceMod, Nat.reduceDiv, Nat.reduceBEq, RH, e_h1, e_h2, e_h11, h12', e_h13, h14', e_h15, h16', h18', e_h19, h20', FF, LN, NN, NT]
              · have h20' := decide_eq_false h20
                conv => arg 1; simp (maxSteps := 1000000) (disch := first | assumption | decide | with_unfolding_all rfl | omega | (simp only [LN] <;> omega) | (simp only [RO, OF])) only [RR, RM, LN, TT, d36_at, ↓reduceIte, Nat.reduceEqDiff, Nat.reduceLT, Nat.reduceLeDiff, Nat.reduceAdd, Nat.reduceSub, Nat.reduceMul, Nat.reduceMod, Nat.reduceDiv, Nat.reduceBEq, RH, e_h1, e_h2, e_h11, h12', e_h13, h14', e_h15, h16', h18', e_h19, h20']
                refine J.jmp (t := ()) hj2 ?_ ?_
                · first | rfl | (simp only [LN, NN, NT])
                · first | (simp (disch := first | assumption | decide | with_unfolding_all rfl | omega | (simp only [LN] <;> omega) | (simp only [RO, OF])) only [RR, ↓reduceIte, Nat.reduceEqDiff, Nat.reduceLT, Nat.reduceLeDiff, Nat.reduceAdd, Nat.reduceSub, Nat.reduceMul, Nat.reduceMod, Nat.reduceDiv, Nat.reduceBEq, LN, NN, NT]; done) | (simp (disch := first | assumption | decide | with_unfolding_all rfl | omega | (simp only [LN] <;> omega) | (simp only [RO, OF])) only [RR, ↓reduceIte, Nat.reduceEqDiff, Nat.reduceLT, Nat.reduceLeDiff, Nat.reduceAdd, Nat.reduceSub, Nat.reduceMul, Nat.reduceMod, Nat.reduceDiv, Nat.reduceBEq, LN, fm_app, NN, NT]; done) | rfl
        · have h16' := decide_eq_false h16
          refine J.bind fun x19 h21 => ?_
          have e_h21 := H15_0 _ _ h21
          try simp only [NN, NT, LN] at e_h21
          conv => arg 1; simp (maxSteps := 1000000) (disch := first | assumption | decide | with_unfolding_all rfl | omega | (simp only [LN] <;> omega) | (simp only [RO, OF])) only [RR, RM, LN, TT, d36_at, ↓reduceIte, Nat.reduceEqDiff, Nat.reduceLT, Nat.reduceLeDiff, Nat.reduceAdd, Nat.reduceSub, Nat.reduceMul, Nat.reduceMod, Nat.reduceDiv, Nat.reduceBEq, RH, e_h1, e_h2, e_h11, h12', e_h13, h14', e_h15, h16', e_h21]
          refine J.eq ret_seq ?_
          conv => arg 1; simp (maxSteps := 1000000) (disch := first | assumption | decide | with_unfolding_all rfl | omega | (simp only [LN] <;> omega) | (simp only [RO, OF])) only [RR, RM, LN, TT, d36_at, ↓reduceIte, Nat.reduceEqDiff, Nat.reduceLT, Nat.reduceLeDiff, Nat.reduceAdd, Nat.reduceSub, Nat.reduceMul, Nat.reduceMod, Nat.reduceDiv, Nat.reduceBEq, RH, e_h1, e_h2, e_h11, h12', e_h13, h14', e_h15, h16', e_h21]
          refine J.ite (fun h22 => ?_) (fun h22 => ?_)
          · have h22' := decide_eq_true h22
            conv => arg 1; simp (maxSteps := 1000000) (disch := first | assumption | decide | with_unfolding_all rfl | omega | (simp only [LN] <;> omega) | (simp only [RO, OF])) only [RR, RM, LN, TT, d36_at, ↓reduceIte, Nat.reduceEqDiff, Nat.reduceLT, Nat.reduceLeDiff, Nat.reduceAdd, Nat.reduceSub, Nat.reduceMul, Nat.reduceMod, Nat.reduceDiv, Nat.reduceBEq, RH, e_h1, e_h2, e_h11, h12', e_h13, h14', e_h15, h16', e_h21, h22']
            refine J.joinS (fun (t : Unit) => ([(0, .v (.int .i64 x1)), (1, .v (.int .u32 x2)), (2, .v (.int .u32 x3)), (7, .v (.bool (!(x4 == x5))))], [])) (fun t => ref01_MulBy_k3 fu x4 x5) ?_ (fun hj3 => ?_)
            · rintro ⟨⟩
              show J _ (ref01_MulBy_k3 fu x4 x5) _
              unfold ref01_MulBy_k3
              refine J.bind fun x20 h23 => ?_
              have e_h23 := H75_0 _ _ _ h23
              try simp only [NN, NT, LN] at e_h23
              refine J.some ?_
              simp (maxSteps := 20000000) (disch := first | assumption | decide | with_unfolding_all rfl | omega | (simp only [LN] <;> omega) | (simp only [RO, OF])) only [RR, RM, LN, TT, d36_at, ↓reduceIte, Nat.reduceEqDiff, Nat.reduceLT, Nat.reduceLeDiff, Nat.reduceAdd, Nat.reduceSub, Nat.reduceMul, Nat.reduceMod, Nat.reduceDiv, Nat.reduceBEq, RH, e_h1, e_h2, e_h11, h12', e_h13, h14', e_h15, h16', e_h21, h22', e_h23, FF, LN, NN, NT]
            · refine J.eq go_seq ?_
              conv => arg 1; simp (maxSteps := 1000000) (disch := first | assumption | decide | with_unfolding_all rfl | omega | (simp only [LN] <;> omega) | (simp only [RO, OF])) only [RR, RM, LN, TT, d36_at, ↓reduceIte, Nat.reduceEqDiff, Nat.reduceLT, Nat.reduceLeDiff, Nat.reduceAdd, Nat.reduceSub, Nat.reduceMul, Nat.reduceMod, Nat.reduceDiv, Nat.reduceBEq, RH, e_h1, e_h2, e_h11, h12', e_h13, h14', e_h15, h16', e_h21, h22']
              refine J.ite (fun h24 => ?_) (fun h24 => ?_)
              · have h24' := decide_eq_true h24
                conv => arg 1; simp (maxSteps := 1000000) (disch := first | assumption | decide | with_unfolding_all rfl | omega | (simp only [LN] <;> omega) | (simp only [RO, OF])) only [RR, RM, LN, TT, d36_at, ↓reduceIte, Nat.reduceEqDiff, Nat.reduceLT, Nat.reduceLeDiff, Nat.reduceAdd, Nat.reduceSub, Nat.reduceMul, Nat.reduceMod, Nat.reduceDiv, Nat.reduceBEq, RH, e_h1, e_h2, e_h11, h12', e_h13, h14', e_h15, h16', e_h21, h22', h24']
                refine J.eq ret_seq ?_
                refine J.some ?_
                simp (maxSteps := 20000000) (disch := first | assumption | decide | with_unfolding_all rfl | omega | (simp only [LN] <;> omega) | (simp only [RO, OF])) only [RR, RM, LN, TT, d36_at, ↓reduceIte, Nat.reduceEqDiff, Nat.reduceLT, Nat.reduceLeDiff, Nat.reduceAdd, Nat.reduceSub, Nat.reduceMul, Nat.reduceMod, Nat.reduceDiv, Nat.reduceBEq, RH, e_h1, e_h2, e_h11, h12', e_h13, h14', e_h15, h16', e_h21, h22', h24', FF, LN, NN, NT]
              · have h24' := decide_eq_false h24
                conv => arg 1; simp (maxSteps := 1000000) (disch := first | assumption | decide | with_unfolding_all rfl | omega | (simp only [LN] <;> omega) | (simp only [RO, OF])) only [RR, RM, LN, TT, d36_at, ↓reduceIte, Nat.reduceEqDiff, Nat.reduceLT, Nat.reduceLeDiff, Nat.reduceAdd, Nat.reduceSub, Nat.reduceMul, Nat.reduceMod, Nat.reduceDiv, Nat.reduceBEq, RH, e_h1, e_h2, e_h11, h12', e_h13, h14', e_h15, h16', e_h21, h22', h24']
                refine J.eq ret_seq ?_
                conv => arg 1; simp (maxSteps := 1000000) (disch := first | assumption | decide | with_unfolding_all rfl | omega | (simp only [LN] <;> omega) | (simp only [RO, OF])) only [RR, RM, LN, TT, d36_at, ↓reduceIte, Nat.reduceEqDiff, Nat.reduceLT, Nat.reduceLeDiff, Nat.reduceAdd, Nat.reduceSub, Nat.reduceMul, Nat.reduceMod, Nat.reduceDiv, Nat.reduceBEq, RH, e_h1, e_h2, e_h11, h12', e_h13, h14', e_h15, h16', e_h21, h22', h24']
                refine J.ite (fun h25 => ?_) (fun h25 => ?_)
                · exact J.none
                · have h25' := decide_eq_false h25
                  conv => arg 1; simp (maxSteps := 1000000) (disch := first | assumption | decide | with_unfolding_all rfl | omega | (simp only [LN] <;> omega) | (simp only [RO, OF])) only [RR, RM, LN, TT, d36_at, ↓reduceIte, Nat.reduceEqDiff, Nat.reduceLT, Nat.reduceLeDiff, Nat.reduceAdd, Nat.reduceSub, Nat.reduceMul, Nat.reduceMod, Nat.reduceDiv, Nat.reduceBEq, RH, e_h1, e_h2, e_h11, h12', e_h13, h14', e_h15, h16', e_h21, h22', h24', h25']
                  refine J.jmp (t := ()) hj3 ?_ ?_
                  · first | rfl | (simp only [LN, NN, NT])
                  · first | (simp (disch := first | assumption | decide | with_unfolding_all rfl | omega | (simp only [LN] <;> omega) | (simp only [RO, OF])) only [RR, ↓reduceIte, Nat.reduceEqDiff, Nat.reduceLT, Nat.reduceLeDiff, Nat.reduceAdd, Nat.reduceSub, Nat.reduceMul, Nat.reduceMod, Nat.reduceDiv, Nat.reduceBEq, LN, NN, NT]; done) | (simp (disch := first | assumption | decide | with_unfolding_all rfl | omega | (simp only [LN] <;> omega) | (simp only [RO, OF])) only [RR, ↓reduceIte, Nat.reduceEqDiff, Nat.reduceLT, Nat.reduceLeDiff, Nat.reduceAdd, Nat.reduceSub, Nat.reduceMul, Nat.reduceMod, Nat.reduceDiv, Nat.reduceBEq, LN, fm_app, NN, NT]; done) | rfl
          · have h22' := decide_eq_false h22
            conv => arg 1; simp (maxSteps := 1000000) (disch := first | assumption | decide | with_unfolding_all rfl | omega | (simp only [LN] <;> omega) | (simp only [RO, OF])) only [RR, RM, LN, TT, d36_at, ↓reduceIte, Nat.reduceEqDiff, Nat.reduceLT, Nat.reduceLeDiff, Nat.reduceAdd, Nat.reduceSub, Nat.reduceMul, Nat.reduceMod, Nat.reduceDiv, Nat.reduceBEq, RH, e_h1, e_h2, e_h11, h12', e_h13, h14', e_h15, h16', e_h21, h22']
            refine J.jmp (t := ()) hj1 ?_ ?_
            · first | rfl | (simp only [LN, NN, NT])
            · first | (simp (disch := first | assumption | decide | with_unfolding_all rfl | omega | (simp only [LN] <;> omega) | (simp only [RO, OF])) only [RR, ↓reduceIte, Nat.reduceEqDiff, Nat.reduceLT, Nat.reduceLeDiff, Nat.reduceAdd, Nat.reduceSub, Nat.reduceMul, Nat.reduceMod, Nat.reduceDiv, Nat.reduceBEq, LN, NN, NT]; done) | (simp (disch := first | assumption | decide | with_unfolding_all rfl | omega | (simp only [LN] <;> omega) | (simp only [RO, OF])) only [RR, ↓reduceIte, Nat.reduceEqDiff, Nat.reduceLT, Nat.reduceLeDiff, Nat.reduceAdd, Nat.reduceSub, Nat.reduceMul, Nat.reduceMod, Nat.reduceDiv, Nat.reduceBEq, LN, fm_app, NN, NT]; done) | rfl
noncomputable def t36 (fu : Nat) : CallP := orE 69 (mkC (fun (t : Int) => ([.v (.int .u32 t)] : List AV)) (fun t => ref01_Below fu t) e69) (orE 67 (mkC (fun (t : Int) => ([.v (.int .u32 t)] : List AV)) (fun t => ref01_IsNone fu t) e67) (orE 15 (mkC (fun (t : Int) => ([.v (.int .u32 t)] : List AV)) (fun t => ref01_Abs fu t) e15) (orE 75 (mkC (fun (t : Bool × Int) => ([.v (.bool t.1), .v (.int .u32 t.2)] : List AV)) (fun t => ref01_signed fu t.1 t.2) e75) (orE 68 (mkC (fun (t : Int) => ([.v (.int .u32 t)] : List AV)) (fun t => ref01_Amount fu t) e68) (orE 76 (mkC (fun (t : (List Int) × (List Int)) => ([.arr t.1.length (lm (ik .u32) t.1), .arr t.2.length (lm (ik .u32) t.2)] : List AV)) (fun t => ref01_Times fu t.1 t.2) e76) (orE 72 (mkC (fun (t : Int) => ([.v (.int .u64 t)] : List AV)) (fun t => ref01_Of fu t) e72) (orE 77 (mkC (fun (t : (List Int) × Int) => ([.arr t.1.length (lm (ik .u32) t.1), .v (.int .i64 t.2)] : List AV)) (fun t => ref01_Twice fu t.1 t.2) e77) (orE 70 (mkC (fun (t : Int × Bool × (List Int) × (List Int)) => ([.v (.int .i64 t.1), .v (.bool t.2.1), .arr t.2.2.1.length (lm (ik .u32) t.2.2.1), .arr t.2.2.2.length (lm (ik .u32) t.2.2.2)] : List AV)) (fun t => ref01_Rounded fu t.1 t.2.1 t.2.2.1 t.2.2.2) e70) (noP)))))))))
theorem t36_ok (fu : Nat) : CpOK Tryz.prog (t36 fu ) := orE_ok (orE_ok (orE_ok (orE_ok (orE_ok (orE_ok (orE_ok (orE_ok (orE_ok (noP_ok) (mkC_ok (fun t b h => ok70 fu t.1 t.2.1 t.2.2.1 t.2.2.2  b h))) (mkC_ok (fun t b h => ok77 fu t.1 t.2  b h))) (mkC_ok (fun t b h => ok72 fu t  b h))) (mkC_ok (fun t b h => ok76 fu t.1 t.2  b h))) (mkC_ok (fun t b h => ok68 fu t  b h))) (mkC_ok (fun t b h => ok75 fu t.1 t.2  b h))) (mkC_ok (fun t b h => ok15 fu t  b h))) (mkC_ok (fun t b h => ok67 fu t  b h))) (mkC_ok (fun t b h => ok69 fu t  b h))
theorem ok36 (fu : Nat) (x1 : Int) (x2 : Int) (x3 : Int) (r) (h : ref01_MulBy fu x1 x2 x3 = some r) : PureOK Tryz.prog 36 [.v (.int .i64 x1), .v (.int .u32 x2), .v (.int .u32 x3)] (e36 r) :=
  pure_J mixed (cp := t36 fu ) (t36_ok fu  ) noI_ok i36 (w36 _ fu x1 x2 x3  (fun a0 r h => orE_hit (mkC_at (a := a0) (by intro a b h; first | (exact rfl) | (simp only [INJ, IJ] at h; first | exact h | (simp_all [Prod.ext_iff]) )) h)) (fun a0 r h => orE_miss (by decide) (orE_hit (mkC_at (a := a0) (by intro a b h; first | (exact rfl) | (simp only [INJ, IJ] at h; first | exact h | (simp_all [Prod.ext_iff]) )) h))) (fun a0 r h => orE_miss (by decide) (orE_miss (by decide) (orE_hit (mkC_at (a := a0) (by intro a b h; first | (exact rfl) | (simp only [INJ, IJ] at h; first | exact h | (simp_all [Prod.ext_iff]) )) h)))) (fun a0 a1 r h => orE_miss (by decide) (orE_miss (by decide) (orE_miss (by decide) (orE_hit (mkC_at (a := (a0, a1)) (by intro a b h; first | (exact rfl) | (simp only [INJ, IJ] at h; first | exact h | (simp_all [Prod.ext_iff]) )) h))))) (fun a0 r h => orE_miss (by decide) (orE_miss (by decide) (orE_miss (by decide) (orE_miss (by decide) (orE_hit (mkC_at (a := a0) (by intro a b h; first | (exact rfl) | (simp only [INJ, IJ] at h; first | exact h | (simp_all [Prod.ext_iff]) )) h)))))) (fun a0 a1 r h => orE_miss (by decide) (orE_miss (by decide) (orE_miss (by decide) (orE_miss (by decide) (orE_miss (by decide) (orE_hit (mkC_at (a := (a0, a1)) (by intro a b h; first | (exact rfl) | (simp only [INJ, IJ] at h; first | exact h | (simp_all [Prod.ext_iff]) )) h))))))) (fun a0 r h => orE_miss (by decide) (orE_miss (by decide) (orE_miss (by decide) (orE_miss (by decide) (orE_miss (by decide) (orE_miss (by decide) (orE_hit (mkC_at (a := a0) (by intro a b h; first | (exact rfl) | (simp only [INJ, IJ] at h; first | exact h | (simp_all [Prod.ext_iff]) )) h)))))))) (fun a0 a1 r h => orE_miss (by decide) (orE_miss (by decide) (orE_miss (by decide) (orE_miss (by decide) (orE_miss (by decide) (orE_miss (by decide) (orE_miss (by decide) (orE_hit (mkC_at (a := (a0, a1)) (by intro a b h; first | (exact rfl) | (simp only [INJ, IJ] at h; first | exact h | (simp_all [Prod.ext_iff]) )) h))))))))) (fun a0 a1 a2 a3 r h => orE_miss (by decide) (orE_miss (by decide) (orE_miss (by decide) (orE_miss (by decide) (orE_miss (by decide) (orE_miss (by decide) (orE_miss (by decide) (orE_miss (by decide) (orE_hit (mkC_at (a := (a0, a1, a2, a3)) (by intro a b h; first | (exact rfl) | (simp only [INJ, IJ] at h; first | exact h | (simp_all [Prod.ext_iff]) )) h))))))))))) h
/-! 22: lattice/latticeref01.Mul -/
def d22 : List (Nat × List Nat) := [(0, [4]), (0, []), (0, [0, 1, 5, 6, 7])]
def d22_at := And.intro (show d22.getD 0 (0, []) = (0, [4]) from rfl) <| And.intro (show d22.getD 1 (0, []) = (0, []) from rfl) <| (show d22.getD 2 (0, []) = (0, [0, 1, 5, 6, 7]) from rfl)
theorem i22 : finfo Tryz.prog 22 d22 = some ⟨bodyOf Tryz.f22, [.tmp 4], [24]⟩ := finfo_at Tryz.func22 rfl (by kernel_rfl) (by kernel_rfl)
def e22 : Int → AV := fun r => .v (.int .u32 r)
set_option maxHeartbeats 20000000 in
theorem w22 (cp : CallP) (fu : Nat) (x1 : Int) (x2 : Int) (H36_0 : ∀ (a0 : Int) (a1 : Int) (a2 : Int) r, ref01_MulBy fu a0 a1 a2 = some r → cp 36 [.v (.int .i64 a0), .v (.int .u32 a1), .v (.int .u32 a2)] = some (.v (.int .u32 r))) : J (go Tryz.prog noC cp noI 0 [] d22 fu (fin Tryz.prog [.tmp 4] [24]) (bodyOf Tryz.f22) (initE 0 [.v (.int .u32 x1), .v (.int .u32 x2)]) [] []) (ref01_Mul fu x1 x2) e22 := by
  unfold ref01_Mul e22
  refine J.bind fun x3 h1 => ?_
  have e_h1 := H36_0 _ _ _ _ h1
  try simp only [NN, NT, LN] at e_h1
  refine J.some ?_
  simp (maxSteps := 20000000) (disch := first | assumption | decide | with_unfolding_all rfl | omega | (simp only [LN] <;> omega) | (simp only [RO, OF])) only [bodyOf, Tryz.f22, RR, RM, LN, TT, d22_at, ↓reduceIte, Nat.reduceEqDiff, Nat.reduceLT, Nat.reduceLeDiff, Nat.reduceAdd, Nat.reduceSub, Nat.reduceMul, Nat.reduceMod, Nat.reduceDiv, Nat.reduceBEq, RH, e_h1, FF, LN, NN, NT]
noncomputable def t22 (fu : Nat) : CallP := orE 36 (mkC (fun (t : Int × Int × Int) => ([.v (.int .i64 t.1), .v (.int .u32 t.2.1), .v (.int .u32 t.2.2)] : List AV)) (fun t => ref01_MulBy fu t.1 t.2.1 t.2.2) e36) (noP)
theorem t22_ok (fu : Nat) : CpOK Tryz.prog (t22 fu ) := orE_ok (noP_ok) (mkC_ok (fun t b h => ok36 fu t.1 t.2.1 t.2.2  b h))
theorem ok22 (fu : Nat) (x1 : Int) (x2 : Int) (r) (h : ref01_Mul fu x1 x2 = some r) : PureOK Tryz.prog 22 [.v (.int .u32 x1), .v (.int .u32 x2)] (e22 r) :=
  pure_J mixed (cp := t22 fu ) (t22_ok fu  ) noI_ok i22 (w22 _ fu x1 x2  (fun a0 a1 a2 r h => orE_hit (mkC_at (a := (a0, a1, a2)) (by intro a b h; first | (exact rfl) | (simp only [INJ, IJ] at h; first | exact h | (simp_all [Prod.ext_iff]) )) h))) h
/-! 74: lattice/latticeref01.Minus -/
def d74 : List (Nat × List Nat) := [(0, [4]), (0, [0, 1, 6, 7]), (0, [1000005]), (0, []), (0, []), (0, []), (0, []), (0, []), (0, [10, 11, 12]), (0, []), (0, [14, 15]), (0, []), (0, [16]), (0, []), (0, [17, 18, 19]), (0, []), (0, [21, 22, 23, 24, 25, 26, 27]), (0, []), (0, [28, 29, 30, 31, 32]), (0, []), (0, []), (0, []), (0, [33, 34]), (0, []), (0, [36, 37]), (0, []), (0, []), (0, []), (0, [8, 9, 38, 39, 40, 41, 42, 43, 44]), (0, []), (0, [5, 45, 46])]
def d74_at := And.intro (show d74.getD 0 (0, []) = (0, [4]) from rfl) <| And.intro (show d74.getD 1 (0, []) = (0, [0, 1, 6, 7]) from rfl) <| And.intro (show d74.getD 2 (0, []) = (0, [1000005]) from rfl) <| And.intro (show d74.getD 3 (0, []) = (0, []) from rfl) <| And.intro (show d74.getD 4 (0, []) = (0, []) from rfl) <| And.intro (show d74.getD 5 (0, []) = (0, []) from rfl) <| And.intro (show d74.getD 6 (0, []) = (0, []) from rfl) <| And.intro (show d74.getD 7 (0, []) = (0, []) from rfl) <| And.intro (show d74.getD 8 (0, []) = (0, [10, 11, 12]) from rfl) <| And.intro (show d74.getD 9 (0, []) = (0, []) from rfl) <| And.intro (show d74.getD 10 (0, []) = (0, [14, 15]) from rfl) <| And.intro (show d74.getD 11 (0, []) = (0, []) from rfl) <| And.intro (show d74.getD 12 (0, []) = (0, [16]) from rfl) <| And.intro (show d74.getD 13 (0, []) = (0, []) from rfl) <| And.intro (show d74.getD 14 (0, []) = (0, [17, 18, 19]) from rfl) <| And.intro (show d74.getD 15 (0, []) = (0, []) from rfl) <| And.intro (show d74.getD 16 (0, []) = (0, [21, 22, 23, 24, 25, 26, 27]) from rfl) <| And.intro (show d74.getD 17 (0, []) = (0, []) from rfl) <| And.intro (show d74.getD 18 (0, []) = (0, [28, 29, 30, 31, 32]) from rfl) <| And.intro (show d74.getD 19 (0, []) = (0, []) from rfl) <| And.intro (show d74.getD 20 (0, []) = (0, []) from rfl) <| And.intro (show d74.getD 21 (0, []) = (0, []) from rfl) <| And.intro (show d74.getD 22 (0, []) = (0, [33, 34]) from rfl) <| And.intro (show d74.getD 23 (0, []) = (0, []) from rfl) <| And.intro (show d74.getD 24 (0, []) = (0, [36, 37]) from rfl) <| And.intro (show d74.getD 25 (0, []) = (0, []) from rfl) <| And.intro (show d74.getD 26 (0, []) = (0, []) from rfl) <| And.intro (show d74.getD 27 (0, []) = (0, []) from rfl) <| And.intro (show d74.getD 28 (0, []) = (0, [8, 9, 38, 39, 40, 41, 42, 43, 44]) from rfl) <| And.intro (show d74.getD 29 (0, []) = (0, []) from rfl) <| (show d74.getD 30 (0, []) = (0, [5, 45, 46]) from rfl)
theorem i74 : finfo Tryz.prog 74 d74 = some ⟨bodyOf Tryz.f74, [.tmp 4], [98]⟩ := finfo_at Tryz.func74 rfl (by kernel_rfl) (by kernel_rfl)
def e74 : (List Int) → AV := fun r => .arr r.length (lm (ik .u32) r)
set_option maxHeartbeats 20000000 in
theorem w74 (cp : CallP) (fu : Nat) (x1 : List Int) (x2 : List Int) (H132_0 : ∀ (a0 : List Int) r, ref01_trim fu a0 = some r → cp 132 [.arr a0.length (lm (ik .u32) a0)] = some (.arr r.length (lm (ik .u32) r))) : J (go Tryz.prog noC cp noI 0 [] d74 fu (fin Tryz.prog [.tmp 4] [98]) (bodyOf Tryz.f74) (initE 0 [.arr x1.length (lm (ik .u32) x1), .arr x2.length (lm (ik .u32) x2)]) [] []) (ref01_Minus fu x1 x2) e74 := by
  unfold ref01_Minus e74
  conv => arg 1; simp (maxSteps := 1000000) (disch := first | assumption | decide | with_unfolding_all rfl | omega | (simp only [LN] <;> omega) | (simp only [RO, OF])) only [bodyOf, Tryz.f74, RR, RM, LN, TT, d74_at, ↓reduceIte, Nat.reduceEqDiff, Nat.reduceLT, Nat.reduceLeDiff, Nat.reduceAdd, Nat.reduceSub, Nat.reduceMul, Nat.reduceMod, Nat.reduceDiv, Nat.reduceBEq, RH]
  refine J.joinS (fun (t : List Int) => ([(5, .own (0, 5, 77) 0 t.length t.length)], [((0, 5, 77), .sl true true 1 t.length (lm (ik .u32) t))])) (fun t => ref01_Minus_k1 fu t) ?_ (fun hj1 => ?_)
  · rintro x3
    show J _ (ref01_Minus_k1 fu x3) _
    unfold ref01_Minus_k1
    refine J.bind fun x4 h1 => ?_
    have e_h1 := H132_0 _ _ h1
    try simp only [NN, NT, LN] at e_h1
    refine J.some ?_
    simp (maxSteps := 20000000) (disch := first | assumption | decide | with_unfolding_all rfl | omega | (simp only [LN] <;> omega) | (simp only [RO, OF])) only [RR, RM, LN, TT, d74_at, ↓reduceIte, Nat.reduceEqDiff, Nat.reduceLT, Nat.reduceLeDiff, Nat.reduceAdd, Nat.reduceSub, Nat.reduceMul, Nat.reduceMod, Nat.reduceDiv, Nat.reduceBEq, RH, e_h1, FF, LN, NN, NT]
  · conv => arg 1; simp (maxSteps := 1000000) (disch := first | assumption | decide | with_unfolding_all rfl | omega | (simp only [LN] <;> omega) | (simp only [RO, OF])) only [RR, RM, LN, TT, d74_at, ↓reduceIte, Nat.reduceEqDiff, Nat.reduceLT, Nat.reduceLeDiff, Nat.reduceAdd, Nat.reduceSub, Nat.reduceMul, Nat.reduceMod, Nat.reduceDiv, Nat.reduceBEq, RH]
    unfold ref01_Minus_W1
    refine J.loop (fun (s : (List Int) × Int × Int) => ([(0, .arr x1.length (lm (ik .u32) x1)), (1, .arr x2.length (lm (ik .u32) x2)), (5, .own (0, 5, 77) 0 s.1.length s.1.length), (6, .v (.int .u64 s.2.1)), (7, .v (.int .i64 s.2.2))], [((0, 5, 77), .sl true true 1 s.1.length (lm (ik .u32) s.1))])) (fun next s => ref01_Minus_L1 fu x1 x2 (fun x10 x11 x12 => next (x10, x11, x12)) s.1 s.2.1 s.2.2) (s0 := (([] : List Int), 0, 0)) ?_ ?_ ?_
    · first | rfl | (simp only [LN, NN, NT])
    · first | (simp (disch := first | assumption | decide | with_unfolding_all rfl | omega | (simp only [LN] <;> omega) | (simp only [RO, OF])) only [RR, ↓reduceIte, Nat.reduceEqDiff, Nat.reduceLT, Nat.reduceLeDiff, Nat.reduceAdd, Nat.reduceSub, Nat.reduceMul, Nat.reduceMod, Nat.reduceDiv, Nat.reduceBEq, LN, NN, NT]; done) | (simp (disch := first | assumption | decide | with_unfolding_all rfl | omega | (simp only [LN] <;> omega) | (simp only [RO, OF])) only [RR, ↓reduceIte, Nat.reduceEqDiff, Nat.reduceLT, Nat.reduceLeDiff, Nat.reduceAdd, Nat.reduceSub, Nat.reduceMul, Nat.reduceMod, Nat.reduceDiv, Nat.reduceBEq, LN, fm_app, NN, NT]; done) | rfl
    rintro next k1 hn1 ⟨x10, x11, x12⟩
    let nx1 : (List Int) → Int → Int → Option (List Int) := (fun x10 x11 x12 => next (x10, x11, x12))
    show J _ (ref01_Minus_L1 fu x1 x2 nx1 x10 x11 x12) _
    unfold ref01_Minus_L1
    refine J.eq go_seq ?_
    conv => arg 1; simp (maxSteps := 1000000) (disch := first | assumption | decide | with_unfolding_all rfl | omega | (simp only [LN] <;> omega) | (simp only [RO, OF])) only [RR, RM, LN, TT, d74_at, ↓reduceIte, Nat.reduceEqDiff, Nat.reduceLT, Nat.reduceLeDiff, Nat.reduceAdd, Nat.reduceSub, Nat.reduceMul, Nat.reduceMod, Nat.reduceDiv, Nat.reduceBEq, RH]
    refine J.ite (fun h2 => ?_) (fun h2 => ?_)
    · have h2' := decide_eq_true h2
      have h2'' : decide ((x1.length : Int) ≤ x12) = false := decide_eq_false (by omega)
      conv => arg 1; simp (maxSteps := 1000000) (disch := first | assumption | decide | with_unfolding_all rfl | omega | (simp only [LN] <;> omega) | (simp only [RO, OF])) only [RR, RM, LN, TT, d74_at, ↓reduceIte, Nat.reduceEqDiff, Nat.reduceLT, Nat.reduceLeDiff, Nat.reduceAdd, Nat.reduceSub, Nat.reduceMul, Nat.reduceMod, Nat.reduceDiv, Nat.reduceBEq, RH, h2'', h2']
      refine J.eq ret_seq ?_
      refine J.eq go_seq ?_
      conv => arg 1; simp (maxSteps := 1000000) (disch := first | assumption | decide | with_unfolding_all rfl | omega | (simp only [LN] <;> omega) | (simp only [RO, OF])) only [RR, RM, LN, TT, d74_at, ↓reduceIte, Nat.reduceEqDiff, Nat.reduceLT, Nat.reduceLeDiff, Nat.reduceAdd, Nat.reduceSub, Nat.reduceMul, Nat.reduceMod, Nat.reduceDiv, Nat.reduceBEq, RH, h2'', h2']
      refine J.joinS (fun (t : Int) => ([(0, .arr x1.length (lm (ik .u32) x1)), (1, .arr x2.length (lm (ik .u32) x2)), (5, .own (0, 5, 77) 0 x10.length x10.length), (6, .v (.int .u64 x11)), (7, .v (.int .i64 x12)), (8, .v (.int .u64 t))], [((0, 5, 77), .sl true true 1 x10.length (lm (ik .u32) x10))])) (fun t => ref01_Minus_k2 fu nx1 x1 x10 x12 t) ?_ (fun hj2 => ?_)
      · rintro x18
        show J _ (ref01_Minus_k2 fu nx1 x1 x10 x12 x18) _
        unfold ref01_Minus_k2
        refine J.at fun x19 h3 h4 h5 => ?_
        conv => arg 1; simp (maxSteps := 1000000) (disch := first | assumption | decide | with_unfolding_all rfl | omega | (simp only [LN] <;> omega) | (simp only [RO, OF])) only [RR, RM, LN, TT, d74_at, ↓reduceIte, Nat.reduceEqDiff, Nat.reduceLT, Nat.reduceLeDiff, Nat.reduceAdd, Nat.reduceSub, Nat.reduceMul, Nat.reduceMod, Nat.reduceDiv, Nat.reduceBEq, RH, h2'', h2', lm_ik h5]
        refine J.joinS (fun (t : Int × Int) => ([(0, .arr x1.length (lm (ik .u32) x1)), (1, .arr x2.length (lm (ik .u32) x2)), (5, .own (0, 5, 77) 0 x10.length x10.length), (6, .v (.int .u64 t.1)), (7, .v (.int .i64 x12)), (8, .v (.int .u64 x18)), (9, .v (.int .u64 t.2))], [((0, 5, 77), .sl true true 1 x10.length (lm (ik .u32) x10))])) (fun t => ref01_Minus_k3 fu nx1 x10 x12 x18 t.1 t.2) ?_ (fun hj3 => ?_)
        · rintro ⟨x20, x21⟩
          show J _ (ref01_Minus_k3 fu nx1 x10 x12 x18 x20 x21) _
          unfold ref01_Minus_k3
          refine J.chk fun h6 => ?_
          conv => arg 1; simp (maxSteps := 1000000) (disch := first | assumption | decide | with_unfolding_all rfl | omega | (simp only [LN] <;> omega) | (simp only [RO, OF])) only [RR, RM, LN, TT, d74_at, ↓reduceIte, Nat.reduceEqDiff, Nat.reduceLT, Nat.reduceLeDiff, Nat.reduceAdd, Nat.reduceSub, Nat.reduceMul, Nat.reduceMod, Nat.reduceDiv, Nat.reduceBEq, RH, h2'', h2', lm_ik h5]
          refine J.eq ret_seq ?_
          conv => arg 1; simp (maxSteps := 1000000) (disch := first | assumption | decide | with_unfolding_all rfl | omega | (simp only [LN] <;> omega) | (simp only [RO, OF])) only [RR, RM, LN, TT, d74_at, ↓reduceIte, Nat.reduceEqDiff, Nat.reduceLT, Nat.reduceLeDiff, Nat.reduceAdd, Nat.reduceSub, Nat.reduceMul, Nat.reduceMod, Nat.reduceDiv, Nat.reduceBEq, RH, h2'', h2', lm_ik h5]
          refine J.next (s := (x10 ++ ([wk .u32 (wk .u64 (x21 - x18))]), x20, wk .i64 (x12 + 1))) hn1 ?_ ?_
          · first | rfl | (simp only [LN, NN, NT])
          · first | (simp (disch := first | assumption | decide | with_unfolding_all rfl | omega | (simp only [LN] <;> omega) | (simp only [RO, OF])) only [RR, ↓reduceIte, Nat.reduceEqDiff, Nat.reduceLT, Nat.reduceLeDiff, Nat.reduceAdd, Nat.reduceSub, Nat.reduceMul, Nat.reduceMod, Nat.reduceDiv, Nat.reduceBEq, LN, NN, NT]; done) | (simp (disch := first | assumption | decide | with_unfolding_all rfl | omega | (simp only [LN] <;> omega) | (simp only [RO, OF])) only [RR, ↓reduceIte, Nat.reduceEqDiff, Nat.reduceLT, Nat.reduceLeDiff, Nat.reduceAdd, Nat.reduceSub, Nat.reduceMul, Nat.reduceMod, Nat.reduceDiv, Nat.reduceBEq, LN, fm_app, NN, NT]; done) | rfl
        · conv => arg 1; simp (maxSteps := 1000000) (disch := first | assumption | decide | with_unfolding_all rfl | omega | (simp only [LN] <;> omega) | (simp only [RO, OF])) only [RR, RM, LN, TT, d74_at, ↓reduceIte, Nat.reduceEqDiff, Nat.reduceLT, Nat.reduceLeDiff, Nat.reduceAdd, Nat.reduceSub, Nat.reduceMul, Nat.reduceMod, Nat.reduceDiv, Nat.reduceBEq, RH, h2'', h2', lm_ik h5]
          refine J.ite (fun h7 => ?_) (fun h7 => ?_)
          · have h7' := decide_eq_true h7
            have h7'' : decide (x18 ≤ (wk .u64 x19)) = false := decide_eq_false (by omega)
            conv => arg 1; simp (maxSteps := 1000000) (disch := first | assumption | decide | with_unfolding_all rfl | omega | (simp only [LN] <;> omega) | (simp only [RO, OF])) only [RR, RM, LN, TT, d74_at, ↓reduceIte, Nat.reduceEqDiff, Nat.reduceLT, Nat.reduceLeDiff, Nat.reduceAdd, Nat.reduceSub, Nat.reduceMul, Nat.reduceMod, Nat.reduceDiv, Nat.reduceBEq, RH, h2'', h2', lm_ik h5, h7'', h7']
            refine J.jmp (t := (1, wk .u64 ((wk .u64 x19) + 4294967296))) hj3 ?_ ?_
            · first | rfl | (simp only [LN, NN, NT])
            · first | (simp (disch := first | assumption | decide | with_unfolding_all rfl | omega | (simp only [LN] <;> omega) | (simp only [RO, OF])) only [RR, ↓reduceIte, Nat.reduceEqDiff, Nat.reduceLT, Nat.reduceLeDiff, Nat.reduceAdd, Nat.reduceSub, Nat.reduceMul, Nat.reduceMod, Nat.reduceDiv, Nat.reduceBEq, LN, NN, NT]; done) | (simp (disch := first | assumption | decide | with_unfolding_all rfl | omega | (simp only [LN] <;> omega) | (simp only [RO, OF])) only [RR, ↓reduceIte, Nat.reduceEqDiff, Nat.reduceLT, Nat.reduceLeDiff, Nat.reduceAdd, Nat.reduceSub, Nat.reduceMul, Nat.reduceMod, Nat.reduceDiv, Nat.reduceBEq, LN, fm_app, NN, NT]; done) | rfl
          · have h7' := decide_eq_false h7
            have h7'' : decide (x18 ≤ (wk .u64 x19)) = true := decide_eq_true (by omega)
            conv => arg 1; simp (maxSteps := 1000000) (disch := first | assumption | decide | with_unfolding_all rfl | omega | (simp only [LN] <;> omega) | (simp only [RO, OF])) only [RR, RM, LN, TT, d74_at, ↓reduceIte, Nat.reduceEqDiff, Nat.reduceLT, Nat.reduceLeDiff, Nat.reduceAdd, Nat.reduceSub, Nat.reduceMul, Nat.reduceMod, Nat.reduceDiv, Nat.reduceBEq, RH, h2'', h2', lm_ik h5, h7'', h7']
            refine J.jmp (t := (0, wk .u64 x19)) hj3 ?_ ?_
            · first | rfl | (simp only [LN, NN, NT])
            · first | (simp (disch := first | assumption | decide | with_unfolding_all rfl | omega | (simp only [LN] <;> omega) | (simp only [RO, OF])) only [RR, ↓reduceIte, Nat.reduceEqDiff, Nat.reduceLT, Nat.reduceLeDiff, Nat.reduceAdd, Nat.reduceSub, Nat.reduceMul, Nat.reduceMod, Nat.reduceDiv, Nat.reduceBEq, LN, NN, NT]; done) | (simp (disch := first | assumption | decide | with_unfolding_all rfl | omega | (simp only [LN] <;> omega) | (simp only [RO, OF])) only [RR, ↓reduceIte, Nat.reduceEqDiff, Nat.reduceLT, Nat.reduceLeDiff, Nat.reduceAdd, Nat.reduceSub, Nat.reduceMul, Nat.reduceMod, Nat.reduceDiv, Nat.reduceBEq, LN, fm_app, NN, NT]; done) | rfl
      · conv => arg 1; simp (maxSteps := 1000000) (disch := first | assumption | decide | with_unfolding_all rfl | omega | (simp only [LN] <;> omega) | (simp only [RO, OF])) only [RR, RM, LN, TT, d74_at, ↓reduceIte, Nat.reduceEqDiff, Nat.reduceLT, Nat.reduceLeDiff, Nat.reduceAdd, Nat.reduceSub, Nat.reduceMul, Nat.reduceMod, Nat.reduceDiv, Nat.reduceBEq, RH, h2'', h2']
        refine J.ite (fun h8 => ?_) (fun h8 => ?_)
        · have h8' := decide_eq_true h8
          have h8'' : decide ((x2.length : Int) ≤ x12) = false := decide_eq_false (by omega)
          refine J.at fun x22 h9 h10 h11 => ?_
          conv => arg 1; simp (maxSteps := 1000000) (disch := first | assumption | decide | with_unfolding_all rfl | omega | (simp only [LN] <;> omega) | (simp only [RO, OF])) only [RR, RM, LN, TT, d74_at, ↓reduceIte, Nat.reduceEqDiff, Nat.reduceLT, Nat.reduceLeDiff, Nat.reduceAdd, Nat.reduceSub, Nat.reduceMul, Nat.reduceMod, Nat.reduceDiv, Nat.reduceBEq, RH, h2'', h2', h8'', h8', lm_ik h11]
          refine J.jmp (t := wk .u64 (x11 + (wk .u64 x22))) hj2 ?_ ?_
          · first | rfl | (simp only [LN, NN, NT])
          · first | (simp (disch := first | assumption | decide | with_unfolding_all rfl | omega | (simp only [LN] <;> omega) | (simp only [RO, OF])) only [RR, ↓reduceIte, Nat.reduceEqDiff, Nat.reduceLT, Nat.reduceLeDiff, Nat.reduceAdd, Nat.reduceSub, Nat.reduceMul, Nat.reduceMod, Nat.reduceDiv, Nat.reduceBEq, LN, NN, NT]; done) | (simp (disch := first | assumption | decide | with_unfolding_all rfl | omega | (simp only [LN] <;> omega) | (simp only [RO, OF])) only [RR, ↓reduceIte, Nat.reduceEqDiff, Nat.reduceLT, Nat.reduceLeDiff, Nat.reduceAdd, Nat.reduceSub, Nat.reduceMul, Nat.reduceMod, Nat.reduceDiv, Nat.reduceBEq, LN, fm_app, NN, NT]; done) | rfl
        · have h8' := decide_eq_false h8
          have h8'' : decide ((x2.length : Int) ≤ x12) = true := decide_eq_true (by omega)
          conv => arg 1; simp (maxSteps := 1000000) (disch := first | assumption | decide | with_unfolding_all rfl | omega | (simp only [LN] <;> omega) | (simp only [RO, OF])) only [RR, RM, LN, TT, d74_at, ↓reduceIte, Nat.reduceEqDiff, Nat.reduceLT, Nat.reduceLeDiff, Nat.reduceAdd, Nat.reduceSub, Nat.reduceMul, Nat.reduceMod, Nat.reduceDiv, Nat.reduceBEq, RH, h2'', h2', h8'', h8']
          refine J.jmp (t := x11) hj2 ?_ ?_
          · first | rfl | (simp only [LN, NN, NT])
          · first | (simp (disch := first | assumption | decide | with_unfolding_all rfl | omega | (simp only [LN] <;> omega) | (simp only [RO, OF])) only [RR, ↓reduceIte, Nat.reduceEqDiff, Nat.reduceLT, Nat.reduceLeDiff, Nat.reduceAdd, Nat.reduceSub, Nat.reduceMul, Nat.reduceMod, Nat.reduceDiv, Nat.reduceBEq, LN, NN, NT]; done) | (simp (disch := first | assumption | decide | with_unfolding_all rfl | omega | (simp only [LN] <;> omega) | (simp only [RO, OF])) only [RR, ↓reduceIte, Nat.reduceEqDiff, Nat.reduceLT, Nat.reduceLeDiff, Nat.reduceAdd, Nat.reduceSub, Nat.reduceMul, Nat.reduceMod, Nat.reduceDiv, Nat.reduceBEq, LN, fm_app, NN, NT]; done) | rfl
    · have h2' := decide_eq_false h2
      have h2'' : decide ((x1.length : Int) ≤ x12) = true := decide_eq_true (by omega)
      conv => arg 1; simp (maxSteps := 1000000) (disch := first | assumption | decide | with_unfolding_all rfl | omega | (simp only [LN] <;> omega) | (simp only [RO, OF])) only [RR, RM, LN, TT, d74_at, ↓reduceIte, Nat.reduceEqDiff, Nat.reduceLT, Nat.reduceLeDiff, Nat.reduceAdd, Nat.reduceSub, Nat.reduceMul, Nat.reduceMod, Nat.reduceDiv, Nat.reduceBEq, RH, h2'', h2']
      refine J.jmp (t := x10) hj1 ?_ ?_
      · first | rfl | (simp only [LN, NN, NT])
      · first | (simp (disch := first | assumption | decide | with_unfolding_all rfl | omega | (simp only [LN] <;> omega) | (simp only [RO, OF])) only [RR, ↓reduceIte, Nat.reduceEqDiff, Nat.reduceLT, Nat.reduceLeDiff, Nat.reduceAdd, Nat.reduceSub, Nat.reduceMul, Nat.reduceMod, Nat.reduceDiv, Nat.reduceBEq, LN, NN, NT]; done) | (simp (disch := first | assumption | decide | with_unfolding_all rfl | omega | (simp only [LN] <;> omega) | (simp only [RO, OF])) only [RR, ↓reduceIte, Nat.reduceEqDiff, Nat.reduceLT, Nat.reduceLeDiff, Nat.reduceAdd, Nat.reduceSub, Nat.reduceMul, Nat.reduceMod, Nat.reduceDiv, Nat.reduceBEq, LN, fm_app, NN, NT]; done) | rfl
noncomputable def t74 (fu : Nat) : CallP := orE 132 (mkC (fun (t : List Int) => ([.arr t.length (lm (ik .u32) t)] : List AV)) (fun t => ref01_trim fu t) e132) (noP)
theorem t74_ok (fu : Nat) : CpOK Tryz.prog (t74 fu ) := orE_ok (noP_ok) (mkC_ok (fun t b h => ok132 fu t  b h))
theorem ok74 (fu : Nat) (x1 : List Int) (x2 : List Int) (r) (h : ref01_Minus fu x1 x2 = some r) : PureOK Tryz.prog 74 [.arr x1.length (lm (ik .u32) x1), .arr x2.length (lm (ik .u32) x2)] (e74 r) :=
  pure_J mixed (cp := t74 fu ) (t74_ok fu  ) noI_ok i74 (w74 _ fu x1 x2  (fun a0 r h => orE_hit (mkC_at (a := a0) (by intro a b h; first | (exact rfl) | (simp only [INJ, IJ] at h; first | exact h | (simp_all [Prod.ext_iff]) )) h))) h
/-! 35: lattice/latticeref01.AddBy -/
def d35 : List (Nat × List Nat) := [(0, [6]), (0, [1, 2, 7, 8, 68]), (0, [9, 10, 11, 12, 13]), (0, []), (0, []), (0, []), (0, [15, 16, 17, 18, 19, 20, 21]), (0, []), (0, [23, 24, 25, 26, 27, 28, 29, 30, 31]), (0, []), (0, []), (0, []), (0, [33, 34]), (0, []), (0, [36]), (0, []), (0, [37]), (0, []), (0, [38, 39, 40]), (0, []), (0, [41, 42, 43]), (0, []), (0, [44, 45, 46, 47]), (0, []), (0, [49, 50, 51, 52, 53, 54, 55]), (0, []), (0, [57]), (0, []), (0, [58, 59, 60, 61, 62, 63, 64, 65]), (0, []), (0, [66, 67]), (0, []), (0, [70]), (0, []), (0, [71, 72, 73, 74, 75, 76, 77, 78]), (0, []), (0, [80]), (0, []), (0, [81, 82, 83, 84, 85, 86, 87, 88]), (0, []), (0, [0, 89]), (0, []), (0, []), (0, []), (0, [])]
def d35_at := And.intro (show d35.getD 0 (0, []) = (0, [6]) from rfl) <| And.intro (show d35.getD 1 (0, []) = (0, [1, 2, 7, 8, 68]) from rfl) <| And.intro (show d35.getD 2 (0, []) = (0, [9, 10, 11, 12, 13]) from rfl) <| And.intro (show d35.getD 3 (0, []) = (0, []) from rfl) <| And.intro (show d35.getD 4 (0, []) = (0, []) from rfl) <| And.intro (show d35.getD 5 (0, []) = (0, []) from rfl) <| And.intro (show d35.getD 6 (0, []) = (0, [15, 16, 17, 18, 19, 20, 21]) from rfl) <| And.intro (show d35.getD 7 (0, []) = (0, []) from rfl) <| And.intro (show d35.getD 8 (0, []) = (0, [23, 24, 25, 26, 27, 28, 29, 30, 31]) from rfl) <| And.intro (show d35.getD 9 (0, []) = (0, []) from rfl) <| And.intro (show d35.getD 10 (0, []) = (0, []) from rfl) <| And.intro (show d35.getD 11 (0, []) = (0, []) from rfl) <| And.intro (show d35.getD 12 (0, []) = (0, [33, 34]) from rfl) <| And.intro (show d35.getD 13 (0, []) = (0, []) from rfl) <| And.intro (show d35.getD 14 (0, []) = (0, [36]) from rfl) <| And.intro (show d35.getD 15 (0, []) = (0, []) from rfl) <| And.intro (show d35.getD 16 (0, []) = (0, [37]) from rfl) <| And.intro (show d35.getD 17 (0, []) = (0, []) from rfl) <| And.intro (show d35.getD 18 (0, []) = (0, [38, 39, 40]) from rfl) <| And.intro (show d35.getD 19 (0, []) = (0, []) from rfl) <| And.intro (show d35.getD 20 (0, []) = (0, [41, 42, 43]) from rfl) <| And.intro (show d35.getD 21 (0, []) = (0, []) from rfl) <| And.intro (show d35.getD 22 (0, []) = (0, [44, 45, 46, 47]) from rfl) <| And.intro (show d35.getD 23 (0, []) = (0, []) from rfl) <| And.intro (show d35.getD 24 (0, []) = (0, [49, 50, 51, 52, 53, 54, 55]) from rfl) <| And.intro (show d35.getD 25 (0, []) = (0, []) from rfl) <| And.intro (show d35.getD 26 (0, []) = (0, [57]) from rfl) <| And.intro (show d35.getD 27 (0, []) = (0, []) from rfl) <| And.intro (show d35.getD 28 (0, []) = (0, [58, 59, 60, 61, 62, 63, 64, 65]) from rfl) <| And.intro (show d35.getD 29 (0, []) = (0, []) from rfl) <| And.intro (show d35.getD 30 (0, []) = (0, [66, 67]) from rfl) <| And.intro (show d35.getD 31 (0, []) = (0, []) from rfl) <| And.intro (show d35.getD 32 (0, []) = (0, [70]) from rfl) <| And.intro (show d35.getD 33 (0, []) = (0, []) from rfl) <| And.intro (show d35.getD 34 (0, []) = (0, [71, 72, 73, 74, 75, 76, 77, 78]) from rfl) <| And.intro (show d35.getD 35 (0, []) = (0, []) from rfl) <| And.intro (show d35.getD 36 (0, []) = (0, [80]) from rfl) <| And.intro (show d35.getD 37 (0, []) = (0, []) from rfl) <| And.intro (show d35.getD 38 (0, []) = (0, [81, 82, 83, 84, 85, 86, 87, 88]) from rfl) <| And.intro (show d35.getD 39 (0, []) = (0, []) from rfl) <| And.intro (show d35.getD 40 (0, []) = (0, [0, 89]) from rfl) <| And.intro (show d35.getD 41 (0, []) = (0, []) from rfl) <| And.intro (show d35.getD 42 (0, []) = (0, []) from rfl) <| And.intro (show d35.getD 43 (0, []) = (0, []) from rfl) <| (show d35.getD 44 (0, []) = (0, []) from rfl)
theorem i35 : finfo Tryz.prog 35 d35 = some ⟨bodyOf Tryz.f35, [.tmp 6], [24]⟩ := finfo_at Tryz.func35 rfl (by kernel_rfl) (by kernel_rfl)
def e35 : Int → AV := fun r => .v (.int .u32 r)
set_option maxHeartbeats 20000000 in
theorem w35 (cp : CallP) (fu : Nat) (x1 : Int) (x2 : Int) (x3 : Int) (H67_0 : ∀ (a0 : Int) r, ref01_IsNone fu a0 = some r → cp 67 [.v (.int .u32 a0)] = some (.v (.bool r))) (H15_0 : ∀ (a0 : Int) r, ref01_Abs fu a0 = some r → cp 15 [.v (.int .u32 a0)] = some (.v (.int .u32 r))) (H68_0 : ∀ (a0 : Int) r, ref01_Amount fu a0 = some r → cp 68 [.v (.int .u32 a0)] = some (.arr r.length (lm (ik .u32) r))) (H69_0 : ∀ (a0 : Int) r, ref01_Below fu a0 = some r → cp 69 [.v (.int .u32 a0)] = some (.v (.bool r))) (H71_0 : ∀ (a0 : List Int) (a1 : List Int) r, ref01_Plus fu a0 a1 = some r → cp 71 [.arr a0.length (lm (ik .u32) a0), .arr a1.length (lm (ik .u32) a1)] = some (.arr r.length (lm (ik .u32) r))) (H72_0 : ∀ (a0 : Int) r, ref01_Of fu a0 = some r → cp 72 [.v (.int .u64 a0)] = some (.arr r.length (lm (ik .u32) r))) (H70_0 : ∀ (a0 : Int) (a1 : Bool) (a2 : List Int) (a3 : List Int) r, ref01_Rounded fu a0 a1 a2 a3 = some r → cp 70 [.v (.int .i64 a0), .v (.bool a1), .arr a2.length (lm (ik .u32) a2), .arr a3.length (lm (ik .u32) a3)] = some (.v (.int .u32 r))) (H73_0 : ∀ (a0 : List Int) (a1 : List Int) r, ref01_Compare fu a0 a1 = some r → cp 73 [.arr a0.length (lm (ik .u32) a0), .arr a1.length (lm (ik .u32) a1)] = some (.v (.int .i64 r))) (H74_0 : ∀ (a0 : List Int) (a1 : List Int) r, ref01_Minus fu a0 a1 = some r → cp 74 [.arr a0.length (lm (ik .u32) a0), .arr a1.length (lm (ik .u32) a1)] = some (.arr r.length (lm (ik .u32) r))) : J (go Tryz.prog noC cp noI 0 [] d35 fu (fin Tryz.prog [.tmp 6] [24]) (bodyOf Tryz.f35) (initE 0 [.v (.int .i64 x1), .v (.int .u32 x2), .v (.int .u32 x3)]) [] []) (ref01_AddBy fu x1 x2 x3) e35 := by
  unfold ref01_AddBy e35
  conv => arg 1; simp (maxSteps := 1000000) (disch := first | assumption | decide | with_unfolding_all rfl | omega | (simp only [LN] <;> omega) | (simp only [RO, OF])) only [bodyOf, Tryz.f35, RR, RM, LN, TT, d35_at, ↓reduceIte, Nat.reduceEqDiff, Nat.reduceLT, Nat.reduceLeDiff, Nat.reduceAdd, Nat.reduceSub, Nat.reduceMul, Nat.reduceMod, Nat.reduceDiv, Nat.reduceBEq, RH]
  refine J.joinS (fun (t : Unit) => ([(0, .v (.int .i64 x1)), (1, .v (.int .u32 x2)), (2, .v (.int .u32 x3))], [])) (fun t => ref01_AddBy_k1 fu x1 x2 x3) ?_ (fun hj1 => ?_)
  · rintro ⟨⟩
    show J _ (ref01_AddBy_k1 fu x1 x2 x3) _
    unfold ref01_AddBy_k1
    refine J.joinS (fun (t : Unit) => ([(0, .v (.int .i64 x1)), (1, .v (.int .u32 x2)), (2, .v (.int .u32 x3))], [])) (fun t => ref01_AddBy_k2 fu x1 x2 x3) ?_ (fun hj2 => ?_)
    · rintro ⟨⟩
      show J _ (ref01_AddBy_k2 fu x1 x2 x3) _
      unfold ref01_AddBy_k2
      refine J.bind fun x4 h1 => ?_
      have e_h1 := H15_0 _ _ h1
      try simp only [NN, NT, LN] at e_h1
      refine J.bind fun x5 h2 => ?_
      have e_h2 := H68_0 _ _ h2
      try simp only [NN, NT, LN] at e_h2
      refine J.bind fun x6 h3 => ?_
      have e_h3 := H15_0 _ _ h3
      try simp only [NN, NT, LN] at e_h3
      refine J.bind fun x7 h4 => ?_
      have e_h4 := H68_0 _ _ h4
      try simp only [NN, NT, LN] at e_h4
      conv => arg 1; simp (maxSteps := 1000000) (disch := first | assumption | decide | with_unfolding_all rfl | omega | (simp only [LN] <;> omega) | (simp only [RO, OF])) only [RR, RM, LN, TT, d35_at, ↓reduceIte, Nat.reduceEqDiff, Nat.reduceLT, Nat.reduceLeDiff, Nat.reduceAdd, Nat.reduceSub, Nat.reduceMul, Nat.reduceMod, Nat.reduceDiv, Nat.reduceBEq, RH, e_h1, e_h2, e_h3, e_h4]
      refine J.eq go_seq ?_
      refine J.bind fun x8 h5 => ?_
      have e_h5 := H69_0 _ _ h5
      try simp only [NN, NT, LN] at e_h5
      refine J.bind fun x9 h6 => ?_
      have e_h6 := H69_0 _ _ h6
      try simp only [NN, NT, LN] at e_h6
      conv => arg 1; simp (maxSteps := 1000000) (disch := first | assumption | decide | with_unfolding_all rfl | omega | (simp only [LN] <;> omega) | (simp only [RO, OF])) only [RR, RM, LN, TT, d35_at, ↓reduceIte, Nat.reduceEqDiff, Nat.reduceLT, Nat.reduceLeDiff, Nat.reduceAdd, Nat.reduceSub, Nat.reduceMul, Nat.reduceMod, Nat.reduceDiv, Nat.reduceBEq, RH, e_h1, e_h2, e_h3, e_h4, e_h5, e_h6]
      refine J.ite (fun h7 => ?_) (fun h7 => ?_)
      · have h7' : (x8 == x9) = true := h7
        conv => arg 1; simp (maxSteps := 1000000) (disch := first | assumption | decide | with_unfolding_all rfl | omega | (simp only [LN] <;> omega) | (simp only [RO, OF])) only [RR, RM, LN, TT, d35_at, ↓reduceIte, Nat.reduceEqDiff, Nat.reduceLT, Nat.reduceLeDiff, Nat.reduceAdd, Nat.reduceSub, Nat.reduceMul, Nat.reduceMod, Nat.reduceDiv, Nat.reduceBEq, RH, e_h1, e_h2, e_h3, e_h4, e_h5, e_h6, h7']
        refine J.joinS (fun (t : Unit) => ([(0, .v (.int .i64 x1)), (1, .v (.int .u32 x2)), (2, .v (.int .u32 x3)), (7, .arr x5.length (lm (ik .u32) x5)), (8, .arr x7.length (lm (ik .u32) x7))], [])) (fun t => ref01_AddBy_k3 fu x1 x5 x7 x8) ?_ (fun hj3 => ?_)
        · rintro ⟨⟩
          show J _ (ref01_AddBy_k3 fu x1 x5 x7 x8) _
          unfold ref01_AddBy_k3
          refine J.bind fun x10 h8 => ?_
          have e_h8 := H71_0 _ _ _ h8
          try simp only [NN, NT, LN] at e_h8
          refine J.bind fun x11 h9 => ?_
          have e_h9 := H72_0 _ _ h9
          try simp only [NN, NT, LN] at e_h9
          refine J.bind fun x12 h10 => ?_
          have e_h10 := H70_0 _ _ _ _ _ h10
          try simp only [NN, NT, LN] at e_h10
          refine J.some ?_
          simp (maxSteps := 20000000) (disch := first | assumption | decide | with_unfolding_all rfl | omega | (simp only [LN] <;> omega) | (simp only [RO, OF])) only [RR, RM, LN, TT, d35_at, ↓reduceIte, Nat.reduceEqDiff, Nat.reduceLT, Nat.reduceLeDiff, Nat.reduceAdd, Nat.reduceSub, Nat.reduceMul, Nat.reduceMod, Nat.reduceDiv, Nat.reduceBEq, RH, e_h1, e_h2, e_h3, e_h4, e_h5, e_h6, h7', e_h8, e_h9, e_h10, FF, LN, NN, NT]
        · refine J.eq go_seq ?_
          conv => arg 1; simp (maxSteps := 1000000) (disch := first | assumption | decide | with_unfolding_all rfl | omega | (simp only [LN] <;> omega) | (simp only [RO, OF])) only [RR, RM, LN, TT, d35_at, ↓reduceIte, Nat.reduceEqDiff, Nat.reduceLT, Nat.reduceLeDiff, Nat.reduceAdd, Nat.reduceSub, Nat.reduceMul, Nat.reduceMod, Nat.reduceDiv, Nat.reduceBEq, RH, e_h1, e_h2, e_h3, e_h4, e_h5, e_h6, h7']
          refine J.ite (fun h11 => ?_) (fun h11 => ?_)
          · have h11' := decide_eq_true h11
            conv => arg 1; simp (maxSteps := 1000000) (disch := first | assumption | decide | with_unfolding_all rfl | omega | (simp only [LN] <;> omega) | (simp only [RO, OF])) only [RR, RM, LN, TT, d35_at, ↓reduceIte, Nat.reduceEqDiff, Nat.reduceLT, Nat.reduceLeDiff, Nat.reduceAdd, Nat.reduceSub, Nat.reduceMul, Nat.reduceMod, Nat.reduceDiv, Nat.reduceBEq, RH, e_h1, e_h2, e_h3, e_h4, e_h5, e_h6, h7', h11']
            refine J.eq ret_seq ?_
            conv => arg 1; simp (maxSteps := 1000000) (disch := first | assumption | decide | with_unfolding_all rfl | omega | (simp only [LN] <;> omega) | (simp only [RO, OF])) only [RR, RM, LN, TT, d35_at, ↓reduceIte, Nat.reduceEqDiff, Nat.reduceLT, Nat.reduceLeDiff, Nat.reduceAdd, Nat.reduceSub, Nat.reduceMul, Nat.reduceMod, Nat.reduceDiv, Nat.reduceBEq, RH, e_h1, e_h2, e_h3, e_h4, e_h5, e_h6, h7', h11']
            refine J.ite (fun h12 => ?_) (fun h12 => ?_)
            · have h12' := decide_eq_true h12
              refine J.some ?_
              simp (maxSteps := 20000000) (disch := first | assumption | decide | with_unfolding_all rfl | omega | (simp only [LN] <;> omega) | (simp only [RO, OF])) only [RR, RM, LN, TT, d35_at, ↓reduceIte, Nat.reduceEqDiff, Nat.reduceLT, Nat.reduceLeDiff, Nat.reduceAdd, Nat.reduceSub, Nat.reduceMul, Nat.reduceMod, Nat.reduceDiv, Nat.reduceBEq, RH, e_h1, e_h2, e_h3, e_h4, e_h5, e_h6, h7', h11', h12', FF, LN, NN, NT]
            · have h12' := decide_eq_false h12
              conv => arg 1; simp (maxSteps := 1000000) (disch := first | assumption | decide | with_unfolding_all rfl | omega | (simp only [LN] <;> omega) | (simp only [RO, OF])) only [RR, RM, LN, TT, d35_at, ↓reduceIte, Nat.reduceEqDiff, Nat.reduceLT, Nat.reduceLeDiff, Nat.reduceAdd, Nat.reduceSub, Nat.reduceMul, Nat.reduceMod, Nat.reduceDiv, Nat.reduceBEq, RH, e_h1, e_h2, e_h3, e_h4, e_h5, e_h6, h7', h11', h12']
              refine J.jmp (t := ()) hj3 ?_ ?_
              · first | rfl | (simp only [LN, NN, NT])
              · first | (simp (disch := first | assumption | decide | with_unfolding_all rfl | omega | (simp only [LN] <;> omega) | (simp only [RO, OF])) only [RR, ↓reduceIte, Nat.reduceEqDiff, Nat.reduceLT, Nat.reduceLeDiff, Nat.reduceAdd, Nat.reduceSub, Nat.reduceMul, Nat.reduceMod, Nat.reduceDiv, Nat.reduceBEq, LN, NN, NT]; done) | (simp (disch := first | assumption | decide | with_unfolding_all rfl | omega | (simp only [LN] <;> omega) | (simp only [RO, OF])) only [RR, ↓reduceIte, Nat.reduceEqDiff, Nat.reduceLT, Nat.reduceLeDiff, Nat.reduceAdd, Nat.reduceSub, Nat.reduceMul, Nat.reduceMod, Nat.reduceDiv, Nat.reduceBEq, LN, fm_app, NN, NT]; done) | rfl
          · have h11' := decide_eq_false h11
            conv => arg 1; simp (maxSteps := 1000000) (disch := first | assumption | decide | with_unfolding_all rfl | omega | (simp only [LN] <;> omega) | (simp only [RO, OF])) only [RR, RM, LN, TT, d35_at, ↓reduceIte, Nat.reduceEqDiff, Nat.reduceLT, Nat.reduceLeDiff, Nat.reduceAdd, Nat.reduceSub, Nat.reduceMul, Nat.reduceMod, Nat.reduceDiv, Nat.reduceBEq, RH, e_h1, e_h2, e_h3, e_h4, e_h5, e_h6, h7', h11']
            refine J.eq ret_seq ?_
            conv => arg 1; simp (maxSteps := 1000000) (disch := first | assumption | decide | with_unfolding_all rfl | omega | (simp only [LN] <;> omega) | (simp only [RO, OF])) only [RR, RM, LN, TT, d35_at, ↓reduceIte, Nat.reduceEqDiff, Nat.reduceLT, Nat.reduceLeDiff, Nat.reduceAdd, Nat.reduceSub, Nat.reduceMul, Nat.reduceMod, Nat.reduceDiv, Nat.reduceBEq, RH, e_h1, e_h2, e_h3, e_h4, e_h5, e_h6, h7', h11']
            refine J.jmp (t := ()) hj3 ?_ ?_
            · first | rfl | (simp only [LN, NN, NT])
            · first | (simp (disch := first | assumption | decide | with_unfolding_all rfl | omega | (simp only [LN] <;> omega) | (simp only [RO, OF])) only [RR, ↓reduceIte, Nat.reduceEqDiff, Nat.reduceLT, Nat.reduceLeDiff, Nat.reduceAdd, Nat.reduceSub, Nat.reduceMul, Nat.reduceMod, Nat.reduceDiv, Nat.reduceBEq, LN, NN, NT]; done) | (simp (disch := first | assumption | decide | with_unfolding_all rfl | omega | (simp only [LN] <;> omega) | (simp only [RO, OF])) only [RR, ↓reduceIte, Nat.reduceEqDiff, Nat.reduceLT, Nat.reduceLeDiff, Nat.reduceAdd, Nat.reduceSub, Nat.reduceMul, Nat.reduceMod, Nat.reduceDiv, Nat.reduceBEq, LN, fm_app, NN, NT]; done) | rfl
      · have h7' : (x8 == x9) = false := Bool.eq_false_iff.2 h7
        conv => arg 1; simp (maxSteps := 1000000) (disch := first | assumption | decide | with_unfolding_all rfl | omega | (simp only [LN] <;> omega) | (simp only [RO, OF])) only [RR, RM, LN, TT, d35_at, ↓reduceIte, Nat.reduceEqDiff, Nat.reduceLT, Nat.reduceLeDiff, Nat.reduceAdd, Nat.reduceSub, Nat.reduceMul, Nat.reduceMod, Nat.reduceDiv, Nat.reduceBEq, RH, e_h1, e_h2, e_h3, e_h4, e_h5, e_h6, h7']
        refine J.eq ret_seq ?_
        refine J.eq go_seq ?_
        refine J.bind fun x13 h13 => ?_
        have e_h13 := H73_0 _ _ _ h13
        try simp only [NN, NT, LN] at e_h13
        conv => arg 1; simp (maxSteps := 1000000) (disch := first | assumption | decide | with_unfolding_all rfl | omega | (simp only [LN] <;> omega) | (simp only [RO, OF])) only [RR, RM, LN, TT, d35_at, ↓reduceIte, Nat.reduceEqDiff, Nat.reduceLT, Nat.reduceLeDiff, Nat.reduceAdd, Nat.reduceSub, Nat.reduceMul, Nat.reduceMod, Nat.reduceDiv, Nat.reduceBEq, RH, e_h1, e_h2, e_h3, e_h4, e_h5, e_h6, h7', e_h13]
        refine J.ite (fun h14 => ?_) (fun h14 => ?_)
        · have h14' := decide_eq_true h14
          refine J.bind fun x14 h15 => ?_
          have e_h15 := H74_0 _ _ _ h15
          try simp only [NN, NT, LN] at e_h15
          refine J.bind fun x15 h16 => ?_
          have e_h16 := H72_0 _ _ h16
          try simp only [NN, NT, LN] at e_h16
          refine J.bind fun x16 h17 => ?_
          have e_h17 := H70_0 _ _ _ _ _ h17
          try simp only [NN, NT, LN] at e_h17
          refine J.some ?_
          simp (maxSteps := 20000000) (disch := first | assumption | decide | with_unfolding_all rfl | omega | (simp only [LN] <;> omega) | (simp only [RO, OF])) only [RR, RM, LN, TT, d35_at, ↓reduceIte, Nat.reduceEqDiff, Nat.reduceLT, Nat.reduceLeDiff, Nat.reduceAdd, Nat.reduceSub, Nat.reduceMul, Nat.reduceMod, Nat.reduceDiv, Nat.reduceBEq, RH, e_h1, e_h2, e_h3, e_h4, e_h5, e_h6, h7', e_h13, h14', e_h15, e_h16, e_h17, FF, LN, NN, NT]
        · have h14' := decide_eq_false h14
          conv => arg 1; simp (maxSteps := 1000000) (disch := first | assumption | decide | with_unfolding_all rfl | omega | (simp only [LN] <;> omega) | (simp only [RO, OF])) only [RR, RM, LN, TT, d35_at, ↓reduceIte, Nat.reduceEqDiff, Nat.reduceLT, Nat.reduceLeDiff, Nat.reduceAdd, Nat.reduceSub, Nat.reduceMul, Nat.reduceMod, Nat.reduceDiv, Nat.reduceBEq, RH, e_h1, e_h2, e_h3, e_h4, e_h5, e_h6, h7', e_h13, h14']
          refine J.ite (fun h18 => ?_) (fun h18 => ?_)
          · have h18' := decide_eq_true h18
            refine J.bind fun x17 h19 => ?_
            have e_h19 := H74_0 _ _ _ h19
            try simp only [NN, NT, LN] at e_h19
            refine J.bind fun x18 h20 => ?_
            have e_h20 := H72_0 _ _ h20
            try simp only [NN, NT, LN] at e_h20
            refine J.bind fun x19 h21 => ?_
            have e_h21 := H70_0 _ _ _ _ _ h21
            try simp only [NN, NT, LN] at e_h21
            refine J.some ?_
            simp (maxSteps := 20000000) (disch := first | assumption | decide | with_unfolding_all rfl | omega | (simp only [LN] <;> omega) | (simp only [RO, OF])) only [RR, RM, LN, TT, d35_at, ↓reduceIte, Nat.reduceEqDiff, Nat.reduceLT, Nat.reduceLeDiff, Nat.reduceAdd, Nat.reduceSub, Nat.reduceMul, Nat.reduceMod, Nat.reduceDiv, Nat.reduceBEq, RH, e_h1, e_h2, e_h3, e_h4, e_h5, e_h6, h7', e_h13, h14', h18', e_h19, e_h20, e_h21, FF, LN, NN, NT]
          · have h18' := decide_eq_false h18
            conv => arg 1; simp (maxSteps := 1000000) (disch := first | assumption | decide | with_unfolding_all rfl | omega | (simp only [LN] <;> omega) | (simp only [RO, OF])) only [RR, RM, LN, TT, d35_at, ↓reduceIte, Nat.reduceEqDiff, Nat.reduceLT, Nat.reduceLeDiff, Nat.reduceAdd, Nat.reduceSub, Nat.reduceMul, Nat.reduceMod, Nat.reduceDiv, Nat.reduceBEq, RH, e_h1, e_h2, e_h3, e_h4, e_h5, e_h6, h7', e_h13, h14', h18']
            refine J.eq ret_seq ?_
            refine J.eq go_seq ?_
            conv => arg 1; simp (maxSteps := 1000000) (disch := first | assumption | decide | with_unfolding_all rfl | omega | (simp only [LN] <;> omega) | (simp only [RO, OF])) only [RR, RM, LN, TT, d35_at, ↓reduceIte, Nat.reduceEqDiff, Nat.reduceLT, Nat.reduceLeDiff, Nat.reduceAdd, Nat.reduceSub, Nat.reduceMul, Nat.reduceMod, Nat.reduceDiv, Nat.reduceBEq, RH, e_h1, e_h2, e_h3, e_h4, e_h5, e_h6, h7', e_h13, h14', h18']
            refine J.ite (fun h22 => ?_) (fun h22 => ?_)
            · have h22' := decide_eq_true h22
              refine J.some ?_
              simp (maxSteps := 20000000) (disch := first | assumption | decide | with_unfolding_all rfl | omega | (simp only [LN] <;> omega) | (simp only [RO, OF])) only [RR, RM, LN, TT, d35_at, ↓reduceIte, Nat.reduceEqDiff, Nat.reduceLT, Nat.reduceLeDiff, Nat.reduceAdd, Nat.reduceSub, Nat.reduceMul, Nat.reduceMod, Nat.reduceDiv, Nat.reduceBEq, RH, e_h1, e_h2, e_h3, e_h4, e_h5, e_h6, h7', e_h13, h14', h18', h22', FF, LN, NN, NT]
            · have h22' := decide_eq_false h22
              conv => arg 1; simp (maxSteps := 1000000) (disch := first | assumption | decide | with_unfolding_all rfl | omega | (simp only [LN] <;> omega) | (simp only [RO, OF])) only [RR, RM, LN, TT, d35_at, ↓reduceIte, Nat.reduceEqDiff, Nat.reduceLT, Nat.reduceLeDiff, Nat.reduceAdd, Nat.reduceSub, Nat.reduceMul, Nat.reduceMod, Nat.reduceDiv, Nat.reduceBEq, RH, e_h1, e_h2, e_h3, e_h4, e_h5, e_h6, h7', e_h13, h14', h18', h22']
              refine J.eq ret_seq ?_
              refine J.some ?_
              simp (maxSteps := 20000000) (disch := first | assumption | decide | with_unfolding_all rfl | omega | (simp only [LN] <;> omega) | (simp only [RO, OF])) only [RR, RM, LN, TT, d35_at, ↓reduceIte, Nat.reduceEqDiff, Nat.reduceLT, Nat.reduceLeDiff, Nat.reduceAdd, Nat.reduceSub, Nat.reduceMul, Nat.reduceMod, Nat.reduceDiv, Nat.reduceBEq, RH, e_h1, e_h2, e_h3, e_h4, e_h5, e_h6, h7', e_h13, h14', h18', h22', FF, LN, NN, NT]
    · refine J.eq go_seq ?_
      refine J.bind fun x20 h23 => ?_
      have e_h23 := H15_0 _ _ h23
      try simp only [NN, NT, LN] at e_h23
      conv => arg 1; simp (maxSteps := 1000000) (disch := first | assumption | decide | with_unfolding_all rfl | omega | (simp only [LN] <;> omega) | (simp only [RO, OF])) only [RR, RM, LN, TT, d35_at, ↓reduceIte, Nat.reduceEqDiff, Nat.reduceLT, Nat.reduceLeDiff, Nat.reduceAdd, Nat.reduceSub, Nat.reduceMul, Nat.reduceMod, Nat.reduceDiv, Nat.reduceBEq, RH, e_h23]
      refine J.ite (fun h24 => ?_) (fun h24 => ?_)
      · have h24' := decide_eq_true h24
        conv => arg 1; simp (maxSteps := 1000000) (disch := first | assumption | decide | with_unfolding_all rfl | omega | (simp only [LN] <;> omega) | (simp only [RO, OF])) only [RR, RM, LN, TT, d35_at, ↓reduceIte, Nat.reduceEqDiff, Nat.reduceLT, Nat.reduceLeDiff, Nat.reduceAdd, Nat.reduceSub, Nat.reduceMul, Nat.reduceMod, Nat.reduceDiv, Nat.reduceBEq, RH, e_h23, h24']
        refine J.eq ret_seq ?_
        conv => arg 1; simp (maxSteps := 1000000) (disch := first | assumption | decide | with_unfolding_all rfl | omega | (simp only [LN] <;> omega) | (simp only [RO, OF])) only [RR, RM, LN, TT, d35_at, ↓reduceIte, Nat.reduceEqDiff, Nat.reduceLT, Nat.reduceLeDiff, Nat.reduceAdd, Nat.reduceSub, Nat.reduceMul, Nat.reduceMod, Nat.reduceDiv, Nat.reduceBEq, RH, e_h23, h24']
        refine J.joinS (fun (t : Unit) => ([(0, .v (.int .i64 x1)), (1, .v (.int .u32 x2)), (2, .v (.int .u32 x3))], [])) (fun t => ref01_AddBy_k4 fu x2) ?_ (fun hj4 => ?_)
        · rintro ⟨⟩
          show J _ (ref01_AddBy_k4 fu x2) _
          unfold ref01_AddBy_k4
          refine J.eq go_seq ?_
          refine J.some ?_
          simp (maxSteps := 20000000) (disch := first | assumption | decide | with_unfolding_all rfl | omega | (simp only [LN] <;> omega) | (simp only [RO, OF])) only [RR, RM, LN, TT, d35_at, ↓reduceIte, Nat.reduceEqDiff, Nat.reduceLT, Nat.reduceLeDiff, Nat.reduceAdd, Nat.reduceSub, Nat.reduceMul, Nat.reduceMod, Nat.reduceDiv, Nat.reduceBEq, RH, e_h23, h24', FF, LN, NN, NT]
        · refine J.eq go_seq ?_
          refine J.bind fun x21 h25 => ?_
          have e_h25 := H15_0 _ _ h25
          try simp only [NN, NT, LN] at e_h25
          conv => arg 1; simp (maxSteps := 1000000) (disch := first | assumption | decide | with_unfolding_all rfl | omega | (simp only [LN] <;> omega) | (simp only [RO, OF])) only [RR, RM, LN, TT, d35_at, ↓reduceIte, Nat.reduceEqDiff, Nat.reduceLT, Nat.reduceLeDiff, Nat.reduceAdd, Nat.reduceSub, Nat.reduceMul, Nat.reduceMod, Nat.reduceDiv, Nat.reduceBEq, RH, e_h23, h24', e_h25]
          refine J.ite (fun h26 => ?_) (fun h26 => ?_)
          · have h26' := decide_eq_true h26
            conv => arg 1; simp (maxSteps := 1000000) (disch := first | assumption | decide | with_unfolding_all rfl | omega | (simp only [LN] <;> omega) | (simp only [RO, OF])) only [RR, RM, LN, TT, d35_at, ↓reduceIte, Nat.reduceEqDiff, Nat.reduceLT, Nat.reduceLeDiff, Nat.reduceAdd, Nat.reduceSub, Nat.reduceMul, Nat.reduceMod, Nat.reduceDiv, Nat.reduceBEq, RH, e_h23, h24', e_h25, h26']
            refine J.eq ret_seq ?_
            conv => arg 1; simp (maxSteps := 1000000) (disch := first | assumption | decide | with_unfolding_all rfl | omega | (simp only [LN] <;> omega) | (simp only [RO, OF])) only [RR, RM, LN, TT, d35_at, ↓reduceIte, Nat.reduceEqDiff, Nat.reduceLT, Nat.reduceLeDiff, Nat.reduceAdd, Nat.reduceSub, Nat.reduceMul, Nat.reduceMod, Nat.reduceDiv, Nat.reduceBEq, RH, e_h23, h24', e_h25, h26']
            refine J.ite (fun h27 => ?_) (fun h27 => ?_)
            · have h27' := decide_eq_true h27
              conv => arg 1; simp (maxSteps := 1000000) (disch := first | assumption | decide | with_unfolding_all rfl | omega | (simp only [LN] <;> omega) | (simp only [RO, OF])) only [RR, RM, LN, TT, d35_at, ↓reduceIte, Nat.reduceEqDiff, Nat.reduceLT, Nat.reduceLeDiff, Nat.reduceAdd, Nat.reduceSub, Nat.reduceMul, Nat.reduceMod, Nat.reduceDiv, Nat.reduceBEq, RH, e_h23, h24', e_h25, h26', h27']
              refine J.jmp (t := ()) hj4 ?_ ?_
              · first | rfl | (simp only [LN, NN, NT])
              · first | (simp (disch := first | assumption | decide | with_unfolding_all rfl | omega | (simp only [LN] <;> omega) | (simp only [RO, OF])) only [RR, ↓reduceIte, Nat.reduceEqDiff, Nat.reduceLT, Nat.reduceLeDiff, Nat.reduceAdd, Nat.reduceSub, Nat.reduceMul, Nat.reduceMod, Nat.reduceDiv, Nat.reduceBEq, LN, NN, NT]; done) | (simp (disch := first | assumption | decide | with_unfolding_all rfl | omega | (simp only [LN] <;> omega) | (simp only [RO, OF])) only [RR, ↓reduceIte, Nat.reduceEqDiff, Nat.reduceLT, Nat.reduceLeDiff, Nat.reduceAdd, Nat.reduceSub, Nat.reduceMul, Nat.reduceMod, Nat.reduceDiv, Nat.reduceBEq, LN, fm_app, NN, NT]; done) | rfl
            · have h27' := decide_eq_false h27
              refine J.some ?_
              simp (maxSteps := 20000000) (disch := first | assumption | decide | with_unfolding_all rfl | omega | (simp only [LN] <;> omega) | (simp only [RO, OF])) only [RR, RM, LN, TT, d35_at, ↓reduceIte, Nat.reduceEqDiff, Nat.reduceLT, Nat.reduceLeDiff, Nat.reduceAdd, Nat.reduceSub, Nat.reduceMul, Nat.reduceMod, Nat.reduceDiv, Nat.reduceBEq, RH, e_h23, h24', e_h25, h26', h27', FF, LN, NN, NT]
          · have h26' := decide_eq_false h26
            conv => arg 1; simp (maxSteps := 1000000) (disch := first | assumption | decide | with_unfolding_all rfl | omega | (simp only [LN] <;> omega) | (simp only [RO, OF])) only [RR, RM, LN, TT, d35_at, ↓reduceIte, Nat.reduceEqDiff, Nat.reduceLT, Nat.reduceLeDiff, Nat.reduceAdd, Nat.reduceSub, Nat.reduceMul, Nat.reduceMod, Nat.reduceDiv, Nat.reduceBEq, RH, e_h23, h24', e_h25, h26']
            refine J.eq ret_seq ?_
            conv => arg 1; simp (maxSteps := 1000000) (disch := first | assumption | decide | with_unfolding_all rfl | omega | (simp only [LN] <;> omega) | (simp only [RO, OF])) only [RR, RM, LN, TT, d35_at, ↓reduceIte, Nat.reduceEqDiff, Nat.reduceLT, Nat.reduceLeDiff, Nat.reduceAdd, Nat.reduceSub, Nat.reduceMul, Nat.reduceMod, Nat.reduceDiv, Nat.reduceBEq, RH, e_h23, h24', e_h25, h26']
            refine J.jmp (t := ()) hj4 ?_ ?_
            · first | rfl | (simp only [LN, NN, NT])
            · first | (simp (disch := first | assumption | decide | with_unfolding_all rfl | omega | (simp only [LN] <;> omega) | (simp only [RO, OF])) only [RR, ↓reduceIte, Nat.reduceEqDiff, Nat.reduceLT, Nat.reduceLeDiff, Nat.reduceAdd, Nat.reduceSub, Nat.reduceMul, Nat.reduceMod, Nat.reduceDiv, Nat.reduceBEq, LN, NN, NT]; done) | (simp (disch := first | assumption | decide | with_unfolding_all rfl | omega | (simp only [LN] <;> omega) | (simp only [RO, OF])) only [RR, ↓reduceIte, Nat.reduceEqDiff, Nat.reduceLT, Nat.reduceLeDiff, Nat.reduceAdd, Nat.reduceSub, Nat.reduceMul, Nat.reduceMod, Nat.reduceDiv, Nat.reduceBEq, LN, fm_app, NN, NT]; done) | rfl
      · have h24' := decide_eq_false h24
        refine J.bind fun x22 h28 => ?_
        have e_h28 := H15_0 _ _ h28
        try simp only [NN, NT, LN] at e_h28
        conv => arg 1; simp (maxSteps := 1000000) (disch := first | assumption | decide | with_unfolding_all rfl | omega | (simp only [LN] <;> omega) | (simp only [RO, OF])) only [RR, RM, LN, TT, d35_at, ↓reduceIte, Nat.reduceEqDiff, Nat.reduceLT, Nat.reduceLeDiff, Nat.reduceAdd, Nat.reduceSub, Nat.reduceMul, Nat.reduceMod, Nat.reduceDiv, Nat.reduceBEq, RH, e_h23, h24', e_h28]
        refine J.eq ret_seq ?_
        conv => arg 1; simp (maxSteps := 1000000) (disch := first | assumption | decide | with_unfolding_all rfl | omega | (simp only [LN] <;> omega) | (simp only [RO, OF])) only [RR, RM, LN, TT, d35_at, ↓reduceIte, Nat.reduceEqDiff, Nat.reduceLT, Nat.reduceLeDiff, Nat.reduceAdd, Nat.reduceSub, Nat.reduceMul, Nat.reduceMod, Nat.reduceDiv, Nat.reduceBEq, RH, e_h23, h24', e_h28]
        refine J.ite (fun h29 => ?_) (fun h29 => ?_)
        · have h29' := decide_eq_true h29
          conv => arg 1; simp (maxSteps := 1000000) (disch := first | assumption | decide | with_unfolding_all rfl | omega | (simp only [LN] <;> omega) | (simp only [RO, OF])) only [RR, RM, LN, TT, d35_at, ↓reduceIte, Nat.reduceEqDiff, Nat.reduceLT, Nat.reduceLeDiff, Nat.reduceAdd, Nat.reduceSub, Nat.reduceMul, Nat.reduceMod, Nat.reduceDiv, Nat.reduceBEq, RH, e_h23, h24', e_h28, h29']
          refine J.joinS (fun (t : Unit) => ([(0, .v (.int .i64 x1)), (1, .v (.int .u32 x2)), (2, .v (.int .u32 x3))], [])) (fun t => ref01_AddBy_k5 fu x3) ?_ (fun hj5 => ?_)
          · rintro ⟨⟩
            show J _ (ref01_AddBy_k5 fu x3) _
            unfold ref01_AddBy_k5
            refine J.eq go_seq ?_
            conv => arg 1; simp (maxSteps := 1000000) (disch := first | assumption | decide | with_unfolding_all rfl | omega | (simp only [LN] <;> omega) | (simp only [RO, OF])) only [RR, RM, LN, TT, d35_at, ↓reduceIte, Nat.reduceEqDiff, Nat.reduceLT, Nat.reduceLeDiff, Nat.reduceAdd, Nat.reduceSub, Nat.reduceMul, Nat.reduceMod, Nat.reduceDiv, Nat.reduceBEq, RH, e_h23, h24', e_h28, h29']
            refine J.eq ret_seq ?_
            refine J.some ?_
            simp (maxSteps := 20000000) (disch := first | assumption | decide | with_unfolding_all rfl | omega | (simp only [LN] <;> omega) | (simp only [RO, OF])) only [RR, RM, LN, TT, d35_at, ↓reduceIte, Nat.reduceEqDiff, Nat.reduceLT, Nat.reduceLeDiff, Nat.reduceAdd, Nat.reduceSub, Nat.reduceMul, Nat.reduceMod, Nat.reduceDiv, Nat.reduceBEq, RH, e_h23, h24', e_h28, h29', FF, LN, NN, NT]
          · refine J.eq go_seq ?_
            conv => arg 1; simp (maxSteps := 1000000) (disch := first | assumption | decide | with_unfolding_all rfl | omega | (simp only [LN] <;> omega) | (simp only [RO, OF])) only [RR, RM, LN, TT, d35_at, ↓reduceIte, Nat.reduceEqDiff, Nat.reduceLT, Nat.reduceLeDiff, Nat.reduceAdd, Nat.reduceSub, Nat.reduceMul, Nat.reduceMod, Nat.reduceDiv, Nat.reduceBEq, RH, e_h23, h24', e_h28, h29']
            refine J.ite (fun h30 => ?_) (fun h30 => ?_)
            · exact J.none
            · have h30' := decide_eq_false h30
              conv => arg 1; simp (maxSteps := 1000000) (disch := first | assumption | decide | with_unfolding_all rfl | omega | (simp only [LN] <;> omega) | (simp only [RO, OF])) only [RR, RM, LN, TT, d35_at, ↓reduceIte, Nat.reduceEqDiff, Nat.reduceLT, Nat.reduceLeDiff, Nat.reduceAdd, Nat.reduceSub, Nat.reduceMul, Nat.reduceMod, Nat.reduceDiv, Nat.reduceBEq, RH, e_h23, h24', e_h28, h29', h30']
              refine J.eq ret_seq ?_
              conv => arg 1; simp (maxSteps := 1000000) (disch := first | assumption | decide | with_unfolding_all rfl | omega | (simp only [LN] <;> omega) | (simp only [RO, OF])) only [RR, RM, LN, TT, d35_at, ↓reduceIte, Nat.reduceEqDiff, Nat.reduceLT, Nat.reduceLeDiff, Nat.reduceAdd, Nat.reduceSub, Nat.reduceMul, Nat.reduceMod, Nat.reduceDiv, Nat.reduceBEq, RH, e_h23, h24', e_h28, h29', h30']
              refine J.jmp (t := ()) hj5 ?_ ?_
              · first | rfl | (simp only [LN, NN, NT])
              · first | (simp (disch := first | assumption | decide | with_unfolding_all rfl | omega | (simp only [LN] <;> omega) | (simp only [RO, OF])) only [RR, ↓reduceIte, Nat.reduceEqDiff, Nat.reduceLT, Nat.reduceLeDiff, Nat.reduceAdd, Nat.reduceSub, Nat.reduceMul, Nat.reduceMod, Nat.reduceDiv, Nat.reduceBEq, LN, NN, NT]; done) | (simp (disch := first | assumption | decide | with_unfolding_all rfl | omega | (simp only [LN] <;> omega) | (simp only [RO, OF])) only [RR, ↓reduceIte, Nat.reduceEqDiff, Nat.reduceLT, Nat.reduceLeDiff, Nat.reduceAdd, Nat.reduceSub, Nat.reduceMul, Nat.reduceMod, Nat.reduceDiv, Nat.reduceBEq, LN, fm_app, NN, NT]; done) | rfl
        · have h29' := decide_eq_false h29
          conv => arg 1; simp (maxSteps := 1000000) (disch := first | assumption | decide | with_unfolding_all rfl | omega | (simp only [LN] <;> omega) | (simp only [RO, OF])) only [RR, RM, LN, TT, d35_at, ↓reduceIte, Nat.reduceEqDiff, Nat.reduceLT, Nat.reduceLeDiff, Nat.reduceAdd, Nat.reduceSub, Nat.reduceMul, Nat.reduceMod, Nat.reduceDiv, Nat.reduceBEq, RH, e_h23, h24', e_h28, h29']
          refine J.jmp (t := ()) hj2 ?_ ?_
          · first | rfl | (simp only [LN, NN, NT])
          · first | (simp (disch := first | assumption | decide | with_unfolding_all rfl | omega | (simp only [LN] <;> omega) | (simp only [RO, OF])) only [RR, ↓reduceIte, Nat.reduceEqDiff, Nat.reduceLT, Nat.reduceLeDiff, Nat.reduceAdd, Nat.reduceSub, Nat.reduceMul, Nat.reduceMod, Nat.reduceDiv, Nat.reduceBEq, LN, NN, NT]; done) | (simp (disch := first | assumption | decide | with_unfolding_all rfl | omega | (simp only [LN] <;> omega) | (simp only [RO, OF])) only [RR, ↓reduceIte, Nat.reduceEqDiff, Nat.reduceLT, Nat.reduceLeDiff, Nat.reduceAdd, Nat.reduceSub, Nat.reduceMul, Nat.reduceMod, Nat.reduceDiv, Nat.reduceBEq, LN, fm_app, NN, NT]; done) | rfl
  · refine J.eq go_seq ?_
    refine J.bind fun x23 h31 => ?_
    have e_h31 := H67_0 _ _ h31
    try simp only [NN, NT, LN] at e_h31
    conv => arg 1; simp (maxSteps := 1000000) (disch := first | assumption | decide | with_unfolding_all rfl | omega | (simp only [LN] <;> omega) | (simp only [RO, OF])) only [RR, RM, LN, TT, d35_at, ↓reduceIte, Nat.reduceEqDiff, Nat.reduceLT, Nat.reduceLeDiff, Nat.reduceAdd, Nat.reduceSub, Nat.reduceMul, Nat.reduceMod, Nat.reduceDiv, Nat.reduceBEq, RH, e_h31]
    refine J.ite (fun h32 => ?_) (fun h32 => ?_)
    · have h32' : x23 = true := h32
      conv => arg 1; simp (maxSteps := 1000000) (disch := first | assumption | decide | with_unfolding_all rfl | omega | (simp only [LN] <;> omega) | (simp only [RO, OF])) only [RR, RM, LN, TT, d35_at, ↓reduceIte, Nat.reduceEqDiff, Nat.reduceLT, Nat.reduceLeDiff, Nat.reduceAdd, Nat.reduceSub, Nat.reduceMul, Nat.reduceMod, Nat.reduceDiv, Nat.reduceBEq, RH, e_h31, h32']
      refine J.eq ret_seq ?_
      refine J.some ?_
      simp (maxSteps := 20000000) (disch := first | assumption | decide | with_unfolding_all rfl | omega | (simp only [LN] <;> omega) | (simp only [RO, OF])) only [RR, RM, LN, TT, d35_at, ↓reduceIte, Nat.reduceEqDiff, Nat.reduceLT, Nat.reduceLeDiff, Nat.reduceAdd, Nat.reduceSub, Nat.reduceMul, Nat.reduceMod, Nat.reduceDiv, Nat.reduceBEq, RH, e_h31, h32', FF, LN, NN, NT]
    · have h32' : x23 = false := Bool.eq_false_iff.2 h32
      refine J.bind fun x24 h33 => ?_
      have e_h33 := H67_0 _ _ h33
      try simp only [NN, NT, LN] at e_h33
      conv => arg 1; simp (maxSteps := 1000000) (disch := first | assumption | decide | with_unfolding_all rfl | omega | (simp only [LN] <;> omega) | (simp only [RO, OF])) only [RR, RM, LN, TT, d35_at, ↓reduceIte, Nat.reduceEqDiff, Nat.reduceLT, Nat.reduceLeDiff, Nat.reduceAdd, Nat.reduceSub, Nat.reduceMul, Nat.reduceMod, Nat.reduceDiv, Nat.reduceBEq, RH, e_h31, h32', e_h33]
      refine J.eq ret_seq ?_
      conv => arg 1; simp (maxSteps := 1000000) (disch := first | assumption | decide | with_unfolding_all rfl | omega | (simp only [LN] <;> omega) | (simp only [RO, OF])) only [RR, RM, LN, TT, d35_at, ↓reduceIte, Nat.reduceEqDiff, Nat.reduceLT, Nat.reduceLeDiff, Nat.reduceAdd, Nat.reduceSub, Nat.reduceMul, Nat.reduceMod, Nat.reduceDiv, Nat.reduceBEq, RH, e_h31, h32', e_h33]
      refine J.ite (fun h34 => ?_) (fun h34 => ?_)
      · have h34' : x24 = true := h34
        refine J.some ?_
        simp (maxSteps := 20000000) (disch := first | assumption | decide | with_unfolding_all rfl | omega | (simp only [LN] <;> omega) | (simp only [RO, OF])) only [RR, RM, LN, TT, d35_at, ↓reduceIte, Nat.reduceEqDiff, Nat.reduceLT, Nat.reduceLeDiff, Nat.reduceAdd, Nat.reduceSub, Nat.reduceMul, Nat.reduceMod, Nat.reduceDiv, Nat.reduceBEq, RH, e_h31, h32', e_h33, h34', FF, LN, NN, NT]
      · have h34' : x24 = false := Bool.eq_false_iff.2 h34
        conv => arg 1; simp (maxSteps := 1000000) (disch := first | assumption | decide | with_unfolding_all rfl | omega | (simp only [LN] <;> omega) | (simp only [RO, OF])) only [RR, RM, LN, TT, d35_at, ↓reduceIte, Nat.reduceEqDiff, Nat.reduceLT, Nat.reduceLeDiff, Nat.reduceAdd, Nat.reduceSub, Nat.reduceMul, Nat.reduceMod, Nat.reduceDiv, Nat.reduceBEq, RH, e_h31, h32', e_h33, h34']
        refine J.jmp (t := ()) hj1 ?_ ?_
        · first | rfl | (simp only [LN, NN, NT])
        · first | (simp (disch := first | assumption | decide | with_unfolding_all rfl | omega | (simp only [LN] <;> omega) | (simp only [RO, OF])) only [RR, ↓reduceIte, Nat.reduceEqDiff, Nat.reduceLT, Nat.reduceLeDiff, Nat.reduceAdd, Nat.reduceSub, Nat.reduceMul, Nat.reduceMod, Nat.reduceDiv, Nat.reduceBEq, LN, NN, NT]; done) | (simp (disch := first | assumption | decide | with_unfolding_all rfl | omega | (simp only [LN] <;> omega) | (simp only [RO, OF])) only [RR, ↓reduceIte, Nat.reduceEqDiff, Nat.reduceLT, Nat.reduceLeDiff, Nat.reduceAdd, Nat.reduceSub, Nat.reduceMul, Nat.reduceMod, Nat.reduceDiv, Nat.reduceBEq, LN, fm_app, NN, NT]; done) | rfl
noncomputable def t35 (fu : Nat) : CallP := orE 67 (mkC (fun (t : Int) => ([.v (.int .u32 t)] : List AV)) (fun t => ref01_IsNone fu t) e67) (orE 15 (mkC (fun (t : Int) => ([.v (.int .u32 t)] : List AV)) (fun t => ref01_Abs fu t) e15) (orE 68 (mkC (fun (t : Int) => ([.v (.int .u32 t)] : List AV)) (fun t => ref01_Amount fu t) e68) (orE 69 (mkC (fun (t : Int) => ([.v (.int .u32 t)] : List AV)) (fun t => ref01_Below fu t) e69) (orE 71 (mkC (fun (t : (List Int) × (List Int)) => ([.arr t.1.length (lm (ik .u32) t.1), .arr t.2.length (lm (ik .u32) t.2)] : List AV)) (fun t => ref01_Plus fu t.1 t.2) e71) (orE 72 (mkC (fun (t : Int) => ([.v (.int .u64 t)] : List AV)) (fun t => ref01_Of fu t) e72) (orE 70 (mkC (fun (t : Int × Bool × (List Int) × (List Int)) => ([.v (.int .i64 t.1), .v (.bool t.2.1), .arr t.2.2.1.length (lm (ik .u32) t.2.2.1), .arr t.2.2.2.length (lm (ik .u32) t.2.2.2)] : List AV)) (fun t => ref01_Rounded fu t.1 t.2.1 t.2.2.1 t.2.2.2) e70) (orE 73 (mkC (fun (t : (List Int) × (List Int)) => ([.arr t.1.length (lm (ik .u32) t.1), .arr t.2.length (lm (ik .u32) t.2)] : List AV)) (fun t => ref01_Compare fu t.1 t.2) e73) (orE 74 (mkC (fun (t : (List Int) × (List Int)) => ([.arr t.1.length (lm (ik .u32) t.1), .arr t.2.length (lm (ik .u32) t.2)] : List AV)) (fun t => ref01_Minus fu t.1 t.2) e74) (noP)))))))))
theorem t35_ok (fu : Nat) : CpOK Tryz.prog (t35 fu ) := orE_ok (orE_ok (orE_ok (orE_ok (orE_ok (orE_ok (orE_ok (orE_ok (orE_ok (noP_ok) (mkC_ok (fun t b h => ok74 fu t.1 t.2  b h))) (mkC_ok (fun t b h => ok73 fu t.1 t.2  b h))) (mkC_ok (fun t b h => ok70 fu t.1 t.2.1 t.2.2.1 t.2.2.2  b h))) (mkC_ok (fun t b h => ok72 fu t  b h))) (mkC_ok (fun t b h => ok71 fu t.1 t.2  b h))) (mkC_ok (fun t b h => ok69 fu t  b h))) (mkC_ok (fun t b h => ok68 fu t  b h))) (mkC_ok (fun t b h => ok15 fu t  b h))) (mkC_ok (fun t b h => ok67 fu t  b h))
theorem ok35 (fu : Nat) (x1 : Int) (x2 : Int) (x3 : Int) (r) (h : ref01_AddBy fu x1 x2 x3 = some r) : PureOK Tryz.prog 35 [.v (.int .i64 x1), .v (.int .u32 x2), .v (.int .u32 x3)] (e35 r) :=
  pure_J mixed (cp := t35 fu ) (t35_ok fu  ) noI_ok i35 (w35 _ fu x1 x2 x3  (fun a0 r h => orE_hit (mkC_at (a := a0) (by intro a b h; first | (exact rfl) | (simp only [INJ, IJ] at h; first | exact h | (simp_all [Prod.ext_iff]) )) h)) (fun a0 r h => orE_miss (by decide) (orE_hit (mkC_at (a := a0) (by intro a b h; first | (exact rfl) | (simp only [INJ, IJ] at h; first | exact h | (simp_all [Prod.ext_iff]) )) h))) (fun a0 r h => orE_miss (by decide) (orE_miss (by decide) (orE_hit (mkC_at (a := a0) (by intro a b h; first | (exact rfl) | (simp only [INJ, IJ] at h; first | exact h | (simp_all [Prod.ext_iff]) )) h)))) (fun a0 r h => orE_miss (by decide) (orE_miss (by decide) (orE_miss (by decide) (orE_hit (mkC_at (a := a0) (by intro a b h; first | (exact rfl) | (simp only [INJ, IJ] at h; first | exact h | (simp_all [Prod.ext_iff]) )) h))))) (fun a0 a1 r h => orE_miss (by decide) (orE_miss (by decide) (orE_miss (by decide) (orE_miss (by decide) (orE_hit (mkC_at (a := (a0, a1)) (by intro a b h; first | (exact rfl) | (simp only [INJ, IJ] at h; first | exact h | (simp_all [Prod.ext_iff]) )) h)))))) (fun a0 r h => orE_miss (by decide) (orE_miss (by decide) (orE_miss (by decide) (orE_miss (by decide) (orE_miss (by decide) (orE_hit (mkC_at (a := a0) (by intro a b h; first | (exact rfl) | (simp only [INJ, IJ] at h; first | exact h | (simp_all [Prod.ext_iff]) )) h))))))) (fun a0 a1 a2 a3 r h => orE_miss (by decide) (orE_miss (by decide) (orE_miss (by decide) (orE_miss (by decide) (orE_miss (by decide) (orE_miss (by decide) (orE_hit (mkC_at (a := (a0, a1, a2, a3)) (by intro a b h; first | (exact rfl) | (simp only [INJ, IJ] at h; first | exact h | (simp_all [Prod.ext_iff]) )) h)))))))) (fun a0 a1 r h => orE_miss (by decide) (orE_miss (by decide) (orE_miss (by decide) (orE_miss (by decide) (orE_miss (by decide) (orE_miss (by decide) (orE_miss (by decide) (orE_hit (mkC_at (a := (a0, a1)) (by intro a b h; first | (exact rfl) | (simp only [INJ, IJ] at h; first | exact h | (simp_all [Prod.ext_iff]) )) h))))))))) (fun a0 a1 r h => orE_miss (by decide) (orE_miss (by decide) (orE_miss (by decide) (orE_miss (by decide) (orE_miss (by decide) (orE_miss (by decide) (orE_miss (by decide) (orE_miss (by decide) (orE_hit (mkC_at (a := (a0, a1)) (by intro a b h; first | (exact rfl) | (simp only [INJ, IJ] at h; first | exact h | (simp_all [Prod.ext_iff]) )) h))))))))))) h
/-! 21: lattice/latticeref01.Add -/
def d21 : List (Nat × List Nat) := [(0, [4]), (0, []), (0, [0, 1, 5, 6, 7])]
def d21_at := And.intro (show d21.getD 0 (0, []) = (0, [4]) from rfl) <| And.intro (show d21.getD 1 (0, []) = (0, []) from rfl) <| (show d21.getD 2 (0, []) = (0, [0, 1, 5, 6, 7]) from rfl)
theorem i21 : finfo Tryz.prog 21 d21 = some ⟨bodyOf Tryz.f21, [.tmp 4], [24]⟩ := finfo_at Tryz.func21 rfl (by kernel_rfl) (by kernel_rfl)
def e21 : Int → AV := fun r => .v (.int .u32 r)
set_option maxHeartbeats 20000000 in
theorem w21 (cp : CallP) (fu : Nat) (x1 : Int) (x2 : Int) (H35_0 : ∀ (a0 : Int) (a1 : Int) (a2 : Int) r, ref01_AddBy fu a0 a1 a2 = some r → cp 35 [.v (.int .i64 a0), .v (.int .u32 a1), .v (.int .u32 a2)] = some (.v (.int .u32 r))) : J (go Tryz.prog noC cp noI 0 [] d21 fu (fin Tryz.prog [.tmp 4] [24]) (bodyOf Tryz.f21) (initE 0 [.v (.int .u32 x1), .v (.int .u32 x2)]) [] []) (ref01_Add fu x1 x2) e21 := by
  unfold ref01_Add e21
  refine J.bind fun x3 h1 => ?_
  have e_h1 := H35_0 _ _ _ _ h1
  try simp only [NN, NT, LN] at e_h1
  refine J.some ?_
  simp (maxSteps := 20000000) (disch := first | assumption | decide | with_unfolding_all rfl | omega | (simp only [LN] <;> omega) | (simp only [RO, OF])) only [bodyOf, Tryz.f21, RR, RM, LN, TT, d21_at, ↓reduceIte, Nat.reduceEqDiff, Nat.reduceLT, Nat.reduceLeDiff, Nat.reduceAdd, Nat.reduceSub, Nat.reduceMul, Nat.reduceMod, Nat.reduceDiv, Nat.reduceBEq, RH, e_h1, FF, LN, NN, NT]
noncomputable def t21 (fu : Nat) : CallP := orE 35 (mkC (fun (t : Int × Int × Int) => ([.v (.int .i64 t.1), .v (.int .u32 t.2.1), .v (.int .u32 t.2.2)] : List AV)) (fun t => ref01_AddBy fu t.1 t.2.1 t.2.2) e35) (noP)
theorem t21_ok (fu : Nat) : CpOK Tryz.prog (t21 fu ) := orE_ok (noP_ok) (mkC_ok (fun t b h => ok35 fu t.1 t.2.1 t.2.2  b h))
theorem ok21 (fu : Nat) (x1 : Int) (x2 : Int) (r) (h : ref01_Add fu x1 x2 = some r) : PureOK Tryz.prog 21 [.v (.int .u32 x1), .v (.int .u32 x2)] (e21 r) :=
  pure_J mixed (cp := t21 fu ) (t21_ok fu  ) noI_ok i21 (w21 _ fu x1 x2  (fun a0 a1 a2 r h => orE_hit (mkC_at (a := (a0, a1, a2)) (by intro a b h; first | (exact rfl) | (simp only [INJ, IJ] at h; first | exact h | (simp_all [Prod.ext_iff]) )) h))) h
end Go.Av
