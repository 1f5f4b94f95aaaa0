/- The walks of the plain functions, part 2. Made by a program of mine. Conditions: none. -/
import Derived.Test.YteiabmkcmmbbjaaGreatQ3W1
set_option linter.unusedVariables false
set_option linter.unusedSimpArgs false
set_option linter.defProp false
set_option maxRecDepth 4000
open Go Go.Proofs
namespace Go.Av
/-! 137: lattice/latticeref01.Twice -/
def d137 : List (Nat × List Nat) := [(0, [4]), (0, [6]), (0, [1000005]), (0, []), (0, []), (0, [0, 1, 8]), (0, [10, 11, 12]), (0, []), (0, [14, 15]), (0, []), (0, [16, 17, 18]), (0, []), (0, []), (0, []), (0, []), (0, []), (0, [19, 20, 21]), (0, []), (0, [23, 24]), (0, []), (0, [25, 26, 27, 28, 29, 30, 31, 32, 33, 34]), (0, []), (0, [35, 36, 37, 38, 39, 40]), (0, []), (0, [9, 41, 42]), (0, []), (0, [5, 7, 43, 44, 45, 46, 47, 48])]
def d137_at := And.intro (show d137.getD 0 (0, []) = (0, [4]) from rfl) <| And.intro (show d137.getD 1 (0, []) = (0, [6]) from rfl) <| And.intro (show d137.getD 2 (0, []) = (0, [1000005]) from rfl) <| And.intro (show d137.getD 3 (0, []) = (0, []) from rfl) <| And.intro (show d137.getD 4 (0, []) = (0, []) from rfl) <| And.intro (show d137.getD 5 (0, []) = (0, [0, 1, 8]) from rfl) <| And.intro (show d137.getD 6 (0, []) = (0, [10, 11, 12]) from rfl) <| And.intro (show d137.getD 7 (0, []) = (0, []) from rfl) <| And.intro (show d137.getD 8 (0, []) = (0, [14, 15]) from rfl) <| And.intro (show d137.getD 9 (0, []) = (0, []) from rfl) <| And.intro (show d137.getD 10 (0, []) = (0, [16, 17, 18]) from rfl) <| And.intro (show d137.getD 11 (0, []) = (0, []) from rfl) <| And.intro (show d137.getD 12 (0, []) = (0, []) from rfl) <| And.intro (show d137.getD 13 (0, []) = (0, []) from rfl) <| And.intro (show d137.getD 14 (0, []) = (0, []) from rfl) <| And.intro (show d137.getD 15 (0, []) = (0, []) from rfl) <| And.intro (show d137.getD 16 (0, []) = (0, [19, 20, 21]) from rfl) <| And.intro (show d137.getD 17 (0, []) = (0, []) from rfl) <| And.intro (show d137.getD 18 (0, []) = (0, [23, 24]) from rfl) <| And.intro (show d137.getD 19 (0, []) = (0, []) from rfl) <| And.intro (show d137.getD 20 (0, []) = (0, [25, 26, 27, 28, 29, 30, 31, 32, 33, 34]) from rfl) <| And.intro (show d137.getD 21 (0, []) = (0, []) from rfl) <| And.intro (show d137.getD 22 (0, []) = (0, [35, 36, 37, 38, 39, 40]) from rfl) <| And.intro (show d137.getD 23 (0, []) = (0, []) from rfl) <| And.intro (show d137.getD 24 (0, []) = (0, [9, 41, 42]) from rfl) <| And.intro (show d137.getD 25 (0, []) = (0, []) from rfl) <| (show d137.getD 26 (0, []) = (0, [5, 7, 43, 44, 45, 46, 47, 48]) from rfl)
theorem i137 : finfo Tryz.prog 137 d137 = some ⟨bodyOf Tryz.f137, [.tmp 4], [119]⟩ := finfo_at Tryz.func137 rfl (by kernel_rfl) (by kernel_rfl)
def e137 : (List Int) → AV := fun r => .arr r.length (lm (ik .u32) r)
set_option maxHeartbeats 20000000 in
theorem w137 (cp : CallP) (fu : Nat) (x1 : List Int) (x2 : Int) (H167_0 : ∀ (a0 : List Int) r, ref01_trim fu a0 = some r → cp 167 [.arr a0.length (lm (ik .u32) a0)] = some (.arr r.length (lm (ik .u32) r))) : J (go Tryz.prog noC cp noI 0 [] d137 fu (fin Tryz.prog [.tmp 4] [119]) (bodyOf Tryz.f137) (initE 0 [.arr x1.length (lm (ik .u32) x1), .v (.int .i64 x2)]) [] []) (ref01_Twice fu x1 x2) e137 := by
  unfold ref01_Twice e137
  conv => arg 1; simp (maxSteps := 1000000) (disch := first | assumption | decide | with_unfolding_all rfl | omega | (simp only [LN] <;> omega) | (simp only [RO, OF])) only [bodyOf, Tryz.f137, RR, RM, LN, TT, d137_at, ↓reduceIte, Nat.reduceEqDiff, Nat.reduceLT, Nat.reduceLeDiff, Nat.reduceAdd, Nat.reduceSub, Nat.reduceMul, Nat.reduceMod, Nat.reduceDiv, Nat.reduceBEq, RH]
  refine J.joinS (fun (t : List Int) => ([(0, .arr x1.length (lm (ik .u32) x1)), (1, .v (.int .i64 x2)), (5, .own (0, 5, 77) 0 t.length t.length)], [((0, 5, 77), .sl true true 1 t.length (lm (ik .u32) t))])) (fun t => ref01_Twice_k1 fu x1 x2 t) ?_ (fun hj1 => ?_)
  · rintro x3
    show J _ (ref01_Twice_k1 fu x1 x2 x3) _
    unfold ref01_Twice_k1
    conv => arg 1; simp (maxSteps := 1000000) (disch := first | assumption | decide | with_unfolding_all rfl | omega | (simp only [LN] <;> omega) | (simp only [RO, OF])) only [RR, RM, LN, TT, d137_at, ↓reduceIte, Nat.reduceEqDiff, Nat.reduceLT, Nat.reduceLeDiff, Nat.reduceAdd, Nat.reduceSub, Nat.reduceMul, Nat.reduceMod, Nat.reduceDiv, Nat.reduceBEq, RH]
    refine J.joinS (fun (t : (List Int) × Int) => ([(5, .own (0, 5, 77) 0 t.1.length t.1.length), (7, .v (.int .u64 t.2))], [((0, 5, 77), .sl true true 1 t.1.length (lm (ik .u32) t.1))])) (fun t => ref01_Twice_k2 fu t.1 t.2) ?_ (fun hj2 => ?_)
    · rintro ⟨x4, x5⟩
      show J _ (ref01_Twice_k2 fu x4 x5) _
      unfold ref01_Twice_k2
      refine J.chk fun h1 => ?_
      refine J.bind fun x6 h2 => ?_
      have e_h2 := H167_0 _ _ h2
      try simp only [NN, NT, LN] at e_h2
      refine J.some ?_
      simp (maxSteps := 20000000) (disch := first | assumption | decide | with_unfolding_all rfl | omega | (simp only [LN] <;> omega) | (simp only [RO, OF])) only [RR, RM, LN, TT, d137_at, ↓reduceIte, Nat.reduceEqDiff, Nat.reduceLT, Nat.reduceLeDiff, Nat.reduceAdd, Nat.reduceSub, Nat.reduceMul, Nat.reduceMod, Nat.reduceDiv, Nat.reduceBEq, RH, e_h2, FF, LN, NN, NT]
    · conv => arg 1; simp (maxSteps := 1000000) (disch := first | assumption | decide | with_unfolding_all rfl | omega | (simp only [LN] <;> omega) | (simp only [RO, OF])) only [RR, RM, LN, TT, d137_at, ↓reduceIte, Nat.reduceEqDiff, Nat.reduceLT, Nat.reduceLeDiff, Nat.reduceAdd, Nat.reduceSub, Nat.reduceMul, Nat.reduceMod, Nat.reduceDiv, Nat.reduceBEq, RH]
      unfold ref01_Twice_W1
      refine J.loop (fun (s : (List Int) × Int × Int) => ([(0, .arr x1.length (lm (ik .u32) x1)), (1, .v (.int .i64 x2)), (5, .own (0, 5, 77) 0 s.1.length s.1.length), (7, .v (.int .u64 s.2.1)), (8, .v (.int .i64 s.2.2))], [((0, 5, 77), .sl true true 1 s.1.length (lm (ik .u32) s.1))])) (fun next s => ref01_Twice_L1 fu x1 x2 (fun x8 x9 x10 => next (x8, x9, x10)) s.1 s.2.1 s.2.2) (s0 := (x3, 0, 0)) ?_ ?_ ?_
      · first | rfl | (simp only [LN, NN, NT])
      · first | (simp (disch := first | assumption | decide | with_unfolding_all rfl | omega | (simp only [LN] <;> omega) | (simp only [RO, OF])) only [RR, ↓reduceIte, Nat.reduceEqDiff, Nat.reduceLT, Nat.reduceLeDiff, Nat.reduceAdd, Nat.reduceSub, Nat.reduceMul, Nat.reduceMod, Nat.reduceDiv, Nat.reduceBEq, LN, NN, NT]; done) | (simp (disch := first | assumption | decide | with_unfolding_all rfl | omega | (simp only [LN] <;> omega) | (simp only [RO, OF])) only [RR, ↓reduceIte, Nat.reduceEqDiff, Nat.reduceLT, Nat.reduceLeDiff, Nat.reduceAdd, Nat.reduceSub, Nat.reduceMul, Nat.reduceMod, Nat.reduceDiv, Nat.reduceBEq, LN, fm_app, NN, NT]; done) | rfl
      rintro next k1 hn1 ⟨x8, x9, x10⟩
      let nx1 : (List Int) → Int → Int → Option (List Int) := (fun x8 x9 x10 => next (x8, x9, x10))
      show J _ (ref01_Twice_L1 fu x1 x2 nx1 x8 x9 x10) _
      unfold ref01_Twice_L1
      refine J.eq go_seq ?_
      conv => arg 1; simp (maxSteps := 1000000) (disch := first | assumption | decide | with_unfolding_all rfl | omega | (simp only [LN] <;> omega) | (simp only [RO, OF])) only [RR, RM, LN, TT, d137_at, ↓reduceIte, Nat.reduceEqDiff, Nat.reduceLT, Nat.reduceLeDiff, Nat.reduceAdd, Nat.reduceSub, Nat.reduceMul, Nat.reduceMod, Nat.reduceDiv, Nat.reduceBEq, RH]
      refine J.ite (fun h3 => ?_) (fun h3 => ?_)
      · have h3' := decide_eq_true h3
        have h3'' : decide ((x1.length : Int) ≤ x10) = false := decide_eq_false (by omega)
        conv => arg 1; simp (maxSteps := 1000000) (disch := first | assumption | decide | with_unfolding_all rfl | omega | (simp only [LN] <;> omega) | (simp only [RO, OF])) only [RR, RM, LN, TT, d137_at, ↓reduceIte, Nat.reduceEqDiff, Nat.reduceLT, Nat.reduceLeDiff, Nat.reduceAdd, Nat.reduceSub, Nat.reduceMul, Nat.reduceMod, Nat.reduceDiv, Nat.reduceBEq, RH, h3'', h3']
        refine J.eq ret_seq ?_
        refine J.eq go_seq ?_
        refine J.at fun x12 h4 h5 h6 => ?_
        refine J.chk fun h7 => ?_
        refine J.chk fun h8 => ?_
        conv => arg 1; simp (maxSteps := 1000000) (disch := first | assumption | decide | with_unfolding_all rfl | omega | (simp only [LN] <;> omega) | (simp only [RO, OF])) only [RR, RM, LN, TT, d137_at, ↓reduceIte, Nat.reduceEqDiff, Nat.reduceLT, Nat.reduceLeDiff, Nat.reduceAdd, Nat.reduceSub, Nat.reduceMul, Nat.reduceMod, Nat.reduceDiv, Nat.reduceBEq, RH, h3'', h3', lm_ik h6]
        refine J.eq ret_seq ?_
        conv => arg 1; simp (maxSteps := 1000000) (disch := first | assumption | decide | with_unfolding_all rfl | omega | (simp only [LN] <;> omega) | (simp only [RO, OF])) only [RR, RM, LN, TT, d137_at, ↓reduceIte, Nat.reduceEqDiff, Nat.reduceLT, Nat.reduceLeDiff, Nat.reduceAdd, Nat.reduceSub, Nat.reduceMul, Nat.reduceMod, Nat.reduceDiv, Nat.reduceBEq, RH, h3'', h3', lm_ik h6]
        refine J.next (s := (x8 ++ ([wk .u32 (Int.tmod (wk .u64 ((shlk .u64 (wk .u64 x12) (Int.tmod x2 32)) + x9)) 4294967296)]), wk .u64 (Int.tdiv (wk .u64 ((shlk .u64 (wk .u64 x12) (Int.tmod x2 32)) + x9)) 4294967296), wk .i64 (x10 + 1))) hn1 ?_ ?_
        · first | rfl | (simp only [LN, NN, NT])
        · first | (simp (disch := first | assumption | decide | with_unfolding_all rfl | omega | (simp only [LN] <;> omega) | (simp only [RO, OF])) only [RR, ↓reduceIte, Nat.reduceEqDiff, Nat.reduceLT, Nat.reduceLeDiff, Nat.reduceAdd, Nat.reduceSub, Nat.reduceMul, Nat.reduceMod, Nat.reduceDiv, Nat.reduceBEq, LN, NN, NT]; done) | (simp (disch := first | assumption | decide | with_unfolding_all rfl | omega | (simp only [LN] <;> omega) | (simp only [RO, OF])) only [RR, ↓reduceIte, Nat.reduceEqDiff, Nat.reduceLT, Nat.reduceLeDiff, Nat.reduceAdd, Nat.reduceSub, Nat.reduceMul, Nat.reduceMod, Nat.reduceDiv, Nat.reduceBEq, LN, fm_app, NN, NT]; done) | rfl
      · have h3' := decide_eq_false h3
        have h3'' : decide ((x1.length : Int) ≤ x10) = true := decide_eq_true (by omega)
        conv => arg 1; simp (maxSteps := 1000000) (disch := first | assumption | decide | with_unfolding_all rfl | omega | (simp only [LN] <;> omega) | (simp only [RO, OF])) only [RR, RM, LN, TT, d137_at, ↓reduceIte, Nat.reduceEqDiff, Nat.reduceLT, Nat.reduceLeDiff, Nat.reduceAdd, Nat.reduceSub, Nat.reduceMul, Nat.reduceMod, Nat.reduceDiv, Nat.reduceBEq, RH, h3'', h3']
        refine J.jmp (t := (x8, x9)) hj2 ?_ ?_
        · first | rfl | (simp only [LN, NN, NT])
        · first | (simp (disch := first | assumption | decide | with_unfolding_all rfl | omega | (simp only [LN] <;> omega) | (simp only [RO, OF])) only [RR, ↓reduceIte, Nat.reduceEqDiff, Nat.reduceLT, Nat.reduceLeDiff, Nat.reduceAdd, Nat.reduceSub, Nat.reduceMul, Nat.reduceMod, Nat.reduceDiv, Nat.reduceBEq, LN, NN, NT]; done) | (simp (disch := first | assumption | decide | with_unfolding_all rfl | omega | (simp only [LN] <;> omega) | (simp only [RO, OF])) only [RR, ↓reduceIte, Nat.reduceEqDiff, Nat.reduceLT, Nat.reduceLeDiff, Nat.reduceAdd, Nat.reduceSub, Nat.reduceMul, Nat.reduceMod, Nat.reduceDiv, Nat.reduceBEq, LN, fm_app, NN, NT]; done) | rfl
  · conv => arg 1; simp (maxSteps := 1000000) (disch := first | assumption | decide | with_unfolding_all rfl | omega | (simp only [LN] <;> omega) | (simp only [RO, OF])) only [RR, RM, LN, TT, d137_at, ↓reduceIte, Nat.reduceEqDiff, Nat.reduceLT, Nat.reduceLeDiff, Nat.reduceAdd, Nat.reduceSub, Nat.reduceMul, Nat.reduceMod, Nat.reduceDiv, Nat.reduceBEq, RH]
    unfold ref01_Twice_W2
    refine J.loop (fun (s : (List Int) × Int) => ([(0, .arr x1.length (lm (ik .u32) x1)), (1, .v (.int .i64 x2)), (5, .own (0, 5, 77) 0 s.1.length s.1.length), (6, .v (.int .i64 s.2))], [((0, 5, 77), .sl true true 1 s.1.length (lm (ik .u32) s.1))])) (fun next s => ref01_Twice_L2 fu x1 x2 (fun x13 x14 => next (x13, x14)) s.1 s.2) (s0 := (([] : List Int), 0)) ?_ ?_ ?_
    · first | rfl | (simp only [LN, NN, NT])
    · first | (simp (disch := first | assumption | decide | with_unfolding_all rfl | omega | (simp only [LN] <;> omega) | (simp only [RO, OF])) only [RR, ↓reduceIte, Nat.reduceEqDiff, Nat.reduceLT, Nat.reduceLeDiff, Nat.reduceAdd, Nat.reduceSub, Nat.reduceMul, Nat.reduceMod, Nat.reduceDiv, Nat.reduceBEq, LN, NN, NT]; done) | (simp (disch := first | assumption | decide | with_unfolding_all rfl | omega | (simp only [LN] <;> omega) | (simp only [RO, OF])) only [RR, ↓reduceIte, Nat.reduceEqDiff, Nat.reduceLT, Nat.reduceLeDiff, Nat.reduceAdd, Nat.reduceSub, Nat.reduceMul, Nat.reduceMod, Nat.reduceDiv, Nat.reduceBEq, LN, fm_app, NN, NT]; done) | rfl
    rintro next k2 hn2 ⟨x13, x14⟩
    let nx2 : (List Int) → Int → Option (List Int) := (fun x13 x14 => next (x13, x14))
    show J _ (ref01_Twice_L2 fu x1 x2 nx2 x13 x14) _
    unfold ref01_Twice_L2
    refine J.eq go_seq ?_
    conv => arg 1; simp (maxSteps := 1000000) (disch := first | assumption | decide | with_unfolding_all rfl | omega | (simp only [LN] <;> omega) | (simp only [RO, OF])) only [RR, RM, LN, TT, d137_at, ↓reduceIte, Nat.reduceEqDiff, Nat.reduceLT, Nat.reduceLeDiff, Nat.reduceAdd, Nat.reduceSub, Nat.reduceMul, Nat.reduceMod, Nat.reduceDiv, Nat.reduceBEq, RH]
    refine J.ite (fun h9 => ?_) (fun h9 => ?_)
    · have h9' := decide_eq_true h9
      have h9'' : decide ((wk .i64 (Int.tdiv x2 32)) ≤ x14) = false := decide_eq_false (by omega)
      conv => arg 1; simp (maxSteps := 1000000) (disch := first | assumption | decide | with_unfolding_all rfl | omega | (simp only [LN] <;> omega) | (simp only [RO, OF])) only [RR, RM, LN, TT, d137_at, ↓reduceIte, Nat.reduceEqDiff, Nat.reduceLT, Nat.reduceLeDiff, Nat.reduceAdd, Nat.reduceSub, Nat.reduceMul, Nat.reduceMod, Nat.reduceDiv, Nat.reduceBEq, RH, h9'', h9']
      refine J.eq ret_seq ?_
      refine J.eq go_seq ?_
      refine J.chk fun h10 => ?_
      conv => arg 1; simp (maxSteps := 1000000) (disch := first | assumption | decide | with_unfolding_all rfl | omega | (simp only [LN] <;> omega) | (simp only [RO, OF])) only [RR, RM, LN, TT, d137_at, ↓reduceIte, Nat.reduceEqDiff, Nat.reduceLT, Nat.reduceLeDiff, Nat.reduceAdd, Nat.reduceSub, Nat.reduceMul, Nat.reduceMod, Nat.reduceDiv, Nat.reduceBEq, RH, h9'', h9']
      refine J.eq ret_seq ?_
      conv => arg 1; simp (maxSteps := 1000000) (disch := first | assumption | decide | with_unfolding_all rfl | omega | (simp only [LN] <;> omega) | (simp only [RO, OF])) only [RR, RM, LN, TT, d137_at, ↓reduceIte, Nat.reduceEqDiff, Nat.reduceLT, Nat.reduceLeDiff, Nat.reduceAdd, Nat.reduceSub, Nat.reduceMul, Nat.reduceMod, Nat.reduceDiv, Nat.reduceBEq, RH, h9'', h9']
      refine J.next (s := (x13 ++ ([0]), wk .i64 (x14 + 1))) hn2 ?_ ?_
      · first | rfl | (simp only [LN, NN, NT])
      · first | (simp (disch := first | assumption | decide | with_unfolding_all rfl | omega | (simp only [LN] <;> omega) | (simp only [RO, OF])) only [RR, ↓reduceIte, Nat.reduceEqDiff, Nat.reduceLT, Nat.reduceLeDiff, Nat.reduceAdd, Nat.reduceSub, Nat.reduceMul, Nat.reduceMod, Nat.reduceDiv, Nat.reduceBEq, LN, NN, NT]; done) | (simp (disch := first | assumption | decide | with_unfolding_all rfl | omega | (simp only [LN] <;> omega) | (simp only [RO, OF])) only [RR, ↓reduceIte, Nat.reduceEqDiff, Nat.reduceLT, Nat.reduceLeDiff, Nat.reduceAdd, Nat.reduceSub, Nat.reduceMul, Nat.reduceMod, Nat.reduceDiv, Nat.reduceBEq, LN, fm_app, NN, NT]; done) | rfl
    · have h9' := decide_eq_false h9
      have h9'' : decide ((wk .i64 (Int.tdiv x2 32)) ≤ x14) = true := decide_eq_true (by omega)
      conv => arg 1; simp (maxSteps := 1000000) (disch := first | assumption | decide | with_unfolding_all rfl | omega | (simp only [LN] <;> omega) | (simp only [RO, OF])) only [RR, RM, LN, TT, d137_at, ↓reduceIte, Nat.reduceEqDiff, Nat.reduceLT, Nat.reduceLeDiff, Nat.reduceAdd, Nat.reduceSub, Nat.reduceMul, Nat.reduceMod, Nat.reduceDiv, Nat.reduceBEq, RH, h9'', h9']
      refine J.jmp (t := x13) hj1 ?_ ?_
      · first | rfl | (simp only [LN, NN, NT])
      · first | (simp (disch := first | assumption | decide | with_unfolding_all rfl | omega | (simp only [LN] <;> omega) | (simp only [RO, OF])) only [RR, ↓reduceIte, Nat.reduceEqDiff, Nat.reduceLT, Nat.reduceLeDiff, Nat.reduceAdd, Nat.reduceSub, Nat.reduceMul, Nat.reduceMod, Nat.reduceDiv, Nat.reduceBEq, LN, NN, NT]; done) | (simp (disch := first | assumption | decide | with_unfolding_all rfl | omega | (simp only [LN] <;> omega) | (simp only [RO, OF])) only [RR, ↓reduceIte, Nat.reduceEqDiff, Nat.reduceLT, Nat.reduceLeDiff, Nat.reduceAdd, Nat.reduceSub, Nat.reduceMul, Nat.reduceMod, Nat.reduceDiv, Nat.reduceBEq, LN, fm_app, NN, NT]; done) | rfl
noncomputable def t137 (fu : Nat) : CallP := orE 167 (mkC (fun (t : List Int) => ([.arr t.length (lm (ik .u32) t)] : List AV)) (fun t => ref01_trim fu t) e167) (noP)
theorem t137_ok (fu : Nat) : CpOK Tryz.prog (t137 fu ) := orE_ok (noP_ok) (mkC_ok (fun t b h => ok167 fu t  b h))
theorem ok137 (fu : Nat) (x1 : List Int) (x2 : Int) (r) (h : ref01_Twice fu x1 x2 = some r) : PureOK Tryz.prog 137 [.arr x1.length (lm (ik .u32) x1), .v (.int .i64 x2)] (e137 r) :=
  pure_J mixed (cp := t137 fu ) (t137_ok fu  ) noI_ok i137 (w137 _ fu x1 x2  (fun a0 r h => orE_hit (mkC_at (a := a0) (by intro a b h; first | (exact rfl) | (simp only [INJ, IJ] at h; first | exact h | (simp_all [Prod.ext_iff]) )) h))) h
/-! 92: lattice/latticeref01.Amount -/
def d92 : List (Nat × List Nat) := [(0, [2]), (0, []), (0, [5, 6, 7]), (0, []), (0, [0, 8, 9, 10]), (0, []), (0, [11]), (0, []), (0, [13, 14]), (0, []), (0, [3, 4, 15, 16, 17, 18, 19, 20])]
def d92_at := And.intro (show d92.getD 0 (0, []) = (0, [2]) from rfl) <| And.intro (show d92.getD 1 (0, []) = (0, []) from rfl) <| And.intro (show d92.getD 2 (0, []) = (0, [5, 6, 7]) from rfl) <| And.intro (show d92.getD 3 (0, []) = (0, []) from rfl) <| And.intro (show d92.getD 4 (0, []) = (0, [0, 8, 9, 10]) from rfl) <| And.intro (show d92.getD 5 (0, []) = (0, []) from rfl) <| And.intro (show d92.getD 6 (0, []) = (0, [11]) from rfl) <| And.intro (show d92.getD 7 (0, []) = (0, []) from rfl) <| And.intro (show d92.getD 8 (0, []) = (0, [13, 14]) from rfl) <| And.intro (show d92.getD 9 (0, []) = (0, []) from rfl) <| (show d92.getD 10 (0, []) = (0, [3, 4, 15, 16, 17, 18, 19, 20]) from rfl)
theorem i92 : finfo Tryz.prog 92 d92 = some ⟨bodyOf Tryz.f92, [.tmp 2], [119]⟩ := finfo_at Tryz.func92 rfl (by kernel_rfl) (by kernel_rfl)
def e92 : (List Int) → AV := fun r => .arr r.length (lm (ik .u32) r)
set_option maxHeartbeats 20000000 in
theorem w92 (cp : CallP) (fu : Nat) (x1 : Int) (H96_0 : ∀ (a0 : Int) r, ref01_Of fu a0 = some r → cp 96 [.v (.int .u64 a0)] = some (.arr r.length (lm (ik .u32) r))) (H137_0 : ∀ (a0 : List Int) (a1 : Int) r, ref01_Twice fu a0 a1 = some r → cp 137 [.arr a0.length (lm (ik .u32) a0), .v (.int .i64 a1)] = some (.arr r.length (lm (ik .u32) r))) : J (go Tryz.prog noC cp noI 0 [] d92 fu (fin Tryz.prog [.tmp 2] [119]) (bodyOf Tryz.f92) (initE 0 [.v (.int .u32 x1)]) [] []) (ref01_Amount fu x1) e92 := by
  unfold ref01_Amount e92
  conv => arg 1; simp (maxSteps := 1000000) (disch := first | assumption | decide | with_unfolding_all rfl | omega | (simp only [LN] <;> omega) | (simp only [RO, OF])) only [bodyOf, Tryz.f92, RR, RM, LN, TT, d92_at, ↓reduceIte, Nat.reduceEqDiff, Nat.reduceLT, Nat.reduceLeDiff, Nat.reduceAdd, Nat.reduceSub, Nat.reduceMul, Nat.reduceMod, Nat.reduceDiv, Nat.reduceBEq, RH]
  refine J.eq go_seq ?_
  conv => arg 1; simp (maxSteps := 1000000) (disch := first | assumption | decide | with_unfolding_all rfl | omega | (simp only [LN] <;> omega) | (simp only [RO, OF])) only [RR, RM, LN, TT, d92_at, ↓reduceIte, Nat.reduceEqDiff, Nat.reduceLT, Nat.reduceLeDiff, Nat.reduceAdd, Nat.reduceSub, Nat.reduceMul, Nat.reduceMod, Nat.reduceDiv, Nat.reduceBEq, RH]
  refine J.ite (fun h1 => ?_) (fun h1 => ?_)
  · have h1' := decide_eq_true h1
    refine J.bind fun x2 h2 => ?_
    have e_h2 := H96_0 _ _ h2
    try simp only [NN, NT, LN] at e_h2
    refine J.some ?_
    simp (maxSteps := 20000000) (disch := first | assumption | decide | with_unfolding_all rfl | omega | (simp only [LN] <;> omega) | (simp only [RO, OF])) only [RR, RM, LN, TT, d92_at, ↓reduceIte, Nat.reduceEqDiff, Nat.reduceLT, Nat.reduceLeDiff, Nat.reduceAdd, Nat.reduceSub, Nat.reduceMul, Nat.reduceMod, Nat.reduceDiv, Nat.reduceBEq, RH, h1', e_h2, FF, LN, NN, NT]
  · have h1' := decide_eq_false h1
    conv => arg 1; simp (maxSteps := 1000000) (disch := first | assumption | decide | with_unfolding_all rfl | omega | (simp only [LN] <;> omega) | (simp only [RO, OF])) only [RR, RM, LN, TT, d92_at, ↓reduceIte, Nat.reduceEqDiff, Nat.reduceLT, Nat.reduceLeDiff, Nat.reduceAdd, Nat.reduceSub, Nat.reduceMul, Nat.reduceMod, Nat.reduceDiv, Nat.reduceBEq, RH, h1']
    refine J.eq ret_seq ?_
    refine J.bind fun x3 h3 => ?_
    have e_h3 := H96_0 _ _ h3
    try simp only [NN, NT, LN] at e_h3
    refine J.bind fun x4 h4 => ?_
    have e_h4 := H137_0 _ _ _ h4
    try simp only [NN, NT, LN] at e_h4
    refine J.some ?_
    simp (maxSteps := 20000000) (disch := first | assumption | decide | with_unfolding_all rfl | omega | (simp only [LN] <;> omega) | (simp only [RO, OF])) only [RR, RM, LN, TT, d92_at, ↓reduceIte, Nat.reduceEqDiff, Nat.reduceLT, Nat.reduceLeDiff, Nat.reduceAdd, Nat.reduceSub, Nat.reduceMul, Nat.reduceMod, Nat.reduceDiv, Nat.reduceBEq, RH, h1', e_h3, e_h4, FF, LN, NN, NT]
noncomputable def t92 (fu : Nat) : CallP := orE 96 (mkC (fun (t : Int) => ([.v (.int .u64 t)] : List AV)) (fun t => ref01_Of fu t) e96) (orE 137 (mkC (fun (t : (List Int) × Int) => ([.arr t.1.length (lm (ik .u32) t.1), .v (.int .i64 t.2)] : List AV)) (fun t => ref01_Twice fu t.1 t.2) e137) (noP))
theorem t92_ok (fu : Nat) : CpOK Tryz.prog (t92 fu ) := orE_ok (orE_ok (noP_ok) (mkC_ok (fun t b h => ok137 fu t.1 t.2  b h))) (mkC_ok (fun t b h => ok96 fu t  b h))
theorem ok92 (fu : Nat) (x1 : Int) (r) (h : ref01_Amount fu x1 = some r) : PureOK Tryz.prog 92 [.v (.int .u32 x1)] (e92 r) :=
  pure_J mixed (cp := t92 fu ) (t92_ok fu  ) noI_ok i92 (w92 _ fu x1  (fun a0 r h => orE_hit (mkC_at (a := a0) (by intro a b h; first | (exact rfl) | (simp only [INJ, IJ] at h; first | exact h | (simp_all [Prod.ext_iff]) )) h)) (fun a0 a1 r h => orE_miss (by decide) (orE_hit (mkC_at (a := (a0, a1)) (by intro a b h; first | (exact rfl) | (simp only [INJ, IJ] at h; first | exact h | (simp_all [Prod.ext_iff]) )) h)))) h
/-! 93: lattice/latticeref01.Below -/
def d93 : List (Nat × List Nat) := [(0, [2]), (0, []), (0, [0, 3, 4])]
def d93_at := And.intro (show d93.getD 0 (0, []) = (0, [2]) from rfl) <| And.intro (show d93.getD 1 (0, []) = (0, []) from rfl) <| (show d93.getD 2 (0, []) = (0, [0, 3, 4]) from rfl)
theorem i93 : finfo Tryz.prog 93 d93 = some ⟨bodyOf Tryz.f93, [.tmp 2], [4]⟩ := finfo_at Tryz.func93 rfl (by kernel_rfl) (by kernel_rfl)
def e93 : Bool → AV := fun r => .v (.bool r)
set_option maxHeartbeats 20000000 in
theorem w93 (cp : CallP) (fu : Nat) (x1 : Int) : J (go Tryz.prog noC cp noI 0 [] d93 fu (fin Tryz.prog [.tmp 2] [4]) (bodyOf Tryz.f93) (initE 0 [.v (.int .u32 x1)]) [] []) (ref01_Below fu x1) e93 := by
  unfold ref01_Below e93
  refine J.some ?_
  simp (maxSteps := 20000000) (disch := first | assumption | decide | with_unfolding_all rfl | omega | (simp only [LN] <;> omega) | (simp only [RO, OF])) only [bodyOf, Tryz.f93, RR, RM, LN, TT, d93_at, ↓reduceIte, Nat.reduceEqDiff, Nat.reduceLT, Nat.reduceLeDiff, Nat.reduceAdd, Nat.reduceSub, Nat.reduceMul, Nat.reduceMod, Nat.reduceDiv, Nat.reduceBEq, RH, FF, LN, NN, NT]
noncomputable def t93 (fu : Nat) : CallP := noP
theorem t93_ok (fu : Nat) : CpOK Tryz.prog (t93 fu ) := noP_ok
theorem ok93 (fu : Nat) (x1 : Int) (r) (h : ref01_Below fu x1 = some r) : PureOK Tryz.prog 93 [.v (.int .u32 x1)] (e93 r) :=
  pure_J mixed (cp := t93 fu ) (t93_ok fu  ) noI_ok i93 (w93 _ fu x1  ) h
/-! 95: lattice/latticeref01.Plus -/
def d95 : List (Nat × List Nat) := [(0, [4]), (0, [0, 1, 6, 7]), (0, [1000005]), (0, []), (0, []), (0, []), (0, []), (0, []), (0, [9, 10, 11, 12, 13, 14, 15, 16, 17, 18, 19, 20, 21]), (0, []), (0, [23, 24]), (0, []), (0, [25]), (0, []), (0, [26, 27, 28]), (0, []), (0, [30, 31, 32, 33, 34, 35, 36]), (0, []), (0, [37, 38, 39]), (0, []), (0, [41, 42, 43, 44, 45, 46, 47]), (0, []), (0, [48, 49, 50, 51, 52, 53]), (0, []), (0, [8, 54, 55]), (0, []), (0, [5, 56, 57])]
def d95_at := And.intro (show d95.getD 0 (0, []) = (0, [4]) from rfl) <| And.intro (show d95.getD 1 (0, []) = (0, [0, 1, 6, 7]) from rfl) <| And.intro (show d95.getD 2 (0, []) = (0, [1000005]) from rfl) <| And.intro (show d95.getD 3 (0, []) = (0, []) from rfl) <| And.intro (show d95.getD 4 (0, []) = (0, []) from rfl) <| And.intro (show d95.getD 5 (0, []) = (0, []) from rfl) <| And.intro (show d95.getD 6 (0, []) = (0, []) from rfl) <| And.intro (show d95.getD 7 (0, []) = (0, []) from rfl) <| And.intro (show d95.getD 8 (0, []) = (0, [9, 10, 11, 12, 13, 14, 15, 16, 17, 18, 19, 20, 21]) from rfl) <| And.intro (show d95.getD 9 (0, []) = (0, []) from rfl) <| And.intro (show d95.getD 10 (0, []) = (0, [23, 24]) from rfl) <| And.intro (show d95.getD 11 (0, []) = (0, []) from rfl) <| And.intro (show d95.getD 12 (0, []) = (0, [25]) from rfl) <| And.intro (show d95.getD 13 (0, []) = (0, []) from rfl) <| And.intro (show d95.getD 14 (0, []) = (0, [26, 27, 28]) from rfl) <| And.intro (show d95.getD 15 (0, []) = (0, []) from rfl) <| And.intro (show d95.getD 16 (0, []) = (0, [30, 31, 32, 33, 34, 35, 36]) from rfl) <| And.intro (show d95.getD 17 (0, []) = (0, []) from rfl) <| And.intro (show d95.getD 18 (0, []) = (0, [37, 38, 39]) from rfl) <| And.intro (show d95.getD 19 (0, []) = (0, []) from rfl) <| And.intro (show d95.getD 20 (0, []) = (0, [41, 42, 43, 44, 45, 46, 47]) from rfl) <| And.intro (show d95.getD 21 (0, []) = (0, []) from rfl) <| And.intro (show d95.getD 22 (0, []) = (0, [48, 49, 50, 51, 52, 53]) from rfl) <| And.intro (show d95.getD 23 (0, []) = (0, []) from rfl) <| And.intro (show d95.getD 24 (0, []) = (0, [8, 54, 55]) from rfl) <| And.intro (show d95.getD 25 (0, []) = (0, []) from rfl) <| (show d95.getD 26 (0, []) = (0, [5, 56, 57]) from rfl)
theorem i95 : finfo Tryz.prog 95 d95 = some ⟨bodyOf Tryz.f95, [.tmp 4], [119]⟩ := finfo_at Tryz.func95 rfl (by kernel_rfl) (by kernel_rfl)
def e95 : (List Int) → AV := fun r => .arr r.length (lm (ik .u32) r)
set_option maxHeartbeats 20000000 in
theorem w95 (cp : CallP) (fu : Nat) (x1 : List Int) (x2 : List Int) (H167_0 : ∀ (a0 : List Int) r, ref01_trim fu a0 = some r → cp 167 [.arr a0.length (lm (ik .u32) a0)] = some (.arr r.length (lm (ik .u32) r))) : J (go Tryz.prog noC cp noI 0 [] d95 fu (fin Tryz.prog [.tmp 4] [119]) (bodyOf Tryz.f95) (initE 0 [.arr x1.length (lm (ik .u32) x1), .arr x2.length (lm (ik .u32) x2)]) [] []) (ref01_Plus fu x1 x2) e95 := by
  unfold ref01_Plus e95
  conv => arg 1; simp (maxSteps := 1000000) (disch := first | assumption | decide | with_unfolding_all rfl | omega | (simp only [LN] <;> omega) | (simp only [RO, OF])) only [bodyOf, Tryz.f95, RR, RM, LN, TT, d95_at, ↓reduceIte, Nat.reduceEqDiff, Nat.reduceLT, Nat.reduceLeDiff, Nat.reduceAdd, Nat.reduceSub, Nat.reduceMul, Nat.reduceMod, Nat.reduceDiv, Nat.reduceBEq, RH]
  refine J.joinS (fun (t : List Int) => ([(5, .own (0, 5, 77) 0 t.length t.length)], [((0, 5, 77), .sl true true 1 t.length (lm (ik .u32) t))])) (fun t => ref01_Plus_k1 fu t) ?_ (fun hj1 => ?_)
  · rintro x3
    show J _ (ref01_Plus_k1 fu x3) _
    unfold ref01_Plus_k1
    refine J.bind fun x4 h1 => ?_
    have e_h1 := H167_0 _ _ h1
    try simp only [NN, NT, LN] at e_h1
    refine J.some ?_
    simp (maxSteps := 20000000) (disch := first | assumption | decide | with_unfolding_all rfl | omega | (simp only [LN] <;> omega) | (simp only [RO, OF])) only [RR, RM, LN, TT, d95_at, ↓reduceIte, Nat.reduceEqDiff, Nat.reduceLT, Nat.reduceLeDiff, Nat.reduceAdd, Nat.reduceSub, Nat.reduceMul, Nat.reduceMod, Nat.reduceDiv, Nat.reduceBEq, RH, e_h1, FF, LN, NN, NT]
  · conv => arg 1; simp (maxSteps := 1000000) (disch := first | assumption | decide | with_unfolding_all rfl | omega | (simp only [LN] <;> omega) | (simp only [RO, OF])) only [RR, RM, LN, TT, d95_at, ↓reduceIte, Nat.reduceEqDiff, Nat.reduceLT, Nat.reduceLeDiff, Nat.reduceAdd, Nat.reduceSub, Nat.reduceMul, Nat.reduceMod, Nat.reduceDiv, Nat.reduceBEq, RH]
    unfold ref01_Plus_W1
    refine J.loop (fun (s : (List Int) × Int × Int) => ([(0, .arr x1.length (lm (ik .u32) x1)), (1, .arr x2.length (lm (ik .u32) x2)), (5, .own (0, 5, 77) 0 s.1.length s.1.length), (6, .v (.int .u64 s.2.1)), (7, .v (.int .i64 s.2.2))], [((0, 5, 77), .sl true true 1 s.1.length (lm (ik .u32) s.1))])) (fun next s => ref01_Plus_L1 fu x1 x2 (fun x9 x10 x11 => next (x9, x10, x11)) s.1 s.2.1 s.2.2) (s0 := (([] : List Int), 0, 0)) ?_ ?_ ?_
    · first | rfl | (simp only [LN, NN, NT])
    · first | (simp (disch := first | assumption | decide | with_unfolding_all rfl | omega | (simp only [LN] <;> omega) | (simp only [RO, OF])) only [RR, ↓reduceIte, Nat.reduceEqDiff, Nat.reduceLT, Nat.reduceLeDiff, Nat.reduceAdd, Nat.reduceSub, Nat.reduceMul, Nat.reduceMod, Nat.reduceDiv, Nat.reduceBEq, LN, NN, NT]; done) | (simp (disch := first | assumption | decide | with_unfolding_all rfl | omega | (simp only [LN] <;> omega) | (simp only [RO, OF])) only [RR, ↓reduceIte, Nat.reduceEqDiff, Nat.reduceLT, Nat.reduceLeDiff, Nat.reduceAdd, Nat.reduceSub, Nat.reduceMul, Nat.reduceMod, Nat.reduceDiv, Nat.reduceBEq, LN, fm_app, NN, NT]; done) | rfl
    rintro next k1 hn1 ⟨x9, x10, x11⟩
    let nx1 : (List Int) → Int → Int → Option (List Int) := (fun x9 x10 x11 => next (x9, x10, x11))
    show J _ (ref01_Plus_L1 fu x1 x2 nx1 x9 x10 x11) _
    unfold ref01_Plus_L1
    refine J.joinS (fun (t : Unit) => ([(0, .arr x1.length (lm (ik .u32) x1)), (1, .arr x2.length (lm (ik .u32) x2)), (5, .own (0, 5, 77) 0 x9.length x9.length), (6, .v (.int .u64 x10)), (7, .v (.int .i64 x11))], [((0, 5, 77), .sl true true 1 x9.length (lm (ik .u32) x9))])) (fun t => ref01_Plus_k2 fu nx1 x1 x2 x9 x10 x11) ?_ (fun hj2 => ?_)
    · rintro ⟨⟩
      show J _ (ref01_Plus_k2 fu nx1 x1 x2 x9 x10 x11) _
      unfold ref01_Plus_k2
      refine J.eq go_seq ?_
      conv => arg 1; simp (maxSteps := 1000000) (disch := first | assumption | decide | with_unfolding_all rfl | omega | (simp only [LN] <;> omega) | (simp only [RO, OF])) only [RR, RM, LN, TT, d95_at, ↓reduceIte, Nat.reduceEqDiff, Nat.reduceLT, Nat.reduceLeDiff, Nat.reduceAdd, Nat.reduceSub, Nat.reduceMul, Nat.reduceMod, Nat.reduceDiv, Nat.reduceBEq, RH]
      refine J.joinS (fun (t : Int) => ([(0, .arr x1.length (lm (ik .u32) x1)), (1, .arr x2.length (lm (ik .u32) x2)), (5, .own (0, 5, 77) 0 x9.length x9.length), (6, .v (.int .u64 x10)), (7, .v (.int .i64 x11)), (8, .v (.int .u64 t))], [((0, 5, 77), .sl true true 1 x9.length (lm (ik .u32) x9))])) (fun t => ref01_Plus_k3 fu nx1 x2 x9 x11 t) ?_ (fun hj3 => ?_)
      · rintro x16
        show J _ (ref01_Plus_k3 fu nx1 x2 x9 x11 x16) _
        unfold ref01_Plus_k3
        refine J.joinS (fun (t : Int) => ([(0, .arr x1.length (lm (ik .u32) x1)), (1, .arr x2.length (lm (ik .u32) x2)), (5, .own (0, 5, 77) 0 x9.length x9.length), (6, .v (.int .u64 x10)), (7, .v (.int .i64 x11)), (8, .v (.int .u64 t))], [((0, 5, 77), .sl true true 1 x9.length (lm (ik .u32) x9))])) (fun t => ref01_Plus_k4 fu nx1 x9 x11 t) ?_ (fun hj4 => ?_)
        · rintro x17
          show J _ (ref01_Plus_k4 fu nx1 x9 x11 x17) _
          unfold ref01_Plus_k4
          refine J.chk fun h2 => ?_
          conv => arg 1; simp (maxSteps := 1000000) (disch := first | assumption | decide | with_unfolding_all rfl | omega | (simp only [LN] <;> omega) | (simp only [RO, OF])) only [RR, RM, LN, TT, d95_at, ↓reduceIte, Nat.reduceEqDiff, Nat.reduceLT, Nat.reduceLeDiff, Nat.reduceAdd, Nat.reduceSub, Nat.reduceMul, Nat.reduceMod, Nat.reduceDiv, Nat.reduceBEq, RH]
          refine J.eq ret_seq ?_
          conv => arg 1; simp (maxSteps := 1000000) (disch := first | assumption | decide | with_unfolding_all rfl | omega | (simp only [LN] <;> omega) | (simp only [RO, OF])) only [RR, RM, LN, TT, d95_at, ↓reduceIte, Nat.reduceEqDiff, Nat.reduceLT, Nat.reduceLeDiff, Nat.reduceAdd, Nat.reduceSub, Nat.reduceMul, Nat.reduceMod, Nat.reduceDiv, Nat.reduceBEq, RH]
          refine J.next (s := (x9 ++ ([wk .u32 (Int.tmod x17 4294967296)]), wk .u64 (Int.tdiv x17 4294967296), wk .i64 (x11 + 1))) hn1 ?_ ?_
          · first | rfl | (simp only [LN, NN, NT])
          · first | (simp (disch := first | assumption | decide | with_unfolding_all rfl | omega | (simp only [LN] <;> omega) | (simp only [RO, OF])) only [RR, ↓reduceIte, Nat.reduceEqDiff, Nat.reduceLT, Nat.reduceLeDiff, Nat.reduceAdd, Nat.reduceSub, Nat.reduceMul, Nat.reduceMod, Nat.reduceDiv, Nat.reduceBEq, LN, NN, NT]; done) | (simp (disch := first | assumption | decide | with_unfolding_all rfl | omega | (simp only [LN] <;> omega) | (simp only [RO, OF])) only [RR, ↓reduceIte, Nat.reduceEqDiff, Nat.reduceLT, Nat.reduceLeDiff, Nat.reduceAdd, Nat.reduceSub, Nat.reduceMul, Nat.reduceMod, Nat.reduceDiv, Nat.reduceBEq, LN, fm_app, NN, NT]; done) | rfl
        · conv => arg 1; simp (maxSteps := 1000000) (disch := first | assumption | decide | with_unfolding_all rfl | omega | (simp only [LN] <;> omega) | (simp only [RO, OF])) only [RR, RM, LN, TT, d95_at, ↓reduceIte, Nat.reduceEqDiff, Nat.reduceLT, Nat.reduceLeDiff, Nat.reduceAdd, Nat.reduceSub, Nat.reduceMul, Nat.reduceMod, Nat.reduceDiv, Nat.reduceBEq, RH]
          refine J.ite (fun h3 => ?_) (fun h3 => ?_)
          · have h3' := decide_eq_true h3
            have h3'' : decide ((x2.length : Int) ≤ x11) = false := decide_eq_false (by omega)
            refine J.at fun x18 h4 h5 h6 => ?_
            conv => arg 1; simp (maxSteps := 1000000) (disch := first | assumption | decide | with_unfolding_all rfl | omega | (simp only [LN] <;> omega) | (simp only [RO, OF])) only [RR, RM, LN, TT, d95_at, ↓reduceIte, Nat.reduceEqDiff, Nat.reduceLT, Nat.reduceLeDiff, Nat.reduceAdd, Nat.reduceSub, Nat.reduceMul, Nat.reduceMod, Nat.reduceDiv, Nat.reduceBEq, RH, h3'', h3', lm_ik h6]
            refine J.jmp (t := wk .u64 (x16 + (wk .u64 x18))) hj4 ?_ ?_
            · first | rfl | (simp only [LN, NN, NT])
            · first | (simp (disch := first | assumption | decide | with_unfolding_all rfl | omega | (simp only [LN] <;> omega) | (simp only [RO, OF])) only [RR, ↓reduceIte, Nat.reduceEqDiff, Nat.reduceLT, Nat.reduceLeDiff, Nat.reduceAdd, Nat.reduceSub, Nat.reduceMul, Nat.reduceMod, Nat.reduceDiv, Nat.reduceBEq, LN, NN, NT]; done) | (simp (disch := first | assumption | decide | with_unfolding_all rfl | omega | (simp only [LN] <;> omega) | (simp only [RO, OF])) only [RR, ↓reduceIte, Nat.reduceEqDiff, Nat.reduceLT, Nat.reduceLeDiff, Nat.reduceAdd, Nat.reduceSub, Nat.reduceMul, Nat.reduceMod, Nat.reduceDiv, Nat.reduceBEq, LN, fm_app, NN, NT]; done) | rfl
          · have h3' := decide_eq_false h3
            have h3'' : decide ((x2.length : Int) ≤ x11) = true := decide_eq_true (by omega)
            conv => arg 1; simp (maxSteps := 1000000) (disch := first | assumption | decide | with_unfolding_all rfl | omega | (simp only [LN] <;> omega) | (simp only [RO, OF])) only [RR, RM, LN, TT, d95_at, ↓reduceIte, Nat.reduceEqDiff, Nat.reduceLT, Nat.reduceLeDiff, Nat.reduceAdd, Nat.reduceSub, Nat.reduceMul, Nat.reduceMod, Nat.reduceDiv, Nat.reduceBEq, RH, h3'', h3']
            refine J.jmp (t := x16) hj4 ?_ ?_
            · first | rfl | (simp only [LN, NN, NT])
            · first | (simp (disch := first | assumption | decide | with_unfolding_all rfl | omega | (simp only [LN] <;> omega) | (simp only [RO, OF])) only [RR, ↓reduceIte, Nat.reduceEqDiff, Nat.reduceLT, Nat.reduceLeDiff, Nat.reduceAdd, Nat.reduceSub, Nat.reduceMul, Nat.reduceMod, Nat.reduceDiv, Nat.reduceBEq, LN, NN, NT]; done) | (simp (disch := first | assumption | decide | with_unfolding_all rfl | omega | (simp only [LN] <;> omega) | (simp only [RO, OF])) only [RR, ↓reduceIte, Nat.reduceEqDiff, Nat.reduceLT, Nat.reduceLeDiff, Nat.reduceAdd, Nat.reduceSub, Nat.reduceMul, Nat.reduceMod, Nat.reduceDiv, Nat.reduceBEq, LN, fm_app, NN, NT]; done) | rfl
      · conv => arg 1; simp (maxSteps := 1000000) (disch := first | assumption | decide | with_unfolding_all rfl | omega | (simp only [LN] <;> omega) | (simp only [RO, OF])) only [RR, RM, LN, TT, d95_at, ↓reduceIte, Nat.reduceEqDiff, Nat.reduceLT, Nat.reduceLeDiff, Nat.reduceAdd, Nat.reduceSub, Nat.reduceMul, Nat.reduceMod, Nat.reduceDiv, Nat.reduceBEq, RH]
        refine J.ite (fun h7 => ?_) (fun h7 => ?_)
        · have h7' := decide_eq_true h7
          have h7'' : decide ((x1.length : Int) ≤ x11) = false := decide_eq_false (by omega)
          refine J.at fun x19 h8 h9 h10 => ?_
          conv => arg 1; simp (maxSteps := 1000000) (disch := first | assumption | decide | with_unfolding_all rfl | omega | (simp only [LN] <;> omega) | (simp only [RO, OF])) only [RR, RM, LN, TT, d95_at, ↓reduceIte, Nat.reduceEqDiff, Nat.reduceLT, Nat.reduceLeDiff, Nat.reduceAdd, Nat.reduceSub, Nat.reduceMul, Nat.reduceMod, Nat.reduceDiv, Nat.reduceBEq, RH, h7'', h7', lm_ik h10]
          refine J.jmp (t := wk .u64 (x10 + (wk .u64 x19))) hj3 ?_ ?_
          · first | rfl | (simp only [LN, NN, NT])
          · first | (simp (disch := first | assumption | decide | with_unfolding_all rfl | omega | (simp only [LN] <;> omega) | (simp only [RO, OF])) only [RR, ↓reduceIte, Nat.reduceEqDiff, Nat.reduceLT, Nat.reduceLeDiff, Nat.reduceAdd, Nat.reduceSub, Nat.reduceMul, Nat.reduceMod, Nat.reduceDiv, Nat.reduceBEq, LN, NN, NT]; done) | (simp (disch := first | assumption | decide | with_unfolding_all rfl | omega | (simp only [LN] <;> omega) | (simp only [RO, OF])) only [RR, ↓reduceIte, Nat.reduceEqDiff, Nat.reduceLT, Nat.reduceLeDiff, Nat.reduceAdd, Nat.reduceSub, Nat.reduceMul, Nat.reduceMod, Nat.reduceDiv, Nat.reduceBEq, LN, fm_app, NN, NT]; done) | rfl
        · have h7' := decide_eq_false h7
          have h7'' : decide ((x1.length : Int) ≤ x11) = true := decide_eq_true (by omega)
          conv => arg 1; simp (maxSteps := 1000000) (disch := first | assumption | decide | with_unfolding_all rfl | omega | (simp only [LN] <;> omega) | (simp only [RO, OF])) only [RR, RM, LN, TT, d95_at, ↓reduceIte, Nat.reduceEqDiff, Nat.reduceLT, Nat.reduceLeDiff, Nat.reduceAdd, Nat.reduceSub, Nat.reduceMul, Nat.reduceMod, Nat.reduceDiv, Nat.reduceBEq, RH, h7'', h7']
          refine J.jmp (t := x10) hj3 ?_ ?_
          · first | rfl | (simp only [LN, NN, NT])
          · first | (simp (disch := first | assumption | decide | with_unfolding_all rfl | omega | (simp only [LN] <;> omega) | (simp only [RO, OF])) only [RR, ↓reduceIte, Nat.reduceEqDiff, Nat.reduceLT, Nat.reduceLeDiff, Nat.reduceAdd, Nat.reduceSub, Nat.reduceMul, Nat.reduceMod, Nat.reduceDiv, Nat.reduceBEq, LN, NN, NT]; done) | (simp (disch := first | assumption | decide | with_unfolding_all rfl | omega | (simp only [LN] <;> omega) | (simp only [RO, OF])) only [RR, ↓reduceIte, Nat.reduceEqDiff, Nat.reduceLT, Nat.reduceLeDiff, Nat.reduceAdd, Nat.reduceSub, Nat.reduceMul, Nat.reduceMod, Nat.reduceDiv, Nat.reduceBEq, LN, fm_app, NN, NT]; done) | rfl
    · refine J.eq go_seq ?_
      conv => arg 1; simp (maxSteps := 1000000) (disch := first | assumption | decide | with_unfolding_all rfl | omega | (simp only [LN] <;> omega) | (simp only [RO, OF])) only [RR, RM, LN, TT, d95_at, ↓reduceIte, Nat.reduceEqDiff, Nat.reduceLT, Nat.reduceLeDiff, Nat.reduceAdd, Nat.reduceSub, Nat.reduceMul, Nat.reduceMod, Nat.reduceDiv, Nat.reduceBEq, RH]
      refine J.ite (fun h11 => ?_) (fun h11 => ?_)
      · have h11' := decide_eq_true h11
        have h11'' : decide ((x1.length : Int) ≤ x11) = false := decide_eq_false (by omega)
        conv => arg 1; simp (maxSteps := 1000000) (disch := first | assumption | decide | with_unfolding_all rfl | omega | (simp only [LN] <;> omega) | (simp only [RO, OF])) only [RR, RM, LN, TT, d95_at, ↓reduceIte, Nat.reduceEqDiff, Nat.reduceLT, Nat.reduceLeDiff, Nat.reduceAdd, Nat.reduceSub, Nat.reduceMul, Nat.reduceMod, Nat.reduceDiv, Nat.reduceBEq, RH, h11'', h11']
        refine J.eq ret_seq ?_
        conv => arg 1; simp (maxSteps := 1000000) (disch := first | assumption | decide | with_unfolding_all rfl | omega | (simp only [LN] <;> omega) | (simp only [RO, OF])) only [RR, RM, LN, TT, d95_at, ↓reduceIte, Nat.reduceEqDiff, Nat.reduceLT, Nat.reduceLeDiff, Nat.reduceAdd, Nat.reduceSub, Nat.reduceMul, Nat.reduceMod, Nat.reduceDiv, Nat.reduceBEq, RH, h11'', h11']
        refine J.jmp (t := ()) hj2 ?_ ?_
        · first | rfl | (simp only [LN, NN, NT])
        · first | (simp (disch := first | assumption | decide | with_unfolding_all rfl | omega | (simp only [LN] <;> omega) | (simp only [RO, OF])) only [RR, ↓reduceIte, Nat.reduceEqDiff, Nat.reduceLT, Nat.reduceLeDiff, Nat.reduceAdd, Nat.reduceSub, Nat.reduceMul, Nat.reduceMod, Nat.reduceDiv, Nat.reduceBEq, LN, NN, NT]; done) | (simp (disch := first | assumption | decide | with_unfolding_all rfl | omega | (simp only [LN] <;> omega) | (simp only [RO, OF])) only [RR, ↓reduceIte, Nat.reduceEqDiff, Nat.reduceLT, Nat.reduceLeDiff, Nat.reduceAdd, Nat.reduceSub, Nat.reduceMul, Nat.reduceMod, Nat.reduceDiv, Nat.reduceBEq, LN, fm_app, NN, NT]; done) | rfl
      · have h11' := decide_eq_false h11
        have h11'' : decide ((x1.length : Int) ≤ x11) = true := decide_eq_true (by omega)
        conv => arg 1; simp (maxSteps := 1000000) (disch := first | assumption | decide | with_unfolding_all rfl | omega | (simp only [LN] <;> omega) | (simp only [RO, OF])) only [RR, RM, LN, TT, d95_at, ↓reduceIte, Nat.reduceEqDiff, Nat.reduceLT, Nat.reduceLeDiff, Nat.reduceAdd, Nat.reduceSub, Nat.reduceMul, Nat.reduceMod, Nat.reduceDiv, Nat.reduceBEq, RH, h11'', h11']
        refine J.ite (fun h12 => ?_) (fun h12 => ?_)
        · have h12' := decide_eq_true h12
          have h12'' : decide ((x2.length : Int) ≤ x11) = false := decide_eq_false (by omega)
          conv => arg 1; simp (maxSteps := 1000000) (disch := first | assumption | decide | with_unfolding_all rfl | omega | (simp only [LN] <;> omega) | (simp only [RO, OF])) only [RR, RM, LN, TT, d95_at, ↓reduceIte, Nat.reduceEqDiff, Nat.reduceLT, Nat.reduceLeDiff, Nat.reduceAdd, Nat.reduceSub, Nat.reduceMul, Nat.reduceMod, Nat.reduceDiv, Nat.reduceBEq, RH, h11'', h11', h12'', h12']
          refine J.eq ret_seq ?_
          conv => arg 1; simp (maxSteps := 1000000) (disch := first | assumption | decide | with_unfolding_all rfl | omega | (simp only [LN] <;> omega) | (simp only [RO, OF])) only [RR, RM, LN, TT, d95_at, ↓reduceIte, Nat.reduceEqDiff, Nat.reduceLT, Nat.reduceLeDiff, Nat.reduceAdd, Nat.reduceSub, Nat.reduceMul, Nat.reduceMod, Nat.reduceDiv, Nat.reduceBEq, RH, h11'', h11', h12'', h12']
          refine J.jmp (t := ()) hj2 ?_ ?_
          · first | rfl | (simp only [LN, NN, NT])
          · first | (simp (disch := first | assumption | decide | with_unfolding_all rfl | omega | (simp only [LN] <;> omega) | (simp only [RO, OF])) only [RR, ↓reduceIte, Nat.reduceEqDiff, Nat.reduceLT, Nat.reduceLeDiff, Nat.reduceAdd, Nat.reduceSub, Nat.reduceMul, Nat.reduceMod, Nat.reduceDiv, Nat.reduceBEq, LN, NN, NT]; done) | (simp (disch := first | assumption | decide | with_unfolding_all rfl | omega | (simp only [LN] <;> omega) | (simp only [RO, OF])) only [RR, ↓reduceIte, Nat.reduceEqDiff, Nat.reduceLT, Nat.reduceLeDiff, Nat.reduceAdd, Nat.reduceSub, Nat.reduceMul, Nat.reduceMod, Nat.reduceDiv, Nat.reduceBEq, LN, fm_app, NN, NT]; done) | rfl
        · have h12' := decide_eq_false h12
          have h12'' : decide ((x2.length : Int) ≤ x11) = true := decide_eq_true (by omega)
          conv => arg 1; simp (maxSteps := 1000000) (disch := first | assumption | decide | with_unfolding_all rfl | omega | (simp only [LN] <;> omega) | (simp only [RO, OF])) only [RR, RM, LN, TT, d95_at, ↓reduceIte, Nat.reduceEqDiff, Nat.reduceLT, Nat.reduceLeDiff, Nat.reduceAdd, Nat.reduceSub, Nat.reduceMul, Nat.reduceMod, Nat.reduceDiv, Nat.reduceBEq, RH, h11'', h11', h12'', h12']
          refine J.eq ret_seq ?_
          conv => arg 1; simp (maxSteps := 1000000) (disch := first | assumption | decide | with_unfolding_all rfl | omega | (simp only [LN] <;> omega) | (simp only [RO, OF])) only [RR, RM, LN, TT, d95_at, ↓reduceIte, Nat.reduceEqDiff, Nat.reduceLT, Nat.reduceLeDiff, Nat.reduceAdd, Nat.reduceSub, Nat.reduceMul, Nat.reduceMod, Nat.reduceDiv, Nat.reduceBEq, RH, h11'', h11', h12'', h12']
          refine J.ite (fun h13 => ?_) (fun h13 => ?_)
          · have h13' := decide_eq_true h13
            have h13'' : decide (x10 ≤ 0) = false := decide_eq_false (by omega)
            conv => arg 1; simp (maxSteps := 1000000) (disch := first | assumption | decide | with_unfolding_all rfl | omega | (simp only [LN] <;> omega) | (simp only [RO, OF])) only [RR, RM, LN, TT, d95_at, ↓reduceIte, Nat.reduceEqDiff, Nat.reduceLT, Nat.reduceLeDiff, Nat.reduceAdd, Nat.reduceSub, Nat.reduceMul, Nat.reduceMod, Nat.reduceDiv, Nat.reduceBEq, RH, h11'', h11', h12'', h12', h13'', h13']
            refine J.jmp (t := ()) hj2 ?_ ?_
            · first | rfl | (simp only [LN, NN, NT])
            · first | (simp (disch := first | assumption | decide | with_unfolding_all rfl | omega | (simp only [LN] <;> omega) | (simp only [RO, OF])) only [RR, ↓reduceIte, Nat.reduceEqDiff, Nat.reduceLT, Nat.reduceLeDiff, Nat.reduceAdd, Nat.reduceSub, Nat.reduceMul, Nat.reduceMod, Nat.reduceDiv, Nat.reduceBEq, LN, NN, NT]; done) | (simp (disch := first | assumption | decide | with_unfolding_all rfl | omega | (simp only [LN] <;> omega) | (simp only [RO, OF])) only [RR, ↓reduceIte, Nat.reduceEqDiff, Nat.reduceLT, Nat.reduceLeDiff, Nat.reduceAdd, Nat.reduceSub, Nat.reduceMul, Nat.reduceMod, Nat.reduceDiv, Nat.reduceBEq, LN, fm_app, NN, NT]; done) | rfl
          · have h13' := decide_eq_false h13
            have h13'' : decide (x10 ≤ 0) = true := decide_eq_true (by omega)
            conv => arg 1; simp (maxSteps := 1000000) (disch := first | assumption | decide | with_unfolding_all rfl | omega | (simp only [LN] <;> omega) | (simp only [RO, OF])) only [RR, RM, LN, TT, d95_at, ↓reduceIte, Nat.reduceEqDiff, Nat.reduceLT, Nat.reduceLeDiff, Nat.reduceAdd, Nat.reduceSub, Nat.reduceMul, Nat.reduceMod, Nat.reduceDiv, Nat.reduceBEq, RH, h11'', h11', h12'', h12', h13'', h13']
            refine J.jmp (t := x9) hj1 ?_ ?_
            · first | rfl | (simp only [LN, NN, NT])
            · first | (simp (disch := first | assumption | decide | with_unfolding_all rfl | omega | (simp only [LN] <;> omega) | (simp only [RO, OF])) only [RR, ↓reduceIte, Nat.reduceEqDiff, Nat.reduceLT, Nat.reduceLeDiff, Nat.reduceAdd, Nat.reduceSub, Nat.reduceMul, Nat.reduceMod, Nat.reduceDiv, Nat.reduceBEq, LN, NN, NT]; done) | (simp (disch := first | assumption | decide | with_unfolding_all rfl | omega | (simp only [LN] <;> omega) | (simp only [RO, OF])) only [RR, ↓reduceIte, Nat.reduceEqDiff, Nat.reduceLT, Nat.reduceLeDiff, Nat.reduceAdd, Nat.reduceSub, Nat.reduceMul, Nat.reduceMod, Nat.reduceDiv, Nat.reduceBEq, LN, fm_app, NN, NT]; done) | rfl
noncomputable def t95 (fu : Nat) : CallP := orE 167 (mkC (fun (t : List Int) => ([.arr t.length (lm (ik .u32) t)] : List AV)) (fun t => ref01_trim fu t) e167) (noP)
theorem t95_ok (fu : Nat) : CpOK Tryz.prog (t95 fu ) := orE_ok (noP_ok) (mkC_ok (fun t b h => ok167 fu t  b h))
theorem ok95 (fu : Nat) (x1 : List Int) (x2 : List Int) (r) (h : ref01_Plus fu x1 x2 = some r) : PureOK Tryz.prog 95 [.arr x1.length (lm (ik .u32) x1), .arr x2.length (lm (ik .u32) x2)] (e95 r) :=
  pure_J mixed (cp := t95 fu ) (t95_ok fu  ) noI_ok i95 (w95 _ fu x1 x2  (fun a0 r h => orE_hit (mkC_at (a := a0) (by intro a b h; first | (exact rfl) | (simp only [INJ, IJ] at h; first | exact h | (simp_all [Prod.ext_iff]) )) h))) h
/-! 136: lattice/latticeref01.Times -/
def d136 : List (Nat × List Nat) := [(0, [4]), (0, [0, 1, 6]), (0, [10, 11, 12, 13, 14, 15]), (0, []), (0, []), (0, [8]), (0, [16, 17, 18]), (0, []), (0, [20, 21]), (0, []), (0, []), (0, []), (0, []), (0, []), (0, [22, 23, 24]), (0, []), (0, [26, 27]), (0, []), (22, [28, 29, 30, 31, 32, 33, 34, 35, 36, 37, 38, 39, 40, 41, 42, 43, 44, 45, 46, 47, 48]), (0, []), (0, [49, 50, 51, 52, 53, 54, 55, 56]), (0, []), (0, [9, 57, 58]), (0, []), (0, [7, 59, 60, 61, 62, 63, 64, 65, 66]), (0, []), (0, [5, 67, 68])]
def d136_at := And.intro (show d136.getD 0 (0, []) = (0, [4]) from rfl) <| And.intro (show d136.getD 1 (0, []) = (0, [0, 1, 6]) from rfl) <| And.intro (show d136.getD 2 (0, []) = (0, [10, 11, 12, 13, 14, 15]) from rfl) <| And.intro (show d136.getD 3 (0, []) = (0, []) from rfl) <| And.intro (show d136.getD 4 (0, []) = (0, []) from rfl) <| And.intro (show d136.getD 5 (0, []) = (0, [8]) from rfl) <| And.intro (show d136.getD 6 (0, []) = (0, [16, 17, 18]) from rfl) <| And.intro (show d136.getD 7 (0, []) = (0, []) from rfl) <| And.intro (show d136.getD 8 (0, []) = (0, [20, 21]) from rfl) <| And.intro (show d136.getD 9 (0, []) = (0, []) from rfl) <| And.intro (show d136.getD 10 (0, []) = (0, []) from rfl) <| And.intro (show d136.getD 11 (0, []) = (0, []) from rfl) <| And.intro (show d136.getD 12 (0, []) = (0, []) from rfl) <| And.intro (show d136.getD 13 (0, []) = (0, []) from rfl) <| And.intro (show d136.getD 14 (0, []) = (0, [22, 23, 24]) from rfl) <| And.intro (show d136.getD 15 (0, []) = (0, []) from rfl) <| And.intro (show d136.getD 16 (0, []) = (0, [26, 27]) from rfl) <| And.intro (show d136.getD 17 (0, []) = (0, []) from rfl) <| And.intro (show d136.getD 18 (0, []) = (22, [28, 29, 30, 31, 32, 33, 34, 35, 36, 37, 38, 39, 40, 41, 42, 43, 44, 45, 46, 47, 48]) from rfl) <| And.intro (show d136.getD 19 (0, []) = (0, []) from rfl) <| And.intro (show d136.getD 20 (0, []) = (0, [49, 50, 51, 52, 53, 54, 55, 56]) from rfl) <| And.intro (show d136.getD 21 (0, []) = (0, []) from rfl) <| And.intro (show d136.getD 22 (0, []) = (0, [9, 57, 58]) from rfl) <| And.intro (show d136.getD 23 (0, []) = (0, []) from rfl) <| And.intro (show d136.getD 24 (0, []) = (0, [7, 59, 60, 61, 62, 63, 64, 65, 66]) from rfl) <| And.intro (show d136.getD 25 (0, []) = (0, []) from rfl) <| (show d136.getD 26 (0, []) = (0, [5, 67, 68]) from rfl)
theorem i136 : finfo Tryz.prog 136 d136 = some ⟨bodyOf Tryz.f136, [.tmp 4], [119]⟩ := finfo_at Tryz.func136 rfl (by kernel_rfl) (by kernel_rfl)
def e136 : (List Int) → AV := fun r => .arr r.length (lm (ik .u32) r)
set_option maxHeartbeats 20000000 in
theorem w136 (cp : CallP) (fu : Nat) (x1 : List Int) (x2 : List Int) (H167_0 : ∀ (a0 : List Int) r, ref01_trim fu a0 = some r → cp 167 [.arr a0.length (lm (ik .u32) a0)] = some (.arr r.length (lm (ik .u32) r))) : J (go Tryz.prog noC cp noI 0 [] d136 fu (fin Tryz.prog [.tmp 4] [119]) (bodyOf Tryz.f136) (initE 0 [.arr x1.length (lm (ik .u32) x1), .arr x2.length (lm (ik .u32) x2)]) [] []) (ref01_Times fu x1 x2) e136 := by
  unfold ref01_Times e136
  refine J.chk fun h1 => ?_
  conv => arg 1; simp (maxSteps := 1000000) (disch := first | assumption | decide | with_unfolding_all rfl | omega | (simp only [LN] <;> omega) | (simp only [RO, OF])) only [bodyOf, Tryz.f136, RR, RM, LN, TT, d136_at, ↓reduceIte, Nat.reduceEqDiff, Nat.reduceLT, Nat.reduceLeDiff, Nat.reduceAdd, Nat.reduceSub, Nat.reduceMul, Nat.reduceMod, Nat.reduceDiv, Nat.reduceBEq, RH]
  refine J.joinS (fun (t : List Int) => ([(5, .own (0, 15, 0) 0 t.length t.length)], [((0, 15, 0), .sl true true 1 t.length (lm (ik .u32) t))])) (fun t => ref01_Times_k1 fu t) ?_ (fun hj1 => ?_)
  · rintro x3
    show J _ (ref01_Times_k1 fu x3) _
    unfold ref01_Times_k1
    refine J.bind fun x4 h2 => ?_
    have e_h2 := H167_0 _ _ h2
    try simp only [NN, NT, LN] at e_h2
    refine J.some ?_
    simp (maxSteps := 20000000) (disch := first | assumption | decide | with_unfolding_all rfl | omega | (simp only [LN] <;> omega) | (simp only [RO, OF])) only [RR, RM, LN, TT, d136_at, ↓reduceIte, Nat.reduceEqDiff, Nat.reduceLT, Nat.reduceLeDiff, Nat.reduceAdd, Nat.reduceSub, Nat.reduceMul, Nat.reduceMod, Nat.reduceDiv, Nat.reduceBEq, RH, e_h2, FF, LN, NN, NT]
  · conv => arg 1; simp (maxSteps := 1000000) (disch := first | assumption | decide | with_unfolding_all rfl | omega | (simp only [LN] <;> omega) | (simp only [RO, OF])) only [RR, RM, LN, TT, d136_at, ↓reduceIte, Nat.reduceEqDiff, Nat.reduceLT, Nat.reduceLeDiff, Nat.reduceAdd, Nat.reduceSub, Nat.reduceMul, Nat.reduceMod, Nat.reduceDiv, Nat.reduceBEq, RH]
    unfold ref01_Times_W1
    refine J.loop (fun (s : (List Int) × Int) => ([(0, .arr x1.length (lm (ik .u32) x1)), (1, .arr x2.length (lm (ik .u32) x2)), (5, .own (0, 15, 0) 0 s.1.length s.1.length), (6, .v (.int .i64 s.2))], [((0, 15, 0), .sl true true 1 s.1.length (lm (ik .u32) s.1))])) (fun next s => ref01_Times_L1 fu x1 x2 (fun x19 x20 => next (x19, x20)) s.1 s.2) (s0 := (List.replicate (wk .i64 ((x1.length : Int) + (x2.length : Int))).toNat (0 : Int), 0)) ?_ ?_ ?_
    · first | rfl | (simp only [LN, NN, NT])
    · first | (simp (disch := first | assumption | decide | with_unfolding_all rfl | omega | (simp only [LN] <;> omega) | (simp only [RO, OF])) only [RR, ↓reduceIte, Nat.reduceEqDiff, Nat.reduceLT, Nat.reduceLeDiff, Nat.reduceAdd, Nat.reduceSub, Nat.reduceMul, Nat.reduceMod, Nat.reduceDiv, Nat.reduceBEq, LN, NN, NT]; done) | (simp (disch := first | assumption | decide | with_unfolding_all rfl | omega | (simp only [LN] <;> omega) | (simp only [RO, OF])) only [RR, ↓reduceIte, Nat.reduceEqDiff, Nat.reduceLT, Nat.reduceLeDiff, Nat.reduceAdd, Nat.reduceSub, Nat.reduceMul, Nat.reduceMod, Nat.reduceDiv, Nat.reduceBEq, LN, fm_app, NN, NT]; done) | rfl
    rintro next k1 hn1 ⟨x19, x20⟩
    let nx1 : (List Int) → Int → Option (List Int) := (fun x19 x20 => next (x19, x20))
    show J _ (ref01_Times_L1 fu x1 x2 nx1 x19 x20) _
    unfold ref01_Times_L1
    refine J.eq go_seq ?_
    conv => arg 1; simp (maxSteps := 1000000) (disch := first | assumption | decide | with_unfolding_all rfl | omega | (simp only [LN] <;> omega) | (simp only [RO, OF])) only [RR, RM, LN, TT, d136_at, ↓reduceIte, Nat.reduceEqDiff, Nat.reduceLT, Nat.reduceLeDiff, Nat.reduceAdd, Nat.reduceSub, Nat.reduceMul, Nat.reduceMod, Nat.reduceDiv, Nat.reduceBEq, RH]
    refine J.ite (fun h3 => ?_) (fun h3 => ?_)
    · have h3' := decide_eq_true h3
      have h3'' : decide ((x1.length : Int) ≤ x20) = false := decide_eq_false (by omega)
      conv => arg 1; simp (maxSteps := 1000000) (disch := first | assumption | decide | with_unfolding_all rfl | omega | (simp only [LN] <;> omega) | (simp only [RO, OF])) only [RR, RM, LN, TT, d136_at, ↓reduceIte, Nat.reduceEqDiff, Nat.reduceLT, Nat.reduceLeDiff, Nat.reduceAdd, Nat.reduceSub, Nat.reduceMul, Nat.reduceMod, Nat.reduceDiv, Nat.reduceBEq, RH, h3'', h3']
      refine J.eq ret_seq ?_
      refine J.eq go_seq ?_
      conv => arg 1; simp (maxSteps := 1000000) (disch := first | assumption | decide | with_unfolding_all rfl | omega | (simp only [LN] <;> omega) | (simp only [RO, OF])) only [RR, RM, LN, TT, d136_at, ↓reduceIte, Nat.reduceEqDiff, Nat.reduceLT, Nat.reduceLeDiff, Nat.reduceAdd, Nat.reduceSub, Nat.reduceMul, Nat.reduceMod, Nat.reduceDiv, Nat.reduceBEq, RH, h3'', h3']
      refine J.joinS (fun (t : (List Int) × Int) => ([(0, .arr x1.length (lm (ik .u32) x1)), (1, .arr x2.length (lm (ik .u32) x2)), (5, .own (0, 15, 0) 0 t.1.length t.1.length), (6, .v (.int .i64 x20)), (7, .v (.int .u64 t.2))], [((0, 15, 0), .sl true true 1 t.1.length (lm (ik .u32) t.1))])) (fun t => ref01_Times_k2 fu nx1 x2 x20 t.1 t.2) ?_ (fun hj2 => ?_)
      · rintro ⟨x35, x36⟩
        show J _ (ref01_Times_k2 fu nx1 x2 x20 x35 x36) _
        unfold ref01_Times_k2
        refine J.chk fun h4 => ?_
        conv => arg 1; simp (maxSteps := 1000000) (disch := first | assumption | decide | with_unfolding_all rfl | omega | (simp only [LN] <;> omega) | (simp only [RO, OF])) only [RR, RM, LN, TT, d136_at, ↓reduceIte, Nat.reduceEqDiff, Nat.reduceLT, Nat.reduceLeDiff, Nat.reduceAdd, Nat.reduceSub, Nat.reduceMul, Nat.reduceMod, Nat.reduceDiv, Nat.reduceBEq, RH, h3'', h3']
        refine J.eq ret_seq ?_
        conv => arg 1; simp (maxSteps := 1000000) (disch := first | assumption | decide | with_unfolding_all rfl | omega | (simp only [LN] <;> omega) | (simp only [RO, OF])) only [RR, RM, LN, TT, d136_at, ↓reduceIte, Nat.reduceEqDiff, Nat.reduceLT, Nat.reduceLeDiff, Nat.reduceAdd, Nat.reduceSub, Nat.reduceMul, Nat.reduceMod, Nat.reduceDiv, Nat.reduceBEq, RH, h3'', h3']
        refine J.next (s := (x35.set (wk .i64 (x20 + (x2.length : Int))).toNat (wk .u32 x36), wk .i64 (x20 + 1))) hn1 ?_ ?_
        · first | rfl | (simp only [LN, NN, NT])
        · first | (simp (disch := first | assumption | decide | with_unfolding_all rfl | omega | (simp only [LN] <;> omega) | (simp only [RO, OF])) only [RR, ↓reduceIte, Nat.reduceEqDiff, Nat.reduceLT, Nat.reduceLeDiff, Nat.reduceAdd, Nat.reduceSub, Nat.reduceMul, Nat.reduceMod, Nat.reduceDiv, Nat.reduceBEq, LN, NN, NT]; done) | (simp (disch := first | assumption | decide | with_unfolding_all rfl | omega | (simp only [LN] <;> omega) | (simp only [RO, OF])) only [RR, ↓reduceIte, Nat.reduceEqDiff, Nat.reduceLT, Nat.reduceLeDiff, Nat.reduceAdd, Nat.reduceSub, Nat.reduceMul, Nat.reduceMod, Nat.reduceDiv, Nat.reduceBEq, LN, fm_app, NN, NT]; done) | rfl
      · conv => arg 1; simp (maxSteps := 1000000) (disch := first | assumption | decide | with_unfolding_all rfl | omega | (simp only [LN] <;> omega) | (simp only [RO, OF])) only [RR, RM, LN, TT, d136_at, ↓reduceIte, Nat.reduceEqDiff, Nat.reduceLT, Nat.reduceLeDiff, Nat.reduceAdd, Nat.reduceSub, Nat.reduceMul, Nat.reduceMod, Nat.reduceDiv, Nat.reduceBEq, RH, h3'', h3']
        unfold ref01_Times_W2
        refine J.loop (fun (s : (List Int) × Int × Int) => ([(0, .arr x1.length (lm (ik .u32) x1)), (1, .arr x2.length (lm (ik .u32) x2)), (5, .own (0, 15, 0) 0 s.1.length s.1.length), (6, .v (.int .i64 x20)), (7, .v (.int .u64 s.2.1)), (8, .v (.int .i64 s.2.2))], [((0, 15, 0), .sl true true 1 s.1.length (lm (ik .u32) s.1))])) (fun next s => ref01_Times_L2 fu nx1 x1 x2 x20 (fun x40 x41 x42 => next (x40, x41, x42)) s.1 s.2.1 s.2.2) (s0 := (x19, 0, 0)) ?_ ?_ ?_
        · first | rfl | (simp only [LN, NN, NT])
        · first | (simp (disch := first | assumption | decide | with_unfolding_all rfl | omega | (simp only [LN] <;> omega) | (simp only [RO, OF])) only [RR, ↓reduceIte, Nat.reduceEqDiff, Nat.reduceLT, Nat.reduceLeDiff, Nat.reduceAdd, Nat.reduceSub, Nat.reduceMul, Nat.reduceMod, Nat.reduceDiv, Nat.reduceBEq, LN, NN, NT]; done) | (simp (disch := first | assumption | decide | with_unfolding_all rfl | omega | (simp only [LN] <;> omega) | (simp only [RO, OF])) only [RR, ↓reduceIte, Nat.reduceEqDiff, Nat.reduceLT, Nat.reduceLeDiff, Nat.reduceAdd, Nat.reduceSub, Nat.reduceMul, Nat.reduceMod, Nat.reduceDiv, Nat.reduceBEq, LN, fm_app, NN, NT]; done) | rfl
        rintro next k2 hn2 ⟨x40, x41, x42⟩
        let nx2 : (List Int) → Int → Int → Option (List Int) := (fun x40 x41 x42 => next (x40, x41, x42))
        show J _ (ref01_Times_L2 fu nx1 x1 x2 x20 nx2 x40 x41 x42) _
        unfold ref01_Times_L2
        refine J.eq go_seq ?_
        conv => arg 1; simp (maxSteps := 1000000) (disch := first | assumption | decide | with_unfolding_all rfl | omega | (simp only [LN] <;> omega) | (simp only [RO, OF])) only [RR, RM, LN, TT, d136_at, ↓reduceIte, Nat.reduceEqDiff, Nat.reduceLT, Nat.reduceLeDiff, Nat.reduceAdd, Nat.reduceSub, Nat.reduceMul, Nat.reduceMod, Nat.reduceDiv, Nat.reduceBEq, RH, h3'', h3']
        refine J.ite (fun h5 => ?_) (fun h5 => ?_)
        · have h5' := decide_eq_true h5
          have h5'' : decide ((x2.length : Int) ≤ x42) = false := decide_eq_false (by omega)
          conv => arg 1; simp (maxSteps := 1000000) (disch := first | assumption | decide | with_unfolding_all rfl | omega | (simp only [LN] <;> omega) | (simp only [RO, OF])) only [RR, RM, LN, TT, d136_at, ↓reduceIte, Nat.reduceEqDiff, Nat.reduceLT, Nat.reduceLeDiff, Nat.reduceAdd, Nat.reduceSub, Nat.reduceMul, Nat.reduceMod, Nat.reduceDiv, Nat.reduceBEq, RH, h3'', h3', h5'', h5']
          refine J.eq ret_seq ?_
          refine J.eq go_seq ?_
          refine J.at fun x46 h6 h7 h8 => ?_
          refine J.at fun x47 h9 h10 h11 => ?_
          refine J.at fun x48 h12 h13 h14 => ?_
          refine J.chk fun h15 => ?_
          conv => arg 1; simp (maxSteps := 1000000) (disch := first | assumption | decide | with_unfolding_all rfl | omega | (simp only [LN] <;> omega) | (simp only [RO, OF])) only [RR, RM, LN, TT, d136_at, ↓reduceIte, Nat.reduceEqDiff, Nat.reduceLT, Nat.reduceLeDiff, Nat.reduceAdd, Nat.reduceSub, Nat.reduceMul, Nat.reduceMod, Nat.reduceDiv, Nat.reduceBEq, RH, h3'', h3', h5'', h5', lm_ik h8, lm_ik h11, lm_ik h14]
          refine J.eq ret_seq ?_
          conv => arg 1; simp (maxSteps := 1000000) (disch := first | assumption | decide | with_unfolding_all rfl | omega | (simp only [LN] <;> omega) | (simp only [RO, OF])) only [RR, RM, LN, TT, d136_at, ↓reduceIte, Nat.reduceEqDiff, Nat.reduceLT, Nat.reduceLeDiff, Nat.reduceAdd, Nat.reduceSub, Nat.reduceMul, Nat.reduceMod, Nat.reduceDiv, Nat.reduceBEq, RH, h3'', h3', h5'', h5', lm_ik h8, lm_ik h11, lm_ik h14]
          refine J.next (s := (x40.set (wk .i64 (x20 + x42)).toNat (wk .u32 (Int.tmod (wk .u64 ((wk .u64 ((wk .u64 ((wk .u64 x46) * (wk .u64 x47))) + (wk .u64 x48))) + x41)) 4294967296)), wk .u64 (Int.tdiv (wk .u64 ((wk .u64 ((wk .u64 ((wk .u64 x46) * (wk .u64 x47))) + (wk .u64 x48))) + x41)) 4294967296), wk .i64 (x42 + 1))) hn2 ?_ ?_
          · first | rfl | (simp only [LN, NN, NT])
          · first | (simp (disch := first | assumption | decide | with_unfolding_all rfl | omega | (simp only [LN] <;> omega) | (simp only [RO, OF])) only [RR, ↓reduceIte, Nat.reduceEqDiff, Nat.reduceLT, Nat.reduceLeDiff, Nat.reduceAdd, Nat.reduceSub, Nat.reduceMul, Nat.reduceMod, Nat.reduceDiv, Nat.reduceBEq, LN, NN, NT]; done) | (simp (disch := first | assumption | decide | with_unfolding_all rfl | omega | (simp only [LN] <;> omega) | (simp only [RO, OF])) only [RR, ↓reduceIte, Nat.reduceEqDiff, Nat.reduceLT, Nat.reduceLeDiff, Nat.reduceAdd, Nat.reduceSub, Nat.reduceMul, Nat.reduceMod, Nat.reduceDiv, Nat.reduceBEq, LN, fm_app, NN, NT]; done) | rfl
        · have h5' := decide_eq_false h5
          have h5'' : decide ((x2.length : Int) ≤ x42) = true := decide_eq_true (by omega)
          conv => arg 1; simp (maxSteps := 1000000) (disch := first | assumption | decide | with_unfolding_all rfl | omega | (simp only [LN] <;> omega) | (simp only [RO, OF])) only [RR, RM, LN, TT, d136_at, ↓reduceIte, Nat.reduceEqDiff, Nat.reduceLT, Nat.reduceLeDiff, Nat.reduceAdd, Nat.reduceSub, Nat.reduceMul, Nat.reduceMod, Nat.reduceDiv, Nat.reduceBEq, RH, h3'', h3', h5'', h5']
          refine J.jmp (t := (x40, x41)) hj2 ?_ ?_
          · first | rfl | (simp only [LN, NN, NT])
          · first | (simp (disch := first | assumption | decide | with_unfolding_all rfl | omega | (simp only [LN] <;> omega) | (simp only [RO, OF])) only [RR, ↓reduceIte, Nat.reduceEqDiff, Nat.reduceLT, Nat.reduceLeDiff, Nat.reduceAdd, Nat.reduceSub, Nat.reduceMul, Nat.reduceMod, Nat.reduceDiv, Nat.reduceBEq, LN, NN, NT]; done) | (simp (disch := first | assumption | decide | with_unfolding_all rfl | omega | (simp only [LN] <;> omega) | (simp only [RO, OF])) only [RR, ↓reduceIte, Nat.reduceEqDiff, Nat.reduceLT, Nat.reduceLeDiff, Nat.reduceAdd, Nat.reduceSub, Nat.reduceMul, Nat.reduceMod, Nat.reduceDiv, Nat.reduceBEq, LN, fm_app, NN, NT]; done) | rfl
    · have h3' := decide_eq_false h3
      have h3'' : decide ((x1.length : Int) ≤ x20) = true := decide_eq_true (by omega)
      conv => arg 1; simp (maxSteps := 1000000) (disch := first | assumption | decide | with_unfolding_all rfl | omega | (simp only [LN] <;> omega) | (simp only [RO, OF])) only [RR, RM, LN, TT, d136_at, ↓reduceIte, Nat.reduceEqDiff, Nat.reduceLT, Nat.reduceLeDiff, Nat.reduceAdd, Nat.reduceSub, Nat.reduceMul, Nat.reduceMod, Nat.reduceDiv, Nat.reduceBEq, RH, h3'', h3']
      refine J.jmp (t := x19) hj1 ?_ ?_
      · first | rfl | (simp only [LN, NN, NT])
      · first | (simp (disch := first | assumption | decide | with_unfolding_all rfl | omega | (simp only [LN] <;> omega) | (simp only [RO, OF])) only [RR, ↓reduceIte, Nat.reduceEqDiff, Nat.reduceLT, Nat.reduceLeDiff, Nat.reduceAdd, Nat.reduceSub, Nat.reduceMul, Nat.reduceMod, Nat.reduceDiv, Nat.reduceBEq, LN, NN, NT]; done) | (simp (disch := first | assumption | decide | with_unfolding_all rfl | omega | (simp only [LN] <;> omega) | (simp only [RO, OF])) only [RR, ↓reduceIte, Nat.reduceEqDiff, Nat.reduceLT, Nat.reduceLeDiff, Nat.reduceAdd, Nat.reduceSub, Nat.reduceMul, Nat.reduceMod, Nat.reduceDiv, Nat.reduceBEq, LN, fm_app, NN, NT]; done) | rfl
noncomputable def t136 (fu : Nat) : CallP := orE 167 (mkC (fun (t : List Int) => ([.arr t.length (lm (ik .u32) t)] : List AV)) (fun t => ref01_trim fu t) e167) (noP)
theorem t136_ok (fu : Nat) : CpOK Tryz.prog (t136 fu ) := orE_ok (noP_ok) (mkC_ok (fun t b h => ok167 fu t  b h))
theorem ok136 (fu : Nat) (x1 : List Int) (x2 : List Int) (r) (h : ref01_Times fu x1 x2 = some r) : PureOK Tryz.prog 136 [.arr x1.length (lm (ik .u32) x1), .arr x2.length (lm (ik .u32) x2)] (e136 r) :=
  pure_J mixed (cp := t136 fu ) (t136_ok fu  ) noI_ok i136 (w136 _ fu x1 x2  (fun a0 r h => orE_hit (mkC_at (a := a0) (by intro a b h; first | (exact rfl) | (simp only [INJ, IJ] at h; first | exact h | (simp_all [Prod.ext_iff]) )) h))) h
/-! 97: lattice/latticeref01.Compare -/
def d97 : List (Nat × List Nat) := [(0, [4]), (0, [0, 1, 5]), (0, [6, 7, 8, 9]), (0, []), (0, [11, 12, 13, 14]), (0, []), (0, []), (0, []), (0, []), (0, []), (0, [16, 17, 18]), (0, []), (0, [19]), (0, []), (0, [21, 22]), (0, []), (9, [23, 24, 25, 26, 27, 28, 29, 30]), (0, []), (0, []), (0, []), (9, [32, 33, 34, 35, 36, 37, 38, 39]), (0, []), (0, []), (0, []), (0, [])]
def d97_at := And.intro (show d97.getD 0 (0, []) = (0, [4]) from rfl) <| And.intro (show d97.getD 1 (0, []) = (0, [0, 1, 5]) from rfl) <| And.intro (show d97.getD 2 (0, []) = (0, [6, 7, 8, 9]) from rfl) <| And.intro (show d97.getD 3 (0, []) = (0, []) from rfl) <| And.intro (show d97.getD 4 (0, []) = (0, [11, 12, 13, 14]) from rfl) <| And.intro (show d97.getD 5 (0, []) = (0, []) from rfl) <| And.intro (show d97.getD 6 (0, []) = (0, []) from rfl) <| And.intro (show d97.getD 7 (0, []) = (0, []) from rfl) <| And.intro (show d97.getD 8 (0, []) = (0, []) from rfl) <| And.intro (show d97.getD 9 (0, []) = (0, []) from rfl) <| And.intro (show d97.getD 10 (0, []) = (0, [16, 17, 18]) from rfl) <| And.intro (show d97.getD 11 (0, []) = (0, []) from rfl) <| And.intro (show d97.getD 12 (0, []) = (0, [19]) from rfl) <| And.intro (show d97.getD 13 (0, []) = (0, []) from rfl) <| And.intro (show d97.getD 14 (0, []) = (0, [21, 22]) from rfl) <| And.intro (show d97.getD 15 (0, []) = (0, []) from rfl) <| And.intro (show d97.getD 16 (0, []) = (9, [23, 24, 25, 26, 27, 28, 29, 30]) from rfl) <| And.intro (show d97.getD 17 (0, []) = (0, []) from rfl) <| And.intro (show d97.getD 18 (0, []) = (0, []) from rfl) <| And.intro (show d97.getD 19 (0, []) = (0, []) from rfl) <| And.intro (show d97.getD 20 (0, []) = (9, [32, 33, 34, 35, 36, 37, 38, 39]) from rfl) <| And.intro (show d97.getD 21 (0, []) = (0, []) from rfl) <| And.intro (show d97.getD 22 (0, []) = (0, []) from rfl) <| And.intro (show d97.getD 23 (0, []) = (0, []) from rfl) <| (show d97.getD 24 (0, []) = (0, []) from rfl)
theorem i97 : finfo Tryz.prog 97 d97 = some ⟨bodyOf Tryz.f97, [.tmp 4], [3]⟩ := finfo_at Tryz.func97 rfl (by kernel_rfl) (by kernel_rfl)
def e97 : Int → AV := fun r => .v (.int .i64 r)
set_option maxHeartbeats 20000000 in
theorem w97 (cp : CallP) (fu : Nat) (x1 : List Int) (x2 : List Int) : J (go Tryz.prog noC cp noI 0 [] d97 fu (fin Tryz.prog [.tmp 4] [3]) (bodyOf Tryz.f97) (initE 0 [.arr x1.length (lm (ik .u32) x1), .arr x2.length (lm (ik .u32) x2)]) [] []) (ref01_Compare fu x1 x2) e97 := by
  unfold ref01_Compare e97
  conv => arg 1; simp (maxSteps := 1000000) (disch := first | assumption | decide | with_unfolding_all rfl | omega | (simp only [LN] <;> omega) | (simp only [RO, OF])) only [bodyOf, Tryz.f97, RR, RM, LN, TT, d97_at, ↓reduceIte, Nat.reduceEqDiff, Nat.reduceLT, Nat.reduceLeDiff, Nat.reduceAdd, Nat.reduceSub, Nat.reduceMul, Nat.reduceMod, Nat.reduceDiv, Nat.reduceBEq, RH]
  refine J.eq go_seq ?_
  conv => arg 1; simp (maxSteps := 1000000) (disch := first | assumption | decide | with_unfolding_all rfl | omega | (simp only [LN] <;> omega) | (simp only [RO, OF])) only [RR, RM, LN, TT, d97_at, ↓reduceIte, Nat.reduceEqDiff, Nat.reduceLT, Nat.reduceLeDiff, Nat.reduceAdd, Nat.reduceSub, Nat.reduceMul, Nat.reduceMod, Nat.reduceDiv, Nat.reduceBEq, RH]
  refine J.ite (fun h1 => ?_) (fun h1 => ?_)
  · have h1' := decide_eq_true h1
    conv => arg 1; simp (maxSteps := 1000000) (disch := first | assumption | decide | with_unfolding_all rfl | omega | (simp only [LN] <;> omega) | (simp only [RO, OF])) only [RR, RM, LN, TT, d97_at, ↓reduceIte, Nat.reduceEqDiff, Nat.reduceLT, Nat.reduceLeDiff, Nat.reduceAdd, Nat.reduceSub, Nat.reduceMul, Nat.reduceMod, Nat.reduceDiv, Nat.reduceBEq, RH, h1']
    refine J.eq ret_seq ?_
    refine J.eq go_seq ?_
    conv => arg 1; simp (maxSteps := 1000000) (disch := first | assumption | decide | with_unfolding_all rfl | omega | (simp only [LN] <;> omega) | (simp only [RO, OF])) only [RR, RM, LN, TT, d97_at, ↓reduceIte, Nat.reduceEqDiff, Nat.reduceLT, Nat.reduceLeDiff, Nat.reduceAdd, Nat.reduceSub, Nat.reduceMul, Nat.reduceMod, Nat.reduceDiv, Nat.reduceBEq, RH, h1']
    unfold ref01_Compare_W1
    refine J.loop (fun (s : Int) => ([(0, .arr x1.length (lm (ik .u32) x1)), (1, .arr x2.length (lm (ik .u32) x2)), (5, .v (.int .i64 s))], [])) (fun next s => ref01_Compare_L1 fu x1 x2 next s) (s0 := wk .i64 ((x1.length : Int) - 1)) ?_ ?_ ?_
    · first | rfl | (simp only [LN, NN, NT])
    · first | (simp (disch := first | assumption | decide | with_unfolding_all rfl | omega | (simp only [LN] <;> omega) | (simp only [RO, OF])) only [RR, ↓reduceIte, Nat.reduceEqDiff, Nat.reduceLT, Nat.reduceLeDiff, Nat.reduceAdd, Nat.reduceSub, Nat.reduceMul, Nat.reduceMod, Nat.reduceDiv, Nat.reduceBEq, LN, NN, NT]; done) | (simp (disch := first | assumption | decide | with_unfolding_all rfl | omega | (simp only [LN] <;> omega) | (simp only [RO, OF])) only [RR, ↓reduceIte, Nat.reduceEqDiff, Nat.reduceLT, Nat.reduceLeDiff, Nat.reduceAdd, Nat.reduceSub, Nat.reduceMul, Nat.reduceMod, Nat.reduceDiv, Nat.reduceBEq, LN, fm_app, NN, NT]; done) | rfl
    rintro nx1 k1 hn1 x5
    show J _ (ref01_Compare_L1 fu x1 x2 nx1 x5) _
    unfold ref01_Compare_L1
    refine J.eq go_seq ?_
    conv => arg 1; simp (maxSteps := 1000000) (disch := first | assumption | decide | with_unfolding_all rfl | omega | (simp only [LN] <;> omega) | (simp only [RO, OF])) only [RR, RM, LN, TT, d97_at, ↓reduceIte, Nat.reduceEqDiff, Nat.reduceLT, Nat.reduceLeDiff, Nat.reduceAdd, Nat.reduceSub, Nat.reduceMul, Nat.reduceMod, Nat.reduceDiv, Nat.reduceBEq, RH, h1']
    refine J.ite (fun h2 => ?_) (fun h2 => ?_)
    · have h2' := decide_eq_true h2
      have h2'' : decide (x5 < 0) = false := decide_eq_false (by omega)
      conv => arg 1; simp (maxSteps := 1000000) (disch := first | assumption | decide | with_unfolding_all rfl | omega | (simp only [LN] <;> omega) | (simp only [RO, OF])) only [RR, RM, LN, TT, d97_at, ↓reduceIte, Nat.reduceEqDiff, Nat.reduceLT, Nat.reduceLeDiff, Nat.reduceAdd, Nat.reduceSub, Nat.reduceMul, Nat.reduceMod, Nat.reduceDiv, Nat.reduceBEq, RH, h1', h2'', h2']
      refine J.eq ret_seq ?_
      refine J.eq go_seq ?_
      conv => arg 1; simp (maxSteps := 1000000) (disch := first | assumption | decide | with_unfolding_all rfl | omega | (simp only [LN] <;> omega) | (simp only [RO, OF])) only [RR, RM, LN, TT, d97_at, ↓reduceIte, Nat.reduceEqDiff, Nat.reduceLT, Nat.reduceLeDiff, Nat.reduceAdd, Nat.reduceSub, Nat.reduceMul, Nat.reduceMod, Nat.reduceDiv, Nat.reduceBEq, RH, h1', h2'', h2']
      refine J.eq go_seq ?_
      refine J.at fun x8 h3 h4 h5 => ?_
      refine J.at fun x9 h6 h7 h8 => ?_
      conv => arg 1; simp (maxSteps := 1000000) (disch := first | assumption | decide | with_unfolding_all rfl | omega | (simp only [LN] <;> omega) | (simp only [RO, OF])) only [RR, RM, LN, TT, d97_at, ↓reduceIte, Nat.reduceEqDiff, Nat.reduceLT, Nat.reduceLeDiff, Nat.reduceAdd, Nat.reduceSub, Nat.reduceMul, Nat.reduceMod, Nat.reduceDiv, Nat.reduceBEq, RH, h1', h2'', h2', lm_ik h5, lm_ik h8]
      refine J.ite (fun h9 => ?_) (fun h9 => ?_)
      · have h9' := decide_eq_true h9
        have h9'' : decide (x9 ≤ x8) = false := decide_eq_false (by omega)
        refine J.some ?_
        simp (maxSteps := 20000000) (disch := first | assumption | decide | with_unfolding_all rfl | omega | (simp only [LN] <;> omega) | (simp only [RO, OF])) only [RR, RM, LN, TT, d97_at, ↓reduceIte, Nat.reduceEqDiff, Nat.reduceLT, Nat.reduceLeDiff, Nat.reduceAdd, Nat.reduceSub, Nat.reduceMul, Nat.reduceMod, Nat.reduceDiv, Nat.reduceBEq, RH, h1', h2'', h2', lm_ik h5, lm_ik h8, h9'', h9', FF, LN, NN, NT]
      · have h9' := decide_eq_false h9
        have h9'' : decide (x9 ≤ x8) = true := decide_eq_true (by omega)
        conv => arg 1; simp (maxSteps := 1000000) (disch := first | assumption | decide | with_unfolding_all rfl | omega | (simp only [LN] <;> omega) | (simp only [RO, OF])) only [RR, RM, LN, TT, d97_at, ↓reduceIte, Nat.reduceEqDiff, Nat.reduceLT, Nat.reduceLeDiff, Nat.reduceAdd, Nat.reduceSub, Nat.reduceMul, Nat.reduceMod, Nat.reduceDiv, Nat.reduceBEq, RH, h1', h2'', h2', lm_ik h5, lm_ik h8, h9'', h9']
        refine J.eq ret_seq ?_
        conv => arg 1; simp (maxSteps := 1000000) (disch := first | assumption | decide | with_unfolding_all rfl | omega | (simp only [LN] <;> omega) | (simp only [RO, OF])) only [RR, RM, LN, TT, d97_at, ↓reduceIte, Nat.reduceEqDiff, Nat.reduceLT, Nat.reduceLeDiff, Nat.reduceAdd, Nat.reduceSub, Nat.reduceMul, Nat.reduceMod, Nat.reduceDiv, Nat.reduceBEq, RH, h1', h2'', h2', lm_ik h5, lm_ik h8, h9'', h9']
        refine J.ite (fun h10 => ?_) (fun h10 => ?_)
        · have h10' := decide_eq_true h10
          have h10'' : decide (x8 ≤ x9) = false := decide_eq_false (by omega)
          refine J.some ?_
          simp (maxSteps := 20000000) (disch := first | assumption | decide | with_unfolding_all rfl | omega | (simp only [LN] <;> omega) | (simp only [RO, OF])) only [RR, RM, LN, TT, d97_at, ↓reduceIte, Nat.reduceEqDiff, Nat.reduceLT, Nat.reduceLeDiff, Nat.reduceAdd, Nat.reduceSub, Nat.reduceMul, Nat.reduceMod, Nat.reduceDiv, Nat.reduceBEq, RH, h1', h2'', h2', lm_ik h5, lm_ik h8, h9'', h9', h10'', h10', FF, LN, NN, NT]
        · have h10' := decide_eq_false h10
          have h10'' : decide (x8 ≤ x9) = true := decide_eq_true (by omega)
          conv => arg 1; simp (maxSteps := 1000000) (disch := first | assumption | decide | with_unfolding_all rfl | omega | (simp only [LN] <;> omega) | (simp only [RO, OF])) only [RR, RM, LN, TT, d97_at, ↓reduceIte, Nat.reduceEqDiff, Nat.reduceLT, Nat.reduceLeDiff, Nat.reduceAdd, Nat.reduceSub, Nat.reduceMul, Nat.reduceMod, Nat.reduceDiv, Nat.reduceBEq, RH, h1', h2'', h2', lm_ik h5, lm_ik h8, h9'', h9', h10'', h10']
          refine J.eq ret_seq ?_
          conv => arg 1; simp (maxSteps := 1000000) (disch := first | assumption | decide | with_unfolding_all rfl | omega | (simp only [LN] <;> omega) | (simp only [RO, OF])) only [RR, RM, LN, TT, d97_at, ↓reduceIte, Nat.reduceEqDiff, Nat.reduceLT, Nat.reduceLeDiff, Nat.reduceAdd, Nat.reduceSub, Nat.reduceMul, Nat.reduceMod, Nat.reduceDiv, Nat.reduceBEq, RH, h1', h2'', h2', lm_ik h5, lm_ik h8, h9'', h9', h10'', h10']
          refine J.next (s := wk .i64 (x5 - 1)) hn1 ?_ ?_
          · first | rfl | (simp only [LN, NN, NT])
          · first | (simp (disch := first | assumption | decide | with_unfolding_all rfl | omega | (simp only [LN] <;> omega) | (simp only [RO, OF])) only [RR, ↓reduceIte, Nat.reduceEqDiff, Nat.reduceLT, Nat.reduceLeDiff, Nat.reduceAdd, Nat.reduceSub, Nat.reduceMul, Nat.reduceMod, Nat.reduceDiv, Nat.reduceBEq, LN, NN, NT]; done) | (simp (disch := first | assumption | decide | with_unfolding_all rfl | omega | (simp only [LN] <;> omega) | (simp only [RO, OF])) only [RR, ↓reduceIte, Nat.reduceEqDiff, Nat.reduceLT, Nat.reduceLeDiff, Nat.reduceAdd, Nat.reduceSub, Nat.reduceMul, Nat.reduceMod, Nat.reduceDiv, Nat.reduceBEq, LN, fm_app, NN, NT]; done) | rfl
    · have h2' := decide_eq_false h2
      have h2'' : decide (x5 < 0) = true := decide_eq_true (by omega)
      conv => arg 1; simp (maxSteps := 1000000) (disch := first | assumption | decide | with_unfolding_all rfl | omega | (simp only [LN] <;> omega) | (simp only [RO, OF])) only [RR, RM, LN, TT, d97_at, ↓reduceIte, Nat.reduceEqDiff, Nat.reduceLT, Nat.reduceLeDiff, Nat.reduceAdd, Nat.reduceSub, Nat.reduceMul, Nat.reduceMod, Nat.reduceDiv, Nat.reduceBEq, RH, h1', h2'', h2']
      refine J.eq ret_seq ?_
      refine J.some ?_
      simp (maxSteps := 20000000) (disch := first | assumption | decide | with_unfolding_all rfl | omega | (simp only [LN] <;> omega) | (simp only [RO, OF])) only [RR, RM, LN, TT, d97_at, ↓reduceIte, Nat.reduceEqDiff, Nat.reduceLT, Nat.reduceLeDiff, Nat.reduceAdd, Nat.reduceSub, Nat.reduceMul, Nat.reduceMod, Nat.reduceDiv, Nat.reduceBEq, RH, h1', h2'', h2', FF, LN, NN, NT]
  · have h1' := decide_eq_false h1
    conv => arg 1; simp (maxSteps := 1000000) (disch := first | assumption | decide | with_unfolding_all rfl | omega | (simp only [LN] <;> omega) | (simp only [RO, OF])) only [RR, RM, LN, TT, d97_at, ↓reduceIte, Nat.reduceEqDiff, Nat.reduceLT, Nat.reduceLeDiff, Nat.reduceAdd, Nat.reduceSub, Nat.reduceMul, Nat.reduceMod, Nat.reduceDiv, Nat.reduceBEq, RH, h1']
    refine J.eq go_seq ?_
    conv => arg 1; simp (maxSteps := 1000000) (disch := first | assumption | decide | with_unfolding_all rfl | omega | (simp only [LN] <;> omega) | (simp only [RO, OF])) only [RR, RM, LN, TT, d97_at, ↓reduceIte, Nat.reduceEqDiff, Nat.reduceLT, Nat.reduceLeDiff, Nat.reduceAdd, Nat.reduceSub, Nat.reduceMul, Nat.reduceMod, Nat.reduceDiv, Nat.reduceBEq, RH, h1']
    refine J.ite (fun h11 => ?_) (fun h11 => ?_)
    · have h11' := decide_eq_true h11
      have h11'' : decide ((x2.length : Int) ≤ (x1.length : Int)) = false := decide_eq_false (by omega)
      refine J.some ?_
      simp (maxSteps := 20000000) (disch := first | assumption | decide | with_unfolding_all rfl | omega | (simp only [LN] <;> omega) | (simp only [RO, OF])) only [RR, RM, LN, TT, d97_at, ↓reduceIte, Nat.reduceEqDiff, Nat.reduceLT, Nat.reduceLeDiff, Nat.reduceAdd, Nat.reduceSub, Nat.reduceMul, Nat.reduceMod, Nat.reduceDiv, Nat.reduceBEq, RH, h1', h11'', h11', FF, LN, NN, NT]
    · have h11' := decide_eq_false h11
      have h11'' : decide ((x2.length : Int) ≤ (x1.length : Int)) = true := decide_eq_true (by omega)
      conv => arg 1; simp (maxSteps := 1000000) (disch := first | assumption | decide | with_unfolding_all rfl | omega | (simp only [LN] <;> omega) | (simp only [RO, OF])) only [RR, RM, LN, TT, d97_at, ↓reduceIte, Nat.reduceEqDiff, Nat.reduceLT, Nat.reduceLeDiff, Nat.reduceAdd, Nat.reduceSub, Nat.reduceMul, Nat.reduceMod, Nat.reduceDiv, Nat.reduceBEq, RH, h1', h11'', h11']
      refine J.eq ret_seq ?_
      refine J.some ?_
      simp (maxSteps := 20000000) (disch := first | assumption | decide | with_unfolding_all rfl | omega | (simp only [LN] <;> omega) | (simp only [RO, OF])) only [RR, RM, LN, TT, d97_at, ↓reduceIte, Nat.reduceEqDiff, Nat.reduceLT, Nat.reduceLeDiff, Nat.reduceAdd, Nat.reduceSub, Nat.reduceMul, Nat.reduceMod, Nat.reduceDiv, Nat.reduceBEq, RH, h1', h11'', h11', FF, LN, NN, NT]
noncomputable def t97 (fu : Nat) : CallP := noP
theorem t97_ok (fu : Nat) : CpOK Tryz.prog (t97 fu ) := noP_ok
theorem ok97 (fu : Nat) (x1 : List Int) (x2 : List Int) (r) (h : ref01_Compare fu x1 x2 = some r) : PureOK Tryz.prog 97 [.arr x1.length (lm (ik .u32) x1), .arr x2.length (lm (ik .u32) x2)] (e97 r) :=
  pure_J mixed (cp := t97 fu ) (t97_ok fu  ) noI_ok i97 (w97 _ fu x1 x2  ) h
/-! 166: lattice/latticeref01.least -/
def d166 : List (Nat × List Nat) := [(0, [4]), (0, [0, 1, 6]), (0, []), (0, [7]), (0, []), (0, []), (0, [8, 9, 10]), (0, []), (0, [12, 13, 14, 15, 16, 17]), (0, []), (0, [18, 19, 20, 21, 22, 23]), (0, []), (0, [25]), (0, []), (0, [26]), (0, []), (0, [5, 27])]
def d166_at := And.intro (show d166.getD 0 (0, []) = (0, [4]) from rfl) <| And.intro (show d166.getD 1 (0, []) = (0, [0, 1, 6]) from rfl) <| And.intro (show d166.getD 2 (0, []) = (0, []) from rfl) <| And.intro (show d166.getD 3 (0, []) = (0, [7]) from rfl) <| And.intro (show d166.getD 4 (0, []) = (0, []) from rfl) <| And.intro (show d166.getD 5 (0, []) = (0, []) from rfl) <| And.intro (show d166.getD 6 (0, []) = (0, [8, 9, 10]) from rfl) <| And.intro (show d166.getD 7 (0, []) = (0, []) from rfl) <| And.intro (show d166.getD 8 (0, []) = (0, [12, 13, 14, 15, 16, 17]) from rfl) <| And.intro (show d166.getD 9 (0, []) = (0, []) from rfl) <| And.intro (show d166.getD 10 (0, []) = (0, [18, 19, 20, 21, 22, 23]) from rfl) <| And.intro (show d166.getD 11 (0, []) = (0, []) from rfl) <| And.intro (show d166.getD 12 (0, []) = (0, [25]) from rfl) <| And.intro (show d166.getD 13 (0, []) = (0, []) from rfl) <| And.intro (show d166.getD 14 (0, []) = (0, [26]) from rfl) <| And.intro (show d166.getD 15 (0, []) = (0, []) from rfl) <| (show d166.getD 16 (0, []) = (0, [5, 27]) from rfl)
theorem i166 : finfo Tryz.prog 166 d166 = some ⟨bodyOf Tryz.f166, [.tmp 4], [24]⟩ := finfo_at Tryz.func166 rfl (by kernel_rfl) (by kernel_rfl)
def e166 : Int → AV := fun r => .v (.int .u32 r)
set_option maxHeartbeats 20000000 in
theorem w166 (cp : CallP) (fu : Nat) (x1 : List Int) (x2 : List Int) (H92_0 : ∀ (a0 : Int) r, ref01_Amount fu a0 = some r → cp 92 [.v (.int .u32 a0)] = some (.arr r.length (lm (ik .u32) r))) (H136_0 : ∀ (a0 : List Int) (a1 : List Int) r, ref01_Times fu a0 a1 = some r → cp 136 [.arr a0.length (lm (ik .u32) a0), .arr a1.length (lm (ik .u32) a1)] = some (.arr r.length (lm (ik .u32) r))) (H97_0 : ∀ (a0 : List Int) (a1 : List Int) r, ref01_Compare fu a0 a1 = some r → cp 97 [.arr a0.length (lm (ik .u32) a0), .arr a1.length (lm (ik .u32) a1)] = some (.v (.int .i64 r))) : J (go Tryz.prog noC cp noI 0 [] d166 fu (fin Tryz.prog [.tmp 4] [24]) (bodyOf Tryz.f166) (initE 0 [.arr x1.length (lm (ik .u32) x1), .arr x2.length (lm (ik .u32) x2)]) [] []) (ref01_least fu x1 x2) e166 := by
  unfold ref01_least e166
  conv => arg 1; simp (maxSteps := 1000000) (disch := first | assumption | decide | with_unfolding_all rfl | omega | (simp only [LN] <;> omega) | (simp only [RO, OF])) only [bodyOf, Tryz.f166, RR, RM, LN, TT, d166_at, ↓reduceIte, Nat.reduceEqDiff, Nat.reduceLT, Nat.reduceLeDiff, Nat.reduceAdd, Nat.reduceSub, Nat.reduceMul, Nat.reduceMod, Nat.reduceDiv, Nat.reduceBEq, RH]
  refine J.eq go_seq ?_
  conv => arg 1; simp (maxSteps := 1000000) (disch := first | assumption | decide | with_unfolding_all rfl | omega | (simp only [LN] <;> omega) | (simp only [RO, OF])) only [RR, RM, LN, TT, d166_at, ↓reduceIte, Nat.reduceEqDiff, Nat.reduceLT, Nat.reduceLeDiff, Nat.reduceAdd, Nat.reduceSub, Nat.reduceMul, Nat.reduceMod, Nat.reduceDiv, Nat.reduceBEq, RH]
  unfold ref01_least_W1
  refine J.loop (fun (s : Int × Int) => ([(0, .arr x1.length (lm (ik .u32) x1)), (1, .arr x2.length (lm (ik .u32) x2)), (5, .v (.int .u32 s.1)), (6, .v (.int .u32 s.2))], [])) (fun next s => ref01_least_L1 fu x1 x2 (fun x6 x7 => next (x6, x7)) s.1 s.2) (s0 := (0, 2139095041)) ?_ ?_ ?_
  · first | rfl | (simp only [LN, NN, NT])
  · first | (simp (disch := first | assumption | decide | with_unfolding_all rfl | omega | (simp only [LN] <;> omega) | (simp only [RO, OF])) only [RR, ↓reduceIte, Nat.reduceEqDiff, Nat.reduceLT, Nat.reduceLeDiff, Nat.reduceAdd, Nat.reduceSub, Nat.reduceMul, Nat.reduceMod, Nat.reduceDiv, Nat.reduceBEq, LN, NN, NT]; done) | (simp (disch := first | assumption | decide | with_unfolding_all rfl | omega | (simp only [LN] <;> omega) | (simp only [RO, OF])) only [RR, ↓reduceIte, Nat.reduceEqDiff, Nat.reduceLT, Nat.reduceLeDiff, Nat.reduceAdd, Nat.reduceSub, Nat.reduceMul, Nat.reduceMod, Nat.reduceDiv, Nat.reduceBEq, LN, fm_app, NN, NT]; done) | rfl
  rintro next k1 hn1 ⟨x6, x7⟩
  let nx1 : Int → Int → Option Int := (fun x6 x7 => next (x6, x7))
  show J _ (ref01_least_L1 fu x1 x2 nx1 x6 x7) _
  unfold ref01_least_L1
  refine J.eq go_seq ?_
  conv => arg 1; simp (maxSteps := 1000000) (disch := first | assumption | decide | with_unfolding_all rfl | omega | (simp only [LN] <;> omega) | (simp only [RO, OF])) only [RR, RM, LN, TT, d166_at, ↓reduceIte, Nat.reduceEqDiff, Nat.reduceLT, Nat.reduceLeDiff, Nat.reduceAdd, Nat.reduceSub, Nat.reduceMul, Nat.reduceMod, Nat.reduceDiv, Nat.reduceBEq, RH]
  refine J.ite (fun h1 => ?_) (fun h1 => ?_)
  · have h1' := decide_eq_true h1
    have h1'' : decide ((wk .u32 (x7 - x6)) ≤ 1) = false := decide_eq_false (by omega)
    conv => arg 1; simp (maxSteps := 1000000) (disch := first | assumption | decide | with_unfolding_all rfl | omega | (simp only [LN] <;> omega) | (simp only [RO, OF])) only [RR, RM, LN, TT, d166_at, ↓reduceIte, Nat.reduceEqDiff, Nat.reduceLT, Nat.reduceLeDiff, Nat.reduceAdd, Nat.reduceSub, Nat.reduceMul, Nat.reduceMod, Nat.reduceDiv, Nat.reduceBEq, RH, h1'', h1']
    refine J.eq ret_seq ?_
    refine J.bind fun x11 h2 => ?_
    have e_h2 := H92_0 _ _ h2
    try simp only [NN, NT, LN] at e_h2
    refine J.bind fun x12 h3 => ?_
    have e_h3 := H136_0 _ _ _ h3
    try simp only [NN, NT, LN] at e_h3
    refine J.bind fun x13 h4 => ?_
    have e_h4 := H97_0 _ _ _ h4
    try simp only [NN, NT, LN] at e_h4
    conv => arg 1; simp (maxSteps := 1000000) (disch := first | assumption | decide | with_unfolding_all rfl | omega | (simp only [LN] <;> omega) | (simp only [RO, OF])) only [RR, RM, LN, TT, d166_at, ↓reduceIte, Nat.reduceEqDiff, Nat.reduceLT, Nat.reduceLeDiff, Nat.reduceAdd, Nat.reduceSub, Nat.reduceMul, Nat.reduceMod, Nat.reduceDiv, Nat.reduceBEq, RH, h1'', h1', e_h2, e_h3, e_h4]
    refine J.ite (fun h5 => ?_) (fun h5 => ?_)
    · have h5' := decide_eq_true h5
      have h5'' : decide (0 < x13) = false := decide_eq_false (by omega)
      conv => arg 1; simp (maxSteps := 1000000) (disch := first | assumption | decide | with_unfolding_all rfl | omega | (simp only [LN] <;> omega) | (simp only [RO, OF])) only [RR, RM, LN, TT, d166_at, ↓reduceIte, Nat.reduceEqDiff, Nat.reduceLT, Nat.reduceLeDiff, Nat.reduceAdd, Nat.reduceSub, Nat.reduceMul, Nat.reduceMod, Nat.reduceDiv, Nat.reduceBEq, RH, h1'', h1', e_h2, e_h3, e_h4, h5'', h5']
      refine J.next (s := (wk .u32 (x6 + (wk .u32 (Int.tdiv (wk .u32 (x7 - x6)) 2))), x7)) hn1 ?_ ?_
      · first | rfl | (simp only [LN, NN, NT])
      · first | (simp (disch := first | assumption | decide | with_unfolding_all rfl | omega | (simp only [LN] <;> omega) | (simp only [RO, OF])) only [RR, ↓reduceIte, Nat.reduceEqDiff, Nat.reduceLT, Nat.reduceLeDiff, Nat.reduceAdd, Nat.reduceSub, Nat.reduceMul, Nat.reduceMod, Nat.reduceDiv, Nat.reduceBEq, LN, NN, NT]; done) | (simp (disch := first | assumption | decide | with_unfolding_all rfl | omega | (simp only [LN] <;> omega) | (simp only [RO, OF])) only [RR, ↓reduceIte, Nat.reduceEqDiff, Nat.reduceLT, Nat.reduceLeDiff, Nat.reduceAdd, Nat.reduceSub, Nat.reduceMul, Nat.reduceMod, Nat.reduceDiv, Nat.reduceBEq, LN, fm_app, NN, NT]; done) | rfl
    · have h5' := decide_eq_false h5
      have h5'' : decide (0 < x13) = true := decide_eq_true (by omega)
      conv => arg 1; simp (maxSteps := 1000000) (disch := first | assumption | decide | with_unfolding_all rfl | omega | (simp only [LN] <;> omega) | (simp only [RO, OF])) only [RR, RM, LN, TT, d166_at, ↓reduceIte, Nat.reduceEqDiff, Nat.reduceLT, Nat.reduceLeDiff, Nat.reduceAdd, Nat.reduceSub, Nat.reduceMul, Nat.reduceMod, Nat.reduceDiv, Nat.reduceBEq, RH, h1'', h1', e_h2, e_h3, e_h4, h5'', h5']
      refine J.next (s := (x6, wk .u32 (x6 + (wk .u32 (Int.tdiv (wk .u32 (x7 - x6)) 2))))) hn1 ?_ ?_
      · first | rfl | (simp only [LN, NN, NT])
      · first | (simp (disch := first | assumption | decide | with_unfolding_all rfl | omega | (simp only [LN] <;> omega) | (simp only [RO, OF])) only [RR, ↓reduceIte, Nat.reduceEqDiff, Nat.reduceLT, Nat.reduceLeDiff, Nat.reduceAdd, Nat.reduceSub, Nat.reduceMul, Nat.reduceMod, Nat.reduceDiv, Nat.reduceBEq, LN, NN, NT]; done) | (simp (disch := first | assumption | decide | with_unfolding_all rfl | omega | (simp only [LN] <;> omega) | (simp only [RO, OF])) only [RR, ↓reduceIte, Nat.reduceEqDiff, Nat.reduceLT, Nat.reduceLeDiff, Nat.reduceAdd, Nat.reduceSub, Nat.reduceMul, Nat.reduceMod, Nat.reduceDiv, Nat.reduceBEq, LN, fm_app, NN, NT]; done) | rfl
  · have h1' := decide_eq_false h1
    have h1'' : decide ((wk .u32 (x7 - x6)) ≤ 1) = true := decide_eq_true (by omega)
    conv => arg 1; simp (maxSteps := 1000000) (disch := first | assumption | decide | with_unfolding_all rfl | omega | (simp only [LN] <;> omega) | (simp only [RO, OF])) only [RR, RM, LN, TT, d166_at, ↓reduceIte, Nat.reduceEqDiff, Nat.reduceLT, Nat.reduceLeDiff, Nat.reduceAdd, Nat.reduceSub, Nat.reduceMul, Nat.reduceMod, Nat.reduceDiv, Nat.reduceBEq, RH, h1'', h1']
    refine J.eq ret_seq ?_
    refine J.some ?_
    simp (maxSteps := 20000000) (disch := first | assumption | decide | with_unfolding_all rfl | omega | (simp only [LN] <;> omega) | (simp only [RO, OF])) only [RR, RM, LN, TT, d166_at, ↓reduceIte, Nat.reduceEqDiff, Nat.reduceLT, Nat.reduceLeDiff, Nat.reduceAdd, Nat.reduceSub, Nat.reduceMul, Nat.reduceMod, Nat.reduceDiv, Nat.reduceBEq, RH, h1'', h1', FF, LN, NN, NT]
noncomputable def t166 (fu : Nat) : CallP := orE 92 (mkC (fun (t : Int) => ([.v (.int .u32 t)] : List AV)) (fun t => ref01_Amount fu t) e92) (orE 136 (mkC (fun (t : (List Int) × (List Int)) => ([.arr t.1.length (lm (ik .u32) t.1), .arr t.2.length (lm (ik .u32) t.2)] : List AV)) (fun t => ref01_Times fu t.1 t.2) e136) (orE 97 (mkC (fun (t : (List Int) × (List Int)) => ([.arr t.1.length (lm (ik .u32) t.1), .arr t.2.length (lm (ik .u32) t.2)] : List AV)) (fun t => ref01_Compare fu t.1 t.2) e97) (noP)))
theorem t166_ok (fu : Nat) : CpOK Tryz.prog (t166 fu ) := orE_ok (orE_ok (orE_ok (noP_ok) (mkC_ok (fun t b h => ok97 fu t.1 t.2  b h))) (mkC_ok (fun t b h => ok136 fu t.1 t.2  b h))) (mkC_ok (fun t b h => ok92 fu t  b h))
theorem ok166 (fu : Nat) (x1 : List Int) (x2 : List Int) (r) (h : ref01_least fu x1 x2 = some r) : PureOK Tryz.prog 166 [.arr x1.length (lm (ik .u32) x1), .arr x2.length (lm (ik .u32) x2)] (e166 r) :=
  pure_J mixed (cp := t166 fu ) (t166_ok fu  ) noI_ok i166 (w166 _ fu x1 x2  (fun a0 r h => orE_hit (mkC_at (a := a0) (by intro a b h; first | (exact rfl) | (simp only [INJ, IJ] at h; first | exact h | (simp_all [Prod.ext_iff]) )) h)) (fun a0 a1 r h => orE_miss (by decide) (orE_hit (mkC_at (a := (a0, a1)) (by intro a b h; first | (exact rfl) | (simp only [INJ, IJ] at h; first | exact h | (simp_all [Prod.ext_iff]) )) h))) (fun a0 a1 r h => orE_miss (by decide) (orE_miss (by decide) (orE_hit (mkC_at (a := (a0, a1)) (by intro a b h; first | (exact rfl) | (simp only [INJ, IJ] at h; first | exact h | (simp_all [Prod.ext_iff]) )) h))))) h
/-! 94: lattice/latticeref01.Rounded -/
def d94 : List (Nat × List Nat) := [(0, [8]), (0, []), (0, [15, 16, 17]), (0, []), (0, []), (0, []), (0, []), (0, []), (0, []), (0, []), (0, [19, 20, 21, 22, 23, 24, 25, 26, 27, 28, 29, 30, 31]), (0, []), (0, [0, 1, 32, 33, 34, 35, 36, 37, 38, 39, 40, 41, 42, 43, 44]), (0, []), (0, [45, 46, 47, 48, 49, 50, 51]), (0, []), (0, [52]), (0, []), (0, []), (0, []), (0, [55, 56]), (0, []), (0, [57, 58]), (0, []), (0, [12, 13, 59, 60, 61]), (0, []), (0, [63, 64, 65]), (0, []), (0, [11]), (0, []), (0, [67, 68, 69, 70]), (0, []), (0, [2, 3, 71, 72, 73, 74, 75, 76, 77, 78, 79, 80, 81]), (0, []), (0, [14, 82, 83, 84, 85, 86, 87, 88, 89, 90, 91]), (0, []), (0, [93, 94, 95, 96]), (0, []), (0, [9, 10, 97, 98, 99])]
def d94_at := And.intro (show d94.getD 0 (0, []) = (0, [8]) from rfl) <| And.intro (show d94.getD 1 (0, []) = (0, []) from rfl) <| And.intro (show d94.getD 2 (0, []) = (0, [15, 16, 17]) from rfl) <| And.intro (show d94.getD 3 (0, []) = (0, []) from rfl) <| And.intro (show d94.getD 4 (0, []) = (0, []) from rfl) <| And.intro (show d94.getD 5 (0, []) = (0, []) from rfl) <| And.intro (show d94.getD 6 (0, []) = (0, []) from rfl) <| And.intro (show d94.getD 7 (0, []) = (0, []) from rfl) <| And.intro (show d94.getD 8 (0, []) = (0, []) from rfl) <| And.intro (show d94.getD 9 (0, []) = (0, []) from rfl) <| And.intro (show d94.getD 10 (0, []) = (0, [19, 20, 21, 22, 23, 24, 25, 26, 27, 28, 29, 30, 31]) from rfl) <| And.intro (show d94.getD 11 (0, []) = (0, []) from rfl) <| And.intro (show d94.getD 12 (0, []) = (0, [0, 1, 32, 33, 34, 35, 36, 37, 38, 39, 40, 41, 42, 43, 44]) from rfl) <| And.intro (show d94.getD 13 (0, []) = (0, []) from rfl) <| And.intro (show d94.getD 14 (0, []) = (0, [45, 46, 47, 48, 49, 50, 51]) from rfl) <| And.intro (show d94.getD 15 (0, []) = (0, []) from rfl) <| And.intro (show d94.getD 16 (0, []) = (0, [52]) from rfl) <| And.intro (show d94.getD 17 (0, []) = (0, []) from rfl) <| And.intro (show d94.getD 18 (0, []) = (0, []) from rfl) <| And.intro (show d94.getD 19 (0, []) = (0, []) from rfl) <| And.intro (show d94.getD 20 (0, []) = (0, [55, 56]) from rfl) <| And.intro (show d94.getD 21 (0, []) = (0, []) from rfl) <| And.intro (show d94.getD 22 (0, []) = (0, [57, 58]) from rfl) <| And.intro (show d94.getD 23 (0, []) = (0, []) from rfl) <| And.intro (show d94.getD 24 (0, []) = (0, [12, 13, 59, 60, 61]) from rfl) <| And.intro (show d94.getD 25 (0, []) = (0, []) from rfl) <| And.intro (show d94.getD 26 (0, []) = (0, [63, 64, 65]) from rfl) <| And.intro (show d94.getD 27 (0, []) = (0, []) from rfl) <| And.intro (show d94.getD 28 (0, []) = (0, [11]) from rfl) <| And.intro (show d94.getD 29 (0, []) = (0, []) from rfl) <| And.intro (show d94.getD 30 (0, []) = (0, [67, 68, 69, 70]) from rfl) <| And.intro (show d94.getD 31 (0, []) = (0, []) from rfl) <| And.intro (show d94.getD 32 (0, []) = (0, [2, 3, 71, 72, 73, 74, 75, 76, 77, 78, 79, 80, 81]) from rfl) <| And.intro (show d94.getD 33 (0, []) = (0, []) from rfl) <| And.intro (show d94.getD 34 (0, []) = (0, [14, 82, 83, 84, 85, 86, 87, 88, 89, 90, 91]) from rfl) <| And.intro (show d94.getD 35 (0, []) = (0, []) from rfl) <| And.intro (show d94.getD 36 (0, []) = (0, [93, 94, 95, 96]) from rfl) <| And.intro (show d94.getD 37 (0, []) = (0, []) from rfl) <| (show d94.getD 38 (0, []) = (0, [9, 10, 97, 98, 99]) from rfl)
theorem i94 : finfo Tryz.prog 94 d94 = some ⟨bodyOf Tryz.f94, [.tmp 8], [24]⟩ := finfo_at Tryz.func94 rfl (by kernel_rfl) (by kernel_rfl)
def e94 : Int → AV := fun r => .v (.int .u32 r)
set_option maxHeartbeats 20000000 in
theorem w94 (cp : CallP) (fu : Nat) (x1 : Int) (x2 : Bool) (x3 : List Int) (x4 : List Int) (H166_0 : ∀ (a0 : List Int) (a1 : List Int) r, ref01_least fu a0 a1 = some r → cp 166 [.arr a0.length (lm (ik .u32) a0), .arr a1.length (lm (ik .u32) a1)] = some (.v (.int .u32 r))) (H92_0 : ∀ (a0 : Int) r, ref01_Amount fu a0 = some r → cp 92 [.v (.int .u32 a0)] = some (.arr r.length (lm (ik .u32) r))) (H136_0 : ∀ (a0 : List Int) (a1 : List Int) r, ref01_Times fu a0 a1 = some r → cp 136 [.arr a0.length (lm (ik .u32) a0), .arr a1.length (lm (ik .u32) a1)] = some (.arr r.length (lm (ik .u32) r))) (H97_0 : ∀ (a0 : List Int) (a1 : List Int) r, ref01_Compare fu a0 a1 = some r → cp 97 [.arr a0.length (lm (ik .u32) a0), .arr a1.length (lm (ik .u32) a1)] = some (.v (.int .i64 r))) (H95_0 : ∀ (a0 : List Int) (a1 : List Int) r, ref01_Plus fu a0 a1 = some r → cp 95 [.arr a0.length (lm (ik .u32) a0), .arr a1.length (lm (ik .u32) a1)] = some (.arr r.length (lm (ik .u32) r))) (H137_0 : ∀ (a0 : List Int) (a1 : Int) r, ref01_Twice fu a0 a1 = some r → cp 137 [.arr a0.length (lm (ik .u32) a0), .v (.int .i64 a1)] = some (.arr r.length (lm (ik .u32) r))) : J (go Tryz.prog noC cp noI 0 [] d94 fu (fin Tryz.prog [.tmp 8] [24]) (bodyOf Tryz.f94) (initE 0 [.v (.int .i64 x1), .v (.bool x2), .arr x3.length (lm (ik .u32) x3), .arr x4.length (lm (ik .u32) x4)]) [] []) (ref01_Rounded fu x1 x2 x3 x4) e94 := by
  unfold ref01_Rounded e94
  refine J.bind fun x5 h1 => ?_
  have e_h1 := H166_0 _ _ _ h1
  try simp only [NN, NT, LN] at e_h1
  conv => arg 1; simp (maxSteps := 1000000) (disch := first | assumption | decide | with_unfolding_all rfl | omega | (simp only [LN] <;> omega) | (simp only [RO, OF])) only [bodyOf, Tryz.f94, RR, RM, LN, TT, d94_at, ↓reduceIte, Nat.reduceEqDiff, Nat.reduceLT, Nat.reduceLeDiff, Nat.reduceAdd, Nat.reduceSub, Nat.reduceMul, Nat.reduceMod, Nat.reduceDiv, Nat.reduceBEq, RH, e_h1]
  refine J.joinS (fun (t : Bool × Int) => ([(0, .v (.int .i64 x1)), (1, .v (.bool t.1)), (2, .arr x3.length (lm (ik .u32) x3)), (3, .arr x4.length (lm (ik .u32) x4)), (9, .v (.int .u32 x5)), (10, .v (.int .u32 t.2))], [])) (fun t => ref01_Rounded_k1 fu x1 x3 x4 x5 t.1 t.2) ?_ (fun hj1 => ?_)
  · rintro ⟨x6, x7⟩
    show J _ (ref01_Rounded_k1 fu x1 x3 x4 x5 x6 x7) _
    unfold ref01_Rounded_k1
    refine J.joinS (fun (t : Bool × Bool) => ([(0, .v (.int .i64 x1)), (1, .v (.bool t.1)), (2, .arr x3.length (lm (ik .u32) x3)), (3, .arr x4.length (lm (ik .u32) x4)), (9, .v (.int .u32 x5)), (10, .v (.int .u32 x7)), (11, .v (.bool t.2))], [])) (fun t => ref01_Rounded_k2 fu x1 x3 x4 x5 x7 t.1 t.2) ?_ (fun hj2 => ?_)
    · rintro ⟨x8, x9⟩
      show J _ (ref01_Rounded_k2 fu x1 x3 x4 x5 x7 x8 x9) _
      unfold ref01_Rounded_k2
      refine J.joinS (fun (t : Bool) => ([(2, .arr x3.length (lm (ik .u32) x3)), (3, .arr x4.length (lm (ik .u32) x4)), (9, .v (.int .u32 x5)), (10, .v (.int .u32 x7)), (11, .v (.bool x9)), (12, .v (.bool t))], [])) (fun t => ref01_Rounded_k3 fu x3 x4 x5 x7 x9 t) ?_ (fun hj3 => ?_)
      · rintro x10
        show J _ (ref01_Rounded_k3 fu x3 x4 x5 x7 x9 x10) _
        unfold ref01_Rounded_k3
        refine J.bind fun x11 h2 => ?_
        have e_h2 := H92_0 _ _ h2
        try simp only [NN, NT, LN] at e_h2
        refine J.bind fun x12 h3 => ?_
        have e_h3 := H136_0 _ _ _ h3
        try simp only [NN, NT, LN] at e_h3
        refine J.bind fun x13 h4 => ?_
        have e_h4 := H97_0 _ _ _ h4
        try simp only [NN, NT, LN] at e_h4
        conv => arg 1; simp (maxSteps := 1000000) (disch := first | assumption | decide | with_unfolding_all rfl | omega | (simp only [LN] <;> omega) | (simp only [RO, OF])) only [RR, RM, LN, TT, d94_at, ↓reduceIte, Nat.reduceEqDiff, Nat.reduceLT, Nat.reduceLeDiff, Nat.reduceAdd, Nat.reduceSub, Nat.reduceMul, Nat.reduceMod, Nat.reduceDiv, Nat.reduceBEq, RH, e_h1, e_h2, e_h3, e_h4]
        refine J.eq go_seq ?_
        conv => arg 1; simp (maxSteps := 1000000) (disch := first | assumption | decide | with_unfolding_all rfl | omega | (simp only [LN] <;> omega) | (simp only [RO, OF])) only [RR, RM, LN, TT, d94_at, ↓reduceIte, Nat.reduceEqDiff, Nat.reduceLT, Nat.reduceLeDiff, Nat.reduceAdd, Nat.reduceSub, Nat.reduceMul, Nat.reduceMod, Nat.reduceDiv, Nat.reduceBEq, RH, e_h1, e_h2, e_h3, e_h4]
        refine J.ite (fun h5 => ?_) (fun h5 => ?_)
        · have h5' := decide_eq_true h5
          conv => arg 1; simp (maxSteps := 1000000) (disch := first | assumption | decide | with_unfolding_all rfl | omega | (simp only [LN] <;> omega) | (simp only [RO, OF])) only [RR, RM, LN, TT, d94_at, ↓reduceIte, Nat.reduceEqDiff, Nat.reduceLT, Nat.reduceLeDiff, Nat.reduceAdd, Nat.reduceSub, Nat.reduceMul, Nat.reduceMod, Nat.reduceDiv, Nat.reduceBEq, RH, e_h1, e_h2, e_h3, e_h4, h5']
          refine J.eq go_seq ?_
          conv => arg 1; simp (maxSteps := 1000000) (disch := first | assumption | decide | with_unfolding_all rfl | omega | (simp only [LN] <;> omega) | (simp only [RO, OF])) only [RR, RM, LN, TT, d94_at, ↓reduceIte, Nat.reduceEqDiff, Nat.reduceLT, Nat.reduceLeDiff, Nat.reduceAdd, Nat.reduceSub, Nat.reduceMul, Nat.reduceMod, Nat.reduceDiv, Nat.reduceBEq, RH, e_h1, e_h2, e_h3, e_h4, h5']
          refine J.ite (fun h6 => ?_) (fun h6 => ?_)
          · have h6' : x10 = true := h6
            refine J.some ?_
            simp (maxSteps := 20000000) (disch := first | assumption | decide | with_unfolding_all rfl | omega | (simp only [LN] <;> omega) | (simp only [RO, OF])) only [RR, RM, LN, TT, d94_at, ↓reduceIte, Nat.reduceEqDiff, Nat.reduceLT, Nat.reduceLeDiff, Nat.reduceAdd, Nat.reduceSub, Nat.reduceMul, Nat.reduceMod, Nat.reduceDiv, Nat.reduceBEq, RH, e_h1, e_h2, e_h3, e_h4, h5', h6', FF, LN, NN, NT]
          · have h6' : x10 = false := Bool.eq_false_iff.2 h6
            conv => arg 1; simp (maxSteps := 1000000) (disch := first | assumption | decide | with_unfolding_all rfl | omega | (simp only [LN] <;> omega) | (simp only [RO, OF])) only [RR, RM, LN, TT, d94_at, ↓reduceIte, Nat.reduceEqDiff, Nat.reduceLT, Nat.reduceLeDiff, Nat.reduceAdd, Nat.reduceSub, Nat.reduceMul, Nat.reduceMod, Nat.reduceDiv, Nat.reduceBEq, RH, e_h1, e_h2, e_h3, e_h4, h5', h6']
            refine J.eq ret_seq ?_
            refine J.some ?_
            simp (maxSteps := 20000000) (disch := first | assumption | decide | with_unfolding_all rfl | omega | (simp only [LN] <;> omega) | (simp only [RO, OF])) only [RR, RM, LN, TT, d94_at, ↓reduceIte, Nat.reduceEqDiff, Nat.reduceLT, Nat.reduceLeDiff, Nat.reduceAdd, Nat.reduceSub, Nat.reduceMul, Nat.reduceMod, Nat.reduceDiv, Nat.reduceBEq, RH, e_h1, e_h2, e_h3, e_h4, h5', h6', FF, LN, NN, NT]
        · have h5' := decide_eq_false h5
          conv => arg 1; simp (maxSteps := 1000000) (disch := first | assumption | decide | with_unfolding_all rfl | omega | (simp only [LN] <;> omega) | (simp only [RO, OF])) only [RR, RM, LN, TT, d94_at, ↓reduceIte, Nat.reduceEqDiff, Nat.reduceLT, Nat.reduceLeDiff, Nat.reduceAdd, Nat.reduceSub, Nat.reduceMul, Nat.reduceMod, Nat.reduceDiv, Nat.reduceBEq, RH, e_h1, e_h2, e_h3, e_h4, h5']
          refine J.eq ret_seq ?_
          refine J.joinS (fun (t : Unit) => ([(2, .arr x3.length (lm (ik .u32) x3)), (3, .arr x4.length (lm (ik .u32) x4)), (9, .v (.int .u32 x5)), (10, .v (.int .u32 x7)), (11, .v (.bool x9))], [])) (fun t => ref01_Rounded_k4 fu x3 x4 x5 x7 x9 x11) ?_ (fun hj4 => ?_)
          · rintro ⟨⟩
            show J _ (ref01_Rounded_k4 fu x3 x4 x5 x7 x9 x11) _
            unfold ref01_Rounded_k4
            refine J.eq go_seq ?_
            conv => arg 1; simp (maxSteps := 1000000) (disch := first | assumption | decide | with_unfolding_all rfl | omega | (simp only [LN] <;> omega) | (simp only [RO, OF])) only [RR, RM, LN, TT, d94_at, ↓reduceIte, Nat.reduceEqDiff, Nat.reduceLT, Nat.reduceLeDiff, Nat.reduceAdd, Nat.reduceSub, Nat.reduceMul, Nat.reduceMod, Nat.reduceDiv, Nat.reduceBEq, RH, e_h1, e_h2, e_h3, e_h4, h5']
            refine J.ite (fun h7 => ?_) (fun h7 => ?_)
            · have h7' : x9 = true := h7
              refine J.some ?_
              simp (maxSteps := 20000000) (disch := first | assumption | decide | with_unfolding_all rfl | omega | (simp only [LN] <;> omega) | (simp only [RO, OF])) only [RR, RM, LN, TT, d94_at, ↓reduceIte, Nat.reduceEqDiff, Nat.reduceLT, Nat.reduceLeDiff, Nat.reduceAdd, Nat.reduceSub, Nat.reduceMul, Nat.reduceMod, Nat.reduceDiv, Nat.reduceBEq, RH, e_h1, e_h2, e_h3, e_h4, h5', h7', FF, LN, NN, NT]
            · have h7' : x9 = false := Bool.eq_false_iff.2 h7
              conv => arg 1; simp (maxSteps := 1000000) (disch := first | assumption | decide | with_unfolding_all rfl | omega | (simp only [LN] <;> omega) | (simp only [RO, OF])) only [RR, RM, LN, TT, d94_at, ↓reduceIte, Nat.reduceEqDiff, Nat.reduceLT, Nat.reduceLeDiff, Nat.reduceAdd, Nat.reduceSub, Nat.reduceMul, Nat.reduceMod, Nat.reduceDiv, Nat.reduceBEq, RH, e_h1, e_h2, e_h3, e_h4, h5', h7']
              refine J.eq ret_seq ?_
              refine J.bind fun x14 h8 => ?_
              have e_h8 := H92_0 _ _ h8
              try simp only [NN, NT, LN] at e_h8
              refine J.bind fun x15 h9 => ?_
              have e_h9 := H95_0 _ _ _ h9
              try simp only [NN, NT, LN] at e_h9
              refine J.bind fun x16 h10 => ?_
              have e_h10 := H136_0 _ _ _ h10
              try simp only [NN, NT, LN] at e_h10
              refine J.bind fun x17 h11 => ?_
              have e_h11 := H137_0 _ _ _ h11
              try simp only [NN, NT, LN] at e_h11
              refine J.bind fun x18 h12 => ?_
              have e_h12 := H97_0 _ _ _ h12
              try simp only [NN, NT, LN] at e_h12
              conv => arg 1; simp (maxSteps := 1000000) (disch := first | assumption | decide | with_unfolding_all rfl | omega | (simp only [LN] <;> omega) | (simp only [RO, OF])) only [RR, RM, LN, TT, d94_at, ↓reduceIte, Nat.reduceEqDiff, Nat.reduceLT, Nat.reduceLeDiff, Nat.reduceAdd, Nat.reduceSub, Nat.reduceMul, Nat.reduceMod, Nat.reduceDiv, Nat.reduceBEq, RH, e_h1, e_h2, e_h3, e_h4, h5', h7', e_h8, e_h9, e_h10, e_h11, e_h12]
              refine J.eq go_seq ?_
              refine J.eq go_seq ?_
              conv => arg 1; simp (maxSteps := 1000000) (disch := first | assumption | decide | with_unfolding_all rfl | omega | (simp only [LN] <;> omega) | (simp only [RO, OF])) only [RR, RM, LN, TT, d94_at, ↓reduceIte, Nat.reduceEqDiff, Nat.reduceLT, Nat.reduceLeDiff, Nat.reduceAdd, Nat.reduceSub, Nat.reduceMul, Nat.reduceMod, Nat.reduceDiv, Nat.reduceBEq, RH, e_h1, e_h2, e_h3, e_h4, h5', h7', e_h8, e_h9, e_h10, e_h11, e_h12]
              refine J.ite (fun h13 => ?_) (fun h13 => ?_)
              · have h13' := decide_eq_true h13
                have h13'' : decide (0 ≤ x18) = false := decide_eq_false (by omega)
                conv => arg 1; simp (maxSteps := 1000000) (disch := first | assumption | decide | with_unfolding_all rfl | omega | (simp only [LN] <;> omega) | (simp only [RO, OF])) only [RR, RM, LN, TT, d94_at, ↓reduceIte, Nat.reduceEqDiff, Nat.reduceLT, Nat.reduceLeDiff, Nat.reduceAdd, Nat.reduceSub, Nat.reduceMul, Nat.reduceMod, Nat.reduceDiv, Nat.reduceBEq, RH, e_h1, e_h2, e_h3, e_h4, h5', h7', e_h8, e_h9, e_h10, e_h11, e_h12, h13'', h13']
                refine J.eq ret_seq ?_
                refine J.some ?_
                simp (maxSteps := 20000000) (disch := first | assumption | decide | with_unfolding_all rfl | omega | (simp only [LN] <;> omega) | (simp only [RO, OF])) only [RR, RM, LN, TT, d94_at, ↓reduceIte, Nat.reduceEqDiff, Nat.reduceLT, Nat.reduceLeDiff, Nat.reduceAdd, Nat.reduceSub, Nat.reduceMul, Nat.reduceMod, Nat.reduceDiv, Nat.reduceBEq, RH, e_h1, e_h2, e_h3, e_h4, h5', h7', e_h8, e_h9, e_h10, e_h11, e_h12, h13'', h13', FF, LN, NN, NT]
              · have h13' := decide_eq_false h13
                have h13'' : decide (0 ≤ x18) = true := decide_eq_true (by omega)
                conv => arg 1; simp (maxSteps := 1000000) (disch := first | assumption | decide | with_unfolding_all rfl | omega | (simp only [LN] <;> omega) | (simp only [RO, OF])) only [RR, RM, LN, TT, d94_at, ↓reduceIte, Nat.reduceEqDiff, Nat.reduceLT, Nat.reduceLeDiff, Nat.reduceAdd, Nat.reduceSub, Nat.reduceMul, Nat.reduceMod, Nat.reduceDiv, Nat.reduceBEq, RH, e_h1, e_h2, e_h3, e_h4, h5', h7', e_h8, e_h9, e_h10, e_h11, e_h12, h13'', h13']
                refine J.ite (fun h14 => ?_) (fun h14 => ?_)
                · have h14' := decide_eq_true h14
                  conv => arg 1; simp (maxSteps := 1000000) (disch := first | assumption | decide | with_unfolding_all rfl | omega | (simp only [LN] <;> omega) | (simp only [RO, OF])) only [RR, RM, LN, TT, d94_at, ↓reduceIte, Nat.reduceEqDiff, Nat.reduceLT, Nat.reduceLeDiff, Nat.reduceAdd, Nat.reduceSub, Nat.reduceMul, Nat.reduceMod, Nat.reduceDiv, Nat.reduceBEq, RH, e_h1, e_h2, e_h3, e_h4, h5', h7', e_h8, e_h9, e_h10, e_h11, e_h12, h13'', h13', h14']
                  refine J.eq ret_seq ?_
                  conv => arg 1; simp (maxSteps := 1000000) (disch := first | assumption | decide | with_unfolding_all rfl | omega | (simp only [LN] <;> omega) | (simp only [RO, OF])) only [RR, RM, LN, TT, d94_at, ↓reduceIte, Nat.reduceEqDiff, Nat.reduceLT, Nat.reduceLeDiff, Nat.reduceAdd, Nat.reduceSub, Nat.reduceMul, Nat.reduceMod, Nat.reduceDiv, Nat.reduceBEq, RH, e_h1, e_h2, e_h3, e_h4, h5', h7', e_h8, e_h9, e_h10, e_h11, e_h12, h13'', h13', h14']
                  refine J.ite (fun h15 => ?_) (fun h15 => ?_)
                  · have h15' := decide_eq_true h15
                    refine J.some ?_
                    simp (maxSteps := 20000000) (disch := first | assumption | decide | with_unfolding_all rfl | omega | (simp only [LN] <;> omega) | (simp only [RO, OF])) only [RR, RM, LN, TT, d94_at, ↓reduceIte, Nat.reduceEqDiff, Nat.reduceLT, Nat.reduceLeDiff, Nat.reduceAdd, Nat.reduceSub, Nat.reduceMul, Nat.reduceMod, Nat.reduceDiv, Nat.reduceBEq, RH, e_h1, e_h2, e_h3, e_h4, h5', h7', e_h8, e_h9, e_h10, e_h11, e_h12, h13'', h13', h14', h15', FF, LN, NN, NT]
                  · have h15' := decide_eq_false h15
                    conv => arg 1; simp (maxSteps := 1000000) (disch := first | assumption | decide | with_unfolding_all rfl | omega | (simp only [LN] <;> omega) | (simp only [RO, OF])) only [RR, RM, LN, TT, d94_at, ↓reduceIte, Nat.reduceEqDiff, Nat.reduceLT, Nat.reduceLeDiff, Nat.reduceAdd, Nat.reduceSub, Nat.reduceMul, Nat.reduceMod, Nat.reduceDiv, Nat.reduceBEq, RH, e_h1, e_h2, e_h3, e_h4, h5', h7', e_h8, e_h9, e_h10, e_h11, e_h12, h13'', h13', h14', h15']
                    refine J.eq ret_seq ?_
                    refine J.some ?_
                    simp (maxSteps := 20000000) (disch := first | assumption | decide | with_unfolding_all rfl | omega | (simp only [LN] <;> omega) | (simp only [RO, OF])) only [RR, RM, LN, TT, d94_at, ↓reduceIte, Nat.reduceEqDiff, Nat.reduceLT, Nat.reduceLeDiff, Nat.reduceAdd, Nat.reduceSub, Nat.reduceMul, Nat.reduceMod, Nat.reduceDiv, Nat.reduceBEq, RH, e_h1, e_h2, e_h3, e_h4, h5', h7', e_h8, e_h9, e_h10, e_h11, e_h12, h13'', h13', h14', h15', FF, LN, NN, NT]
                · have h14' := decide_eq_false h14
                  conv => arg 1; simp (maxSteps := 1000000) (disch := first | assumption | decide | with_unfolding_all rfl | omega | (simp only [LN] <;> omega) | (simp only [RO, OF])) only [RR, RM, LN, TT, d94_at, ↓reduceIte, Nat.reduceEqDiff, Nat.reduceLT, Nat.reduceLeDiff, Nat.reduceAdd, Nat.reduceSub, Nat.reduceMul, Nat.reduceMod, Nat.reduceDiv, Nat.reduceBEq, RH, e_h1, e_h2, e_h3, e_h4, h5', h7', e_h8, e_h9, e_h10, e_h11, e_h12, h13'', h13', h14']
                  refine J.eq ret_seq ?_
                  conv => arg 1; simp (maxSteps := 1000000) (disch := first | assumption | decide | with_unfolding_all rfl | omega | (simp only [LN] <;> omega) | (simp only [RO, OF])) only [RR, RM, LN, TT, d94_at, ↓reduceIte, Nat.reduceEqDiff, Nat.reduceLT, Nat.reduceLeDiff, Nat.reduceAdd, Nat.reduceSub, Nat.reduceMul, Nat.reduceMod, Nat.reduceDiv, Nat.reduceBEq, RH, e_h1, e_h2, e_h3, e_h4, h5', h7', e_h8, e_h9, e_h10, e_h11, e_h12, h13'', h13', h14']
                  refine J.eq ret_seq ?_
                  refine J.some ?_
                  simp (maxSteps := 20000000) (disch := first | assumption | decide | with_unfolding_all rfl | omega | (simp only [LN] <;> omega) | (simp only [RO, OF])) only [RR, RM, LN, TT, d94_at, ↓reduceIte, Nat.reduceEqDiff, Nat.reduceLT, Nat.reduceLeDiff, Nat.reduceAdd, Nat.reduceSub, Nat.reduceMul, Nat.reduceMod, Nat.reduceDiv, Nat.reduceBEq, RH, e_h1, e_h2, e_h3, e_h4, h5', h7', e_h8, e_h9, e_h10, e_h11, e_h12, h13'', h13', h14', FF, LN, NN, NT]
          · refine J.eq go_seq ?_
            conv => arg 1; simp (maxSteps := 1000000) (disch := first | assumption | decide | with_unfolding_all rfl | omega | (simp only [LN] <;> omega) | (simp only [RO, OF])) only [RR, RM, LN, TT, d94_at, ↓reduceIte, Nat.reduceEqDiff, Nat.reduceLT, Nat.reduceLeDiff, Nat.reduceAdd, Nat.reduceSub, Nat.reduceMul, Nat.reduceMod, Nat.reduceDiv, Nat.reduceBEq, RH, e_h1, e_h2, e_h3, e_h4, h5']
            refine J.ite (fun h16 => ?_) (fun h16 => ?_)
            · have h16' := decide_eq_true h16
              conv => arg 1; simp (maxSteps := 1000000) (disch := first | assumption | decide | with_unfolding_all rfl | omega | (simp only [LN] <;> omega) | (simp only [RO, OF])) only [RR, RM, LN, TT, d94_at, ↓reduceIte, Nat.reduceEqDiff, Nat.reduceLT, Nat.reduceLeDiff, Nat.reduceAdd, Nat.reduceSub, Nat.reduceMul, Nat.reduceMod, Nat.reduceDiv, Nat.reduceBEq, RH, e_h1, e_h2, e_h3, e_h4, h5', h16']
              refine J.eq ret_seq ?_
              refine J.some ?_
              simp (maxSteps := 20000000) (disch := first | assumption | decide | with_unfolding_all rfl | omega | (simp only [LN] <;> omega) | (simp only [RO, OF])) only [RR, RM, LN, TT, d94_at, ↓reduceIte, Nat.reduceEqDiff, Nat.reduceLT, Nat.reduceLeDiff, Nat.reduceAdd, Nat.reduceSub, Nat.reduceMul, Nat.reduceMod, Nat.reduceDiv, Nat.reduceBEq, RH, e_h1, e_h2, e_h3, e_h4, h5', h16', FF, LN, NN, NT]
            · have h16' := decide_eq_false h16
              conv => arg 1; simp (maxSteps := 1000000) (disch := first | assumption | decide | with_unfolding_all rfl | omega | (simp only [LN] <;> omega) | (simp only [RO, OF])) only [RR, RM, LN, TT, d94_at, ↓reduceIte, Nat.reduceEqDiff, Nat.reduceLT, Nat.reduceLeDiff, Nat.reduceAdd, Nat.reduceSub, Nat.reduceMul, Nat.reduceMod, Nat.reduceDiv, Nat.reduceBEq, RH, e_h1, e_h2, e_h3, e_h4, h5', h16']
              refine J.eq ret_seq ?_
              conv => arg 1; simp (maxSteps := 1000000) (disch := first | assumption | decide | with_unfolding_all rfl | omega | (simp only [LN] <;> omega) | (simp only [RO, OF])) only [RR, RM, LN, TT, d94_at, ↓reduceIte, Nat.reduceEqDiff, Nat.reduceLT, Nat.reduceLeDiff, Nat.reduceAdd, Nat.reduceSub, Nat.reduceMul, Nat.reduceMod, Nat.reduceDiv, Nat.reduceBEq, RH, e_h1, e_h2, e_h3, e_h4, h5', h16']
              refine J.ite (fun h17 => ?_) (fun h17 => ?_)
              · have h17' : x10 = true := h17
                refine J.some ?_
                simp (maxSteps := 20000000) (disch := first | assumption | decide | with_unfolding_all rfl | omega | (simp only [LN] <;> omega) | (simp only [RO, OF])) only [RR, RM, LN, TT, d94_at, ↓reduceIte, Nat.reduceEqDiff, Nat.reduceLT, Nat.reduceLeDiff, Nat.reduceAdd, Nat.reduceSub, Nat.reduceMul, Nat.reduceMod, Nat.reduceDiv, Nat.reduceBEq, RH, e_h1, e_h2, e_h3, e_h4, h5', h16', h17', FF, LN, NN, NT]
              · have h17' : x10 = false := Bool.eq_false_iff.2 h17
                conv => arg 1; simp (maxSteps := 1000000) (disch := first | assumption | decide | with_unfolding_all rfl | omega | (simp only [LN] <;> omega) | (simp only [RO, OF])) only [RR, RM, LN, TT, d94_at, ↓reduceIte, Nat.reduceEqDiff, Nat.reduceLT, Nat.reduceLeDiff, Nat.reduceAdd, Nat.reduceSub, Nat.reduceMul, Nat.reduceMod, Nat.reduceDiv, Nat.reduceBEq, RH, e_h1, e_h2, e_h3, e_h4, h5', h16', h17']
                refine J.jmp (t := ()) hj4 ?_ ?_
                · first | rfl | (simp only [LN, NN, NT])
                · first | (simp (disch := first | assumption | decide | with_unfolding_all rfl | omega | (simp only [LN] <;> omega) | (simp only [RO, OF])) only [RR, ↓reduceIte, Nat.reduceEqDiff, Nat.reduceLT, Nat.reduceLeDiff, Nat.reduceAdd, Nat.reduceSub, Nat.reduceMul, Nat.reduceMod, Nat.reduceDiv, Nat.reduceBEq, LN, NN, NT]; done) | (simp (disch := first | assumption | decide | with_unfolding_all rfl | omega | (simp only [LN] <;> omega) | (simp only [RO, OF])) only [RR, ↓reduceIte, Nat.reduceEqDiff, Nat.reduceLT, Nat.reduceLeDiff, Nat.reduceAdd, Nat.reduceSub, Nat.reduceMul, Nat.reduceMod, Nat.reduceDiv, Nat.reduceBEq, LN, fm_app, NN, NT]; done) | rfl
      · conv => arg 1; simp (maxSteps := 1000000) (disch := first | assumption | decide | with_unfolding_all rfl | omega | (simp only [LN] <;> omega) | (simp only [RO, OF])) only [RR, RM, LN, TT, d94_at, ↓reduceIte, Nat.reduceEqDiff, Nat.reduceLT, Nat.reduceLeDiff, Nat.reduceAdd, Nat.reduceSub, Nat.reduceMul, Nat.reduceMod, Nat.reduceDiv, Nat.reduceBEq, RH, e_h1]
        refine J.ite (fun h18 => ?_) (fun h18 => ?_)
        · have h18' := decide_eq_true h18
          conv => arg 1; simp (maxSteps := 1000000) (disch := first | assumption | decide | with_unfolding_all rfl | omega | (simp only [LN] <;> omega) | (simp only [RO, OF])) only [RR, RM, LN, TT, d94_at, ↓reduceIte, Nat.reduceEqDiff, Nat.reduceLT, Nat.reduceLeDiff, Nat.reduceAdd, Nat.reduceSub, Nat.reduceMul, Nat.reduceMod, Nat.reduceDiv, Nat.reduceBEq, RH, e_h1, h18']
          refine J.ite (fun h19 => ?_) (fun h19 => ?_)
          · have h19' : x8 = true := h19
            conv => arg 1; simp (maxSteps := 1000000) (disch := first | assumption | decide | with_unfolding_all rfl | omega | (simp only [LN] <;> omega) | (simp only [RO, OF])) only [RR, RM, LN, TT, d94_at, ↓reduceIte, Nat.reduceEqDiff, Nat.reduceLT, Nat.reduceLeDiff, Nat.reduceAdd, Nat.reduceSub, Nat.reduceMul, Nat.reduceMod, Nat.reduceDiv, Nat.reduceBEq, RH, e_h1, h18', h19']
            refine J.jmp (t := true) hj3 ?_ ?_
            · first | rfl | (simp only [LN, NN, NT])
            · first | (simp (disch := first | assumption | decide | with_unfolding_all rfl | omega | (simp only [LN] <;> omega) | (simp only [RO, OF])) only [RR, ↓reduceIte, Nat.reduceEqDiff, Nat.reduceLT, Nat.reduceLeDiff, Nat.reduceAdd, Nat.reduceSub, Nat.reduceMul, Nat.reduceMod, Nat.reduceDiv, Nat.reduceBEq, LN, NN, NT]; done) | (simp (disch := first | assumption | decide | with_unfolding_all rfl | omega | (simp only [LN] <;> omega) | (simp only [RO, OF])) only [RR, ↓reduceIte, Nat.reduceEqDiff, Nat.reduceLT, Nat.reduceLeDiff, Nat.reduceAdd, Nat.reduceSub, Nat.reduceMul, Nat.reduceMod, Nat.reduceDiv, Nat.reduceBEq, LN, fm_app, NN, NT]; done) | rfl
          · have h19' : x8 = false := Bool.eq_false_iff.2 h19
            conv => arg 1; simp (maxSteps := 1000000) (disch := first | assumption | decide | with_unfolding_all rfl | omega | (simp only [LN] <;> omega) | (simp only [RO, OF])) only [RR, RM, LN, TT, d94_at, ↓reduceIte, Nat.reduceEqDiff, Nat.reduceLT, Nat.reduceLeDiff, Nat.reduceAdd, Nat.reduceSub, Nat.reduceMul, Nat.reduceMod, Nat.reduceDiv, Nat.reduceBEq, RH, e_h1, h18', h19']
            refine J.ite (fun h20 => ?_) (fun h20 => ?_)
            · exact J.none
            · have h20' := decide_eq_false h20
              conv => arg 1; simp (maxSteps := 1000000) (disch := first | assumption | decide | with_unfolding_all rfl | omega | (simp only [LN] <;> omega) | (simp only [RO, OF])) only [RR, RM, LN, TT, d94_at, ↓reduceIte, Nat.reduceEqDiff, Nat.reduceLT, Nat.reduceLeDiff, Nat.reduceAdd, Nat.reduceSub, Nat.reduceMul, Nat.reduceMod, Nat.reduceDiv, Nat.reduceBEq, RH, e_h1, h18', h19', h20']
              refine J.jmp (t := false) hj3 ?_ ?_
              · first | rfl | (simp only [LN, NN, NT])
              · first | (simp (disch := first | assumption | decide | with_unfolding_all rfl | omega | (simp only [LN] <;> omega) | (simp only [RO, OF])) only [RR, ↓reduceIte, Nat.reduceEqDiff, Nat.reduceLT, Nat.reduceLeDiff, Nat.reduceAdd, Nat.reduceSub, Nat.reduceMul, Nat.reduceMod, Nat.reduceDiv, Nat.reduceBEq, LN, NN, NT]; done) | (simp (disch := first | assumption | decide | with_unfolding_all rfl | omega | (simp only [LN] <;> omega) | (simp only [RO, OF])) only [RR, ↓reduceIte, Nat.reduceEqDiff, Nat.reduceLT, Nat.reduceLeDiff, Nat.reduceAdd, Nat.reduceSub, Nat.reduceMul, Nat.reduceMod, Nat.reduceDiv, Nat.reduceBEq, LN, fm_app, NN, NT]; done) | rfl
        · have h18' := decide_eq_false h18
          conv => arg 1; simp (maxSteps := 1000000) (disch := first | assumption | decide | with_unfolding_all rfl | omega | (simp only [LN] <;> omega) | (simp only [RO, OF])) only [RR, RM, LN, TT, d94_at, ↓reduceIte, Nat.reduceEqDiff, Nat.reduceLT, Nat.reduceLeDiff, Nat.reduceAdd, Nat.reduceSub, Nat.reduceMul, Nat.reduceMod, Nat.reduceDiv, Nat.reduceBEq, RH, e_h1, h18']
          refine J.ite (fun h21 => ?_) (fun h21 => ?_)
          · have h21' := decide_eq_true h21
            conv => arg 1; simp (maxSteps := 1000000) (disch := first | assumption | decide | with_unfolding_all rfl | omega | (simp only [LN] <;> omega) | (simp only [RO, OF])) only [RR, RM, LN, TT, d94_at, ↓reduceIte, Nat.reduceEqDiff, Nat.reduceLT, Nat.reduceLeDiff, Nat.reduceAdd, Nat.reduceSub, Nat.reduceMul, Nat.reduceMod, Nat.reduceDiv, Nat.reduceBEq, RH, e_h1, h18', h21']
            refine J.jmp (t := !x8) hj3 ?_ ?_
            · first | rfl | (simp only [LN, NN, NT])
            · first | (simp (disch := first | assumption | decide | with_unfolding_all rfl | omega | (simp only [LN] <;> omega) | (simp only [RO, OF])) only [RR, ↓reduceIte, Nat.reduceEqDiff, Nat.reduceLT, Nat.reduceLeDiff, Nat.reduceAdd, Nat.reduceSub, Nat.reduceMul, Nat.reduceMod, Nat.reduceDiv, Nat.reduceBEq, LN, NN, NT]; done) | (simp (disch := first | assumption | decide | with_unfolding_all rfl | omega | (simp only [LN] <;> omega) | (simp only [RO, OF])) only [RR, ↓reduceIte, Nat.reduceEqDiff, Nat.reduceLT, Nat.reduceLeDiff, Nat.reduceAdd, Nat.reduceSub, Nat.reduceMul, Nat.reduceMod, Nat.reduceDiv, Nat.reduceBEq, LN, fm_app, NN, NT]; done) | rfl
          · have h21' := decide_eq_false h21
            conv => arg 1; simp (maxSteps := 1000000) (disch := first | assumption | decide | with_unfolding_all rfl | omega | (simp only [LN] <;> omega) | (simp only [RO, OF])) only [RR, RM, LN, TT, d94_at, ↓reduceIte, Nat.reduceEqDiff, Nat.reduceLT, Nat.reduceLeDiff, Nat.reduceAdd, Nat.reduceSub, Nat.reduceMul, Nat.reduceMod, Nat.reduceDiv, Nat.reduceBEq, RH, e_h1, h18', h21']
            refine J.jmp (t := false) hj3 ?_ ?_
            · first | rfl | (simp only [LN, NN, NT])
            · first | (simp (disch := first | assumption | decide | with_unfolding_all rfl | omega | (simp only [LN] <;> omega) | (simp only [RO, OF])) only [RR, ↓reduceIte, Nat.reduceEqDiff, Nat.reduceLT, Nat.reduceLeDiff, Nat.reduceAdd, Nat.reduceSub, Nat.reduceMul, Nat.reduceMod, Nat.reduceDiv, Nat.reduceBEq, LN, NN, NT]; done) | (simp (disch := first | assumption | decide | with_unfolding_all rfl | omega | (simp only [LN] <;> omega) | (simp only [RO, OF])) only [RR, ↓reduceIte, Nat.reduceEqDiff, Nat.reduceLT, Nat.reduceLeDiff, Nat.reduceAdd, Nat.reduceSub, Nat.reduceMul, Nat.reduceMod, Nat.reduceDiv, Nat.reduceBEq, LN, fm_app, NN, NT]; done) | rfl
    · conv => arg 1; simp (maxSteps := 1000000) (disch := first | assumption | decide | with_unfolding_all rfl | omega | (simp only [LN] <;> omega) | (simp only [RO, OF])) only [RR, RM, LN, TT, d94_at, ↓reduceIte, Nat.reduceEqDiff, Nat.reduceLT, Nat.reduceLeDiff, Nat.reduceAdd, Nat.reduceSub, Nat.reduceMul, Nat.reduceMod, Nat.reduceDiv, Nat.reduceBEq, RH, e_h1]
      refine J.ite (fun h22 => ?_) (fun h22 => ?_)
      · have h22' := decide_eq_true h22
        conv => arg 1; simp (maxSteps := 1000000) (disch := first | assumption | decide | with_unfolding_all rfl | omega | (simp only [LN] <;> omega) | (simp only [RO, OF])) only [RR, RM, LN, TT, d94_at, ↓reduceIte, Nat.reduceEqDiff, Nat.reduceLT, Nat.reduceLeDiff, Nat.reduceAdd, Nat.reduceSub, Nat.reduceMul, Nat.reduceMod, Nat.reduceDiv, Nat.reduceBEq, RH, e_h1, h22']
        refine J.ite (fun h23 => ?_) (fun h23 => ?_)
        · have h23' : x6 = true := h23
          conv => arg 1; simp (maxSteps := 1000000) (disch := first | assumption | decide | with_unfolding_all rfl | omega | (simp only [LN] <;> omega) | (simp only [RO, OF])) only [RR, RM, LN, TT, d94_at, ↓reduceIte, Nat.reduceEqDiff, Nat.reduceLT, Nat.reduceLeDiff, Nat.reduceAdd, Nat.reduceSub, Nat.reduceMul, Nat.reduceMod, Nat.reduceDiv, Nat.reduceBEq, RH, e_h1, h22', h23']
          refine J.ite (fun h24 => ?_) (fun h24 => ?_)
          · exact J.none
          · have h24' := decide_eq_false h24
            conv => arg 1; simp (maxSteps := 1000000) (disch := first | assumption | decide | with_unfolding_all rfl | omega | (simp only [LN] <;> omega) | (simp only [RO, OF])) only [RR, RM, LN, TT, d94_at, ↓reduceIte, Nat.reduceEqDiff, Nat.reduceLT, Nat.reduceLeDiff, Nat.reduceAdd, Nat.reduceSub, Nat.reduceMul, Nat.reduceMod, Nat.reduceDiv, Nat.reduceBEq, RH, e_h1, h22', h23', h24']
            refine J.jmp (t := (true, false)) hj2 ?_ ?_
            · first | rfl | (simp only [LN, NN, NT])
            · first | (simp (disch := first | assumption | decide | with_unfolding_all rfl | omega | (simp only [LN] <;> omega) | (simp only [RO, OF])) only [RR, ↓reduceIte, Nat.reduceEqDiff, Nat.reduceLT, Nat.reduceLeDiff, Nat.reduceAdd, Nat.reduceSub, Nat.reduceMul, Nat.reduceMod, Nat.reduceDiv, Nat.reduceBEq, LN, NN, NT]; done) | (simp (disch := first | assumption | decide | with_unfolding_all rfl | omega | (simp only [LN] <;> omega) | (simp only [RO, OF])) only [RR, ↓reduceIte, Nat.reduceEqDiff, Nat.reduceLT, Nat.reduceLeDiff, Nat.reduceAdd, Nat.reduceSub, Nat.reduceMul, Nat.reduceMod, Nat.reduceDiv, Nat.reduceBEq, LN, fm_app, NN, NT]; done) | rfl
        · have h23' : x6 = false := Bool.eq_false_iff.2 h23
          conv => arg 1; simp (maxSteps := 1000000) (disch := first | assumption | decide | with_unfolding_all rfl | omega | (simp only [LN] <;> omega) | (simp only [RO, OF])) only [RR, RM, LN, TT, d94_at, ↓reduceIte, Nat.reduceEqDiff, Nat.reduceLT, Nat.reduceLeDiff, Nat.reduceAdd, Nat.reduceSub, Nat.reduceMul, Nat.reduceMod, Nat.reduceDiv, Nat.reduceBEq, RH, e_h1, h22', h23']
          refine J.jmp (t := (false, true)) hj2 ?_ ?_
          · first | rfl | (simp only [LN, NN, NT])
          · first | (simp (disch := first | assumption | decide | with_unfolding_all rfl | omega | (simp only [LN] <;> omega) | (simp only [RO, OF])) only [RR, ↓reduceIte, Nat.reduceEqDiff, Nat.reduceLT, Nat.reduceLeDiff, Nat.reduceAdd, Nat.reduceSub, Nat.reduceMul, Nat.reduceMod, Nat.reduceDiv, Nat.reduceBEq, LN, NN, NT]; done) | (simp (disch := first | assumption | decide | with_unfolding_all rfl | omega | (simp only [LN] <;> omega) | (simp only [RO, OF])) only [RR, ↓reduceIte, Nat.reduceEqDiff, Nat.reduceLT, Nat.reduceLeDiff, Nat.reduceAdd, Nat.reduceSub, Nat.reduceMul, Nat.reduceMod, Nat.reduceDiv, Nat.reduceBEq, LN, fm_app, NN, NT]; done) | rfl
      · have h22' := decide_eq_false h22
        conv => arg 1; simp (maxSteps := 1000000) (disch := first | assumption | decide | with_unfolding_all rfl | omega | (simp only [LN] <;> omega) | (simp only [RO, OF])) only [RR, RM, LN, TT, d94_at, ↓reduceIte, Nat.reduceEqDiff, Nat.reduceLT, Nat.reduceLeDiff, Nat.reduceAdd, Nat.reduceSub, Nat.reduceMul, Nat.reduceMod, Nat.reduceDiv, Nat.reduceBEq, RH, e_h1, h22']
        refine J.ite (fun h25 => ?_) (fun h25 => ?_)
        · have h25' := decide_eq_true h25
          conv => arg 1; simp (maxSteps := 1000000) (disch := first | assumption | decide | with_unfolding_all rfl | omega | (simp only [LN] <;> omega) | (simp only [RO, OF])) only [RR, RM, LN, TT, d94_at, ↓reduceIte, Nat.reduceEqDiff, Nat.reduceLT, Nat.reduceLeDiff, Nat.reduceAdd, Nat.reduceSub, Nat.reduceMul, Nat.reduceMod, Nat.reduceDiv, Nat.reduceBEq, RH, e_h1, h22', h25']
          refine J.jmp (t := (x6, x6)) hj2 ?_ ?_
          · first | rfl | (simp only [LN, NN, NT])
          · first | (simp (disch := first | assumption | decide | with_unfolding_all rfl | omega | (simp only [LN] <;> omega) | (simp only [RO, OF])) only [RR, ↓reduceIte, Nat.reduceEqDiff, Nat.reduceLT, Nat.reduceLeDiff, Nat.reduceAdd, Nat.reduceSub, Nat.reduceMul, Nat.reduceMod, Nat.reduceDiv, Nat.reduceBEq, LN, NN, NT]; done) | (simp (disch := first | assumption | decide | with_unfolding_all rfl | omega | (simp only [LN] <;> omega) | (simp only [RO, OF])) only [RR, ↓reduceIte, Nat.reduceEqDiff, Nat.reduceLT, Nat.reduceLeDiff, Nat.reduceAdd, Nat.reduceSub, Nat.reduceMul, Nat.reduceMod, Nat.reduceDiv, Nat.reduceBEq, LN, fm_app, NN, NT]; done) | rfl
        · have h25' := decide_eq_false h25
          conv => arg 1; simp (maxSteps := 1000000) (disch := first | assumption | decide | with_unfolding_all rfl | omega | (simp only [LN] <;> omega) | (simp only [RO, OF])) only [RR, RM, LN, TT, d94_at, ↓reduceIte, Nat.reduceEqDiff, Nat.reduceLT, Nat.reduceLeDiff, Nat.reduceAdd, Nat.reduceSub, Nat.reduceMul, Nat.reduceMod, Nat.reduceDiv, Nat.reduceBEq, RH, e_h1, h22', h25']
          refine J.jmp (t := (x6, false)) hj2 ?_ ?_
          · first | rfl | (simp only [LN, NN, NT])
          · first | (simp (disch := first | assumption | decide | with_unfolding_all rfl | omega | (simp only [LN] <;> omega) | (simp only [RO, OF])) only [RR, ↓reduceIte, Nat.reduceEqDiff, Nat.reduceLT, Nat.reduceLeDiff, Nat.reduceAdd, Nat.reduceSub, Nat.reduceMul, Nat.reduceMod, Nat.reduceDiv, Nat.reduceBEq, LN, NN, NT]; done) | (simp (disch := first | assumption | decide | with_unfolding_all rfl | omega | (simp only [LN] <;> omega) | (simp only [RO, OF])) only [RR, ↓reduceIte, Nat.reduceEqDiff, Nat.reduceLT, Nat.reduceLeDiff, Nat.reduceAdd, Nat.reduceSub, Nat.reduceMul, Nat.reduceMod, Nat.reduceDiv, Nat.reduceBEq, LN, fm_app, NN, NT]; done) | rfl
  · conv => arg 1; simp (maxSteps := 1000000) (disch := first | assumption | decide | with_unfolding_all rfl | omega | (simp only [LN] <;> omega) | (simp only [RO, OF])) only [RR, RM, LN, TT, d94_at, ↓reduceIte, Nat.reduceEqDiff, Nat.reduceLT, Nat.reduceLeDiff, Nat.reduceAdd, Nat.reduceSub, Nat.reduceMul, Nat.reduceMod, Nat.reduceDiv, Nat.reduceBEq, RH, e_h1]
    refine J.ite (fun h26 => ?_) (fun h26 => ?_)
    · have h26' : x2 = true := h26
      conv => arg 1; simp (maxSteps := 1000000) (disch := first | assumption | decide | with_unfolding_all rfl | omega | (simp only [LN] <;> omega) | (simp only [RO, OF])) only [RR, RM, LN, TT, d94_at, ↓reduceIte, Nat.reduceEqDiff, Nat.reduceLT, Nat.reduceLeDiff, Nat.reduceAdd, Nat.reduceSub, Nat.reduceMul, Nat.reduceMod, Nat.reduceDiv, Nat.reduceBEq, RH, e_h1, h26']
      refine J.jmp (t := (true, 2147483648)) hj1 ?_ ?_
      · first | rfl | (simp only [LN, NN, NT])
      · first | (simp (disch := first | assumption | decide | with_unfolding_all rfl | omega | (simp only [LN] <;> omega) | (simp only [RO, OF])) only [RR, ↓reduceIte, Nat.reduceEqDiff, Nat.reduceLT, Nat.reduceLeDiff, Nat.reduceAdd, Nat.reduceSub, Nat.reduceMul, Nat.reduceMod, Nat.reduceDiv, Nat.reduceBEq, LN, NN, NT]; done) | (simp (disch := first | assumption | decide | with_unfolding_all rfl | omega | (simp only [LN] <;> omega) | (simp only [RO, OF])) only [RR, ↓reduceIte, Nat.reduceEqDiff, Nat.reduceLT, Nat.reduceLeDiff, Nat.reduceAdd, Nat.reduceSub, Nat.reduceMul, Nat.reduceMod, Nat.reduceDiv, Nat.reduceBEq, LN, fm_app, NN, NT]; done) | rfl
    · have h26' : x2 = false := Bool.eq_false_iff.2 h26
      conv => arg 1; simp (maxSteps := 1000000) (disch := first | assumption | decide | with_unfolding_all rfl | omega | (simp only [LN] <;> omega) | (simp only [RO, OF])) only [RR, RM, LN, TT, d94_at, ↓reduceIte, Nat.reduceEqDiff, Nat.reduceLT, Nat.reduceLeDiff, Nat.reduceAdd, Nat.reduceSub, Nat.reduceMul, Nat.reduceMod, Nat.reduceDiv, Nat.reduceBEq, RH, e_h1, h26']
      refine J.jmp (t := (false, 0)) hj1 ?_ ?_
      · first | rfl | (simp only [LN, NN, NT])
      · first | (simp (disch := first | assumption | decide | with_unfolding_all rfl | omega | (simp only [LN] <;> omega) | (simp only [RO, OF])) only [RR, ↓reduceIte, Nat.reduceEqDiff, Nat.reduceLT, Nat.reduceLeDiff, Nat.reduceAdd, Nat.reduceSub, Nat.reduceMul, Nat.reduceMod, Nat.reduceDiv, Nat.reduceBEq, LN, NN, NT]; done) | (simp (disch := first | assumption | decide | with_unfolding_all rfl | omega | (simp only [LN] <;> omega) | (simp only [RO, OF])) only [RR, ↓reduceIte, Nat.reduceEqDiff, Nat.reduceLT, Nat.reduceLeDiff, Nat.reduceAdd, Nat.reduceSub, Nat.reduceMul, Nat.reduceMod, Nat.reduceDiv, Nat.reduceBEq, LN, fm_app, NN, NT]; done) | rfl
noncomputable def t94 (fu : Nat) : CallP := orE 166 (mkC (fun (t : (List Int) × (List Int)) => ([.arr t.1.length (lm (ik .u32) t.1), .arr t.2.length (lm (ik .u32) t.2)] : List AV)) (fun t => ref01_least fu t.1 t.2) e166) (orE 92 (mkC (fun (t : Int) => ([.v (.int .u32 t)] : List AV)) (fun t => ref01_Amount fu t) e92) (orE 136 (mkC (fun (t : (List Int) × (List Int)) => ([.arr t.1.length (lm (ik .u32) t.1), .arr t.2.length (lm (ik .u32) t.2)] : List AV)) (fun t => ref01_Times fu t.1 t.2) e136) (orE 97 (mkC (fun (t : (List Int) × (List Int)) => ([.arr t.1.length (lm (ik .u32) t.1), .arr t.2.length (lm (ik .u32) t.2)] : List AV)) (fun t => ref01_Compare fu t.1 t.2) e97) (orE 95 (mkC (fun (t : (List Int) × (List Int)) => ([.arr t.1.length (lm (ik .u32) t.1), .arr t.2.length (lm (ik .u32) t.2)] : List AV)) (fun t => ref01_Plus fu t.1 t.2) e95) (orE 137 (mkC (fun (t : (List Int) × Int) => ([.arr t.1.length (lm (ik .u32) t.1), .v (.int .i64 t.2)] : List AV)) (fun t => ref01_Twice fu t.1 t.2) e137) (noP))))))
theorem t94_ok (fu : Nat) : CpOK Tryz.prog (t94 fu ) := orE_ok (orE_ok (orE_ok (orE_ok (orE_ok (orE_ok (noP_ok) (mkC_ok (fun t b h => ok137 fu t.1 t.2  b h))) (mkC_ok (fun t b h => ok95 fu t.1 t.2  b h))) (mkC_ok (fun t b h => ok97 fu t.1 t.2  b h))) (mkC_ok (fun t b h => ok136 fu t.1 t.2  b h))) (mkC_ok (fun t b h => ok92 fu t  b h))) (mkC_ok (fun t b h => ok166 fu t.1 t.2  b h))
theorem ok94 (fu : Nat) (x1 : Int) (x2 : Bool) (x3 : List Int) (x4 : List Int) (r) (h : ref01_Rounded fu x1 x2 x3 x4 = some r) : PureOK Tryz.prog 94 [.v (.int .i64 x1), .v (.bool x2), .arr x3.length (lm (ik .u32) x3), .arr x4.length (lm (ik .u32) x4)] (e94 r) :=
  pure_J mixed (cp := t94 fu ) (t94_ok fu  ) noI_ok i94 (w94 _ fu x1 x2 x3 x4  (fun a0 a1 r h => orE_hit (mkC_at (a := (a0, a1)) (by intro a b h; first | (exact rfl) | (simp only [INJ, IJ] at h; first | exact h | (simp_all [Prod.ext_iff]) )) h)) (fun a0 r h => orE_miss (by decide) (orE_hit (mkC_at (a := a0) (by intro a b h; first | (exact rfl) | (simp only [INJ, IJ] at h; first | exact h | (simp_all [Prod.ext_iff]) )) h))) (fun a0 a1 r h => orE_miss (by decide) (orE_miss (by decide) (orE_hit (mkC_at (a := (a0, a1)) (by intro a b h; first | (exact rfl) | (simp only [INJ, IJ] at h; first | exact h | (simp_all [Prod.ext_iff]) )) h)))) (fun a0 a1 r h => orE_miss (by decide) (orE_miss (by decide) (orE_miss (by decide) (orE_hit (mkC_at (a := (a0, a1)) (by intro a b h; first | (exact rfl) | (simp only [INJ, IJ] at h; first | exact h | (simp_all [Prod.ext_iff]) )) h))))) (fun a0 a1 r h => orE_miss (by decide) (orE_miss (by decide) (orE_miss (by decide) (orE_miss (by decide) (orE_hit (mkC_at (a := (a0, a1)) (by intro a b h; first | (exact rfl) | (simp only [INJ, IJ] at h; first | exact h | (simp_all [Prod.ext_iff]) )) h)))))) (fun a0 a1 r h => orE_miss (by decide) (orE_miss (by decide) (orE_miss (by decide) (orE_miss (by decide) (orE_miss (by decide) (orE_hit (mkC_at (a := (a0, a1)) (by intro a b h; first | (exact rfl) | (simp only [INJ, IJ] at h; first | exact h | (simp_all [Prod.ext_iff]) )) h)))))))) h
/-! 98: lattice/latticeref01.Minus -/
def d98 : List (Nat × List Nat) := [(0, [4]), (0, [0, 1, 6, 7]), (0, [1000005]), (0, []), (0, []), (0, []), (0, []), (0, []), (0, [10, 11, 12]), (0, []), (0, [14, 15]), (0, []), (0, [16]), (0, []), (0, [17, 18, 19]), (0, []), (0, [21, 22, 23, 24, 25, 26, 27]), (0, []), (0, [28, 29, 30, 31, 32]), (0, []), (0, []), (0, []), (0, [33, 34]), (0, []), (0, [36, 37]), (0, []), (0, []), (0, []), (0, [8, 9, 38, 39, 40, 41, 42, 43, 44]), (0, []), (0, [5, 45, 46])]
def d98_at := And.intro (show d98.getD 0 (0, []) = (0, [4]) from rfl) <| And.intro (show d98.getD 1 (0, []) = (0, [0, 1, 6, 7]) from rfl) <| And.intro (show d98.getD 2 (0, []) = (0, [1000005]) from rfl) <| And.intro (show d98.getD 3 (0, []) = (0, []) from rfl) <| And.intro (show d98.getD 4 (0, []) = (0, []) from rfl) <| And.intro (show d98.getD 5 (0, []) = (0, []) from rfl) <| And.intro (show d98.getD 6 (0, []) = (0, []) from rfl) <| And.intro (show d98.getD 7 (0, []) = (0, []) from rfl) <| And.intro (show d98.getD 8 (0, []) = (0, [10, 11, 12]) from rfl) <| And.intro (show d98.getD 9 (0, []) = (0, []) from rfl) <| And.intro (show d98.getD 10 (0, []) = (0, [14, 15]) from rfl) <| And.intro (show d98.getD 11 (0, []) = (0, []) from rfl) <| And.intro (show d98.getD 12 (0, []) = (0, [16]) from rfl) <| And.intro (show d98.getD 13 (0, []) = (0, []) from rfl) <| And.intro (show d98.getD 14 (0, []) = (0, [17, 18, 19]) from rfl) <| And.intro (show d98.getD 15 (0, []) = (0, []) from rfl) <| And.intro (show d98.getD 16 (0, []) = (0, [21, 22, 23, 24, 25, 26, 27]) from rfl) <| And.intro (show d98.getD 17 (0, []) = (0, []) from rfl) <| And.intro (show d98.getD 18 (0, []) = (0, [28, 29, 30, 31, 32]) from rfl) <| And.intro (show d98.getD 19 (0, []) = (0, []) from rfl) <| And.intro (show d98.getD 20 (0, []) = (0, []) from rfl) <| And.intro (show d98.getD 21 (0, []) = (0, []) from rfl) <| And.intro (show d98.getD 22 (0, []) = (0, [33, 34]) from rfl) <| And.intro (show d98.getD 23 (0, []) = (0, []) from rfl) <| And.intro (show d98.getD 24 (0, []) = (0, [36, 37]) from rfl) <| And.intro (show d98.getD 25 (0, []) = (0, []) from rfl) <| And.intro (show d98.getD 26 (0, []) = (0, []) from rfl) <| And.intro (show d98.getD 27 (0, []) = (0, []) from rfl) <| And.intro (show d98.getD 28 (0, []) = (0, [8, 9, 38, 39, 40, 41, 42, 43, 44]) from rfl) <| And.intro (show d98.getD 29 (0, []) = (0, []) from rfl) <| (show d98.getD 30 (0, []) = (0, [5, 45, 46]) from rfl)
theorem i98 : finfo Tryz.prog 98 d98 = some ⟨bodyOf Tryz.f98, [.tmp 4], [119]⟩ := finfo_at Tryz.func98 rfl (by kernel_rfl) (by kernel_rfl)
def e98 : (List Int) → AV := fun r => .arr r.length (lm (ik .u32) r)
set_option maxHeartbeats 20000000 in
theorem w98 (cp : CallP) (fu : Nat) (x1 : List Int) (x2 : List Int) (H167_0 : ∀ (a0 : List Int) r, ref01_trim fu a0 = some r → cp 167 [.arr a0.length (lm (ik .u32) a0)] = some (.arr r.length (lm (ik .u32) r))) : J (go Tryz.prog noC cp noI 0 [] d98 fu (fin Tryz.prog [.tmp 4] [119]) (bodyOf Tryz.f98) (initE 0 [.arr x1.length (lm (ik .u32) x1), .arr x2.length (lm (ik .u32) x2)]) [] []) (ref01_Minus fu x1 x2) e98 := by
  unfold ref01_Minus e98
  conv => arg 1; simp (maxSteps := 1000000) (disch := first | assumption | decide | with_unfolding_all rfl | omega | (simp only [LN] <;> omega) | (simp only [RO, OF])) only [bodyOf, Tryz.f98, RR, RM, LN, TT, d98_at, ↓reduceIte, Nat.reduceEqDiff, Nat.reduceLT, Nat.reduceLeDiff, Nat.reduceAdd, Nat.reduceSub, Nat.reduceMul, Nat.reduceMod, Nat.reduceDiv, Nat.reduceBEq, RH]
  refine J.joinS (fun (t : List Int) => ([(5, .own (0, 5, 77) 0 t.length t.length)], [((0, 5, 77), .sl true true 1 t.length (lm (ik .u32) t))])) (fun t => ref01_Minus_k1 fu t) ?_ (fun hj1 => ?_)
  · rintro x3
    show J _ (ref01_Minus_k1 fu x3) _
    unfold ref01_Minus_k1
    refine J.bind fun x4 h1 => ?_
    have e_h1 := H167_0 _ _ h1
    try simp only [NN, NT, LN] at e_h1
    refine J.some ?_
    simp (maxSteps := 20000000) (disch := first | assumption | decide | with_unfolding_all rfl | omega | (simp only [LN] <;> omega) | (simp only [RO, OF])) only [RR, RM, LN, TT, d98_at, ↓reduceIte, Nat.reduceEqDiff, Nat.reduceLT, Nat.reduceLeDiff, Nat.reduceAdd, Nat.reduceSub, Nat.reduceMul, Nat.reduceMod, Nat.reduceDiv, Nat.reduceBEq, RH, e_h1, FF, LN, NN, NT]
  · conv => arg 1; simp (maxSteps := 1000000) (disch := first | assumption | decide | with_unfolding_all rfl | omega | (simp only [LN] <;> omega) | (simp only [RO, OF])) only [RR, RM, LN, TT, d98_at, ↓reduceIte, Nat.reduceEqDiff, Nat.reduceLT, Nat.reduceLeDiff, Nat.reduceAdd, Nat.reduceSub, Nat.reduceMul, Nat.reduceMod, Nat.reduceDiv, Nat.reduceBEq, RH]
    unfold ref01_Minus_W1
    refine J.loop (fun (s : (List Int) × Int × Int) => ([(0, .arr x1.length (lm (ik .u32) x1)), (1, .arr x2.length (lm (ik .u32) x2)), (5, .own (0, 5, 77) 0 s.1.length s.1.length), (6, .v (.int .u64 s.2.1)), (7, .v (.int .i64 s.2.2))], [((0, 5, 77), .sl true true 1 s.1.length (lm (ik .u32) s.1))])) (fun next s => ref01_Minus_L1 fu x1 x2 (fun x10 x11 x12 => next (x10, x11, x12)) s.1 s.2.1 s.2.2) (s0 := (([] : List Int), 0, 0)) ?_ ?_ ?_
    · first | rfl | (simp only [LN, NN, NT])
    · first | (simp (disch := first | assumption | decide | with_unfolding_all rfl | omega | (simp only [LN] <;> omega) | (simp only [RO, OF])) only [RR, ↓reduceIte, Nat.reduceEqDiff, Nat.reduceLT, Nat.reduceLeDiff, Nat.reduceAdd, Nat.reduceSub, Nat.reduceMul, Nat.reduceMod, Nat.reduceDiv, Nat.reduceBEq, LN, NN, NT]; done) | (simp (disch := first | assumption | decide | with_unfolding_all rfl | omega | (simp only [LN] <;> omega) | (simp only [RO, OF])) only [RR, ↓reduceIte, Nat.reduceEqDiff, Nat.reduceLT, Nat.reduceLeDiff, Nat.reduceAdd, Nat.reduceSub, Nat.reduceMul, Nat.reduceMod, Nat.reduceDiv, Nat.reduceBEq, LN, fm_app, NN, NT]; done) | rfl
    rintro next k1 hn1 ⟨x10, x11, x12⟩
    let nx1 : (List Int) → Int → Int → Option (List Int) := (fun x10 x11 x12 => next (x10, x11, x12))
    show J _ (ref01_Minus_L1 fu x1 x2 nx1 x10 x11 x12) _
    unfold ref01_Minus_L1
    refine J.eq go_seq ?_
    conv => arg 1; simp (maxSteps := 1000000) (disch := first | assumption | decide | with_unfolding_all rfl | omega | (simp only [LN] <;> omega) | (simp only [RO, OF])) only [RR, RM, LN, TT, d98_at, ↓reduceIte, Nat.reduceEqDiff, Nat.reduceLT, Nat.reduceLeDiff, Nat.reduceAdd, Nat.reduceSub, Nat.reduceMul, Nat.reduceMod, Nat.reduceDiv, Nat.reduceBEq, RH]
    refine J.ite (fun h2 => ?_) (fun h2 => ?_)
    · have h2' := decide_eq_true h2
      have h2'' : decide ((x1.length : Int) ≤ x12) = false := decide_eq_false (by omega)
      conv => arg 1; simp (maxSteps := 1000000) (disch := first | assumption | decide | with_unfolding_all rfl | omega | (simp only [LN] <;> omega) | (simp only [RO, OF])) only [RR, RM, LN, TT, d98_at, ↓reduceIte, Nat.reduceEqDiff, Nat.reduceLT, Nat.reduceLeDiff, Nat.reduceAdd, Nat.reduceSub, Nat.reduceMul, Nat.reduceMod, Nat.reduceDiv, Nat.reduceBEq, RH, h2'', h2']
      refine J.eq ret_seq ?_
      refine J.eq go_seq ?_
      conv => arg 1; simp (maxSteps := 1000000) (disch := first | assumption | decide | with_unfolding_all rfl | omega | (simp only [LN] <;> omega) | (simp only [RO, OF])) only [RR, RM, LN, TT, d98_at, ↓reduceIte, Nat.reduceEqDiff, Nat.reduceLT, Nat.reduceLeDiff, Nat.reduceAdd, Nat.reduceSub, Nat.reduceMul, Nat.reduceMod, Nat.reduceDiv, Nat.reduceBEq, RH, h2'', h2']
      refine J.joinS (fun (t : Int) => ([(0, .arr x1.length (lm (ik .u32) x1)), (1, .arr x2.length (lm (ik .u32) x2)), (5, .own (0, 5, 77) 0 x10.length x10.length), (6, .v (.int .u64 x11)), (7, .v (.int .i64 x12)), (8, .v (.int .u64 t))], [((0, 5, 77), .sl true true 1 x10.length (lm (ik .u32) x10))])) (fun t => ref01_Minus_k2 fu nx1 x1 x10 x12 t) ?_ (fun hj2 => ?_)
      · rintro x18
        show J _ (ref01_Minus_k2 fu nx1 x1 x10 x12 x18) _
        unfold ref01_Minus_k2
        refine J.at fun x19 h3 h4 h5 => ?_
        conv => arg 1; simp (maxSteps := 1000000) (disch := first | assumption | decide | with_unfolding_all rfl | omega | (simp only [LN] <;> omega) | (simp only [RO, OF])) only [RR, RM, LN, TT, d98_at, ↓reduceIte, Nat.reduceEqDiff, Nat.reduceLT, Nat.reduceLeDiff, Nat.reduceAdd, Nat.reduceSub, Nat.reduceMul, Nat.reduceMod, Nat.reduceDiv, Nat.reduceBEq, RH, h2'', h2', lm_ik h5]
        refine J.joinS (fun (t : Int × Int) => ([(0, .arr x1.length (lm (ik .u32) x1)), (1, .arr x2.length (lm (ik .u32) x2)), (5, .own (0, 5, 77) 0 x10.length x10.length), (6, .v (.int .u64 t.1)), (7, .v (.int .i64 x12)), (8, .v (.int .u64 x18)), (9, .v (.int .u64 t.2))], [((0, 5, 77), .sl true true 1 x10.length (lm (ik .u32) x10))])) (fun t => ref01_Minus_k3 fu nx1 x10 x12 x18 t.1 t.2) ?_ (fun hj3 => ?_)
        · rintro ⟨x20, x21⟩
          show J _ (ref01_Minus_k3 fu nx1 x10 x12 x18 x20 x21) _
          unfold ref01_Minus_k3
          refine J.chk fun h6 => ?_
          conv => arg 1; simp (maxSteps := 1000000) (disch := first | assumption | decide | with_unfolding_all rfl | omega | (simp only [LN] <;> omega) | (simp only [RO, OF])) only [RR, RM, LN, TT, d98_at, ↓reduceIte, Nat.reduceEqDiff, Nat.reduceLT, Nat.reduceLeDiff, Nat.reduceAdd, Nat.reduceSub, Nat.reduceMul, Nat.reduceMod, Nat.reduceDiv, Nat.reduceBEq, RH, h2'', h2', lm_ik h5]
          refine J.eq ret_seq ?_
          conv => arg 1; simp (maxSteps := 1000000) (disch := first | assumption | decide | with_unfolding_all rfl | omega | (simp only [LN] <;> omega) | (simp only [RO, OF])) only [RR, RM, LN, TT, d98_at, ↓reduceIte, Nat.reduceEqDiff, Nat.reduceLT, Nat.reduceLeDiff, Nat.reduceAdd, Nat.reduceSub, Nat.reduceMul, Nat.reduceMod, Nat.reduceDiv, Nat.reduceBEq, RH, h2'', h2', lm_ik h5]
          refine J.next (s := (x10 ++ ([wk .u32 (wk .u64 (x21 - x18))]), x20, wk .i64 (x12 + 1))) hn1 ?_ ?_
          · first | rfl | (simp only [LN, NN, NT])
          · first | (simp (disch := first | assumption | decide | with_unfolding_all rfl | omega | (simp only [LN] <;> omega) | (simp only [RO, OF])) only [RR, ↓reduceIte, Nat.reduceEqDiff, Nat.reduceLT, Nat.reduceLeDiff, Nat.reduceAdd, Nat.reduceSub, Nat.reduceMul, Nat.reduceMod, Nat.reduceDiv, Nat.reduceBEq, LN, NN, NT]; done) | (simp (disch := first | assumption | decide | with_unfolding_all rfl | omega | (simp only [LN] <;> omega) | (simp only [RO, OF])) only [RR, ↓reduceIte, Nat.reduceEqDiff, Nat.reduceLT, Nat.reduceLeDiff, Nat.reduceAdd, Nat.reduceSub, Nat.reduceMul, Nat.reduceMod, Nat.reduceDiv, Nat.reduceBEq, LN, fm_app, NN, NT]; done) | rfl
        · conv => arg 1; simp (maxSteps := 1000000) (disch := first | assumption | decide | with_unfolding_all rfl | omega | (simp only [LN] <;> omega) | (simp only [RO, OF])) only [RR, RM, LN, TT, d98_at, ↓reduceIte, Nat.reduceEqDiff, Nat.reduceLT, Nat.reduceLeDiff, Nat.reduceAdd, Nat.reduceSub, Nat.reduceMul, Nat.reduceMod, Nat.reduceDiv, Nat.reduceBEq, RH, h2'', h2', lm_ik h5]
          refine J.ite (fun h7 => ?_) (fun h7 => ?_)
          · have h7' := decide_eq_true h7
            have h7'' : decide (x18 ≤ (wk .u64 x19)) = false := decide_eq_false (by omega)
            conv => arg 1; simp (maxSteps := 1000000) (disch := first | assumption | decide | with_unfolding_all rfl | omega | (simp only [LN] <;> omega) | (simp only [RO, OF])) only [RR, RM, LN, TT, d98_at, ↓reduceIte, Nat.reduceEqDiff, Nat.reduceLT, Nat.reduceLeDiff, Nat.reduceAdd, Nat.reduceSub, Nat.reduceMul, Nat.reduceMod, Nat.reduceDiv, Nat.reduceBEq, RH, h2'', h2', lm_ik h5, h7'', h7']
            refine J.jmp (t := (1, wk .u64 ((wk .u64 x19) + 4294967296))) hj3 ?_ ?_
            · first | rfl | (simp only [LN, NN, NT])
            · first | (simp (disch := first | assumption | decide | with_unfolding_all rfl | omega | (simp only [LN] <;> omega) | (simp only [RO, OF])) only [RR, ↓reduceIte, Nat.reduceEqDiff, Nat.reduceLT, Nat.reduceLeDiff, Nat.reduceAdd, Nat.reduceSub, Nat.reduceMul, Nat.reduceMod, Nat.reduceDiv, Nat.reduceBEq, LN, NN, NT]; done) | (simp (disch := first | assumption | decide | with_unfolding_all rfl | omega | (simp only [LN] <;> omega) | (simp only [RO, OF])) only [RR, ↓reduceIte, Nat.reduceEqDiff, Nat.reduceLT, Nat.reduceLeDiff, Nat.reduceAdd, Nat.reduceSub, Nat.reduceMul, Nat.reduceMod, Nat.reduceDiv, Nat.reduceBEq, LN, fm_app, NN, NT]; done) | rfl
          · have h7' := decide_eq_false h7
            have h7'' : decide (x18 ≤ (wk .u64 x19)) = true := decide_eq_true (by omega)
            conv => arg 1; simp (maxSteps := 1000000) (disch := first | assumption | decide | with_unfolding_all rfl | omega | (simp only [LN] <;> omega) | (simp only [RO, OF])) only [RR, RM, LN, TT, d98_at, ↓reduceIte, Nat.reduceEqDiff, Nat.reduceLT, Nat.reduceLeDiff, Nat.reduceAdd, Nat.reduceSub, Nat.reduceMul, Nat.reduceMod, Nat.reduceDiv, Nat.reduceBEq, RH, h2'', h2', lm_ik h5, h7'', h7']
            refine J.jmp (t := (0, wk .u64 x19)) hj3 ?_ ?_
            · first | rfl | (simp only [LN, NN, NT])
            · first | (simp (disch := first | assumption | decide | with_unfolding_all rfl | omega | (simp only [LN] <;> omega) | (simp only [RO, OF])) only [RR, ↓reduceIte, Nat.reduceEqDiff, Nat.reduceLT, Nat.reduceLeDiff, Nat.reduceAdd, Nat.reduceSub, Nat.reduceMul, Nat.reduceMod, Nat.reduceDiv, Nat.reduceBEq, LN, NN, NT]; done) | (simp (disch := first | assumption | decide | with_unfolding_all rfl | omega | (simp only [LN] <;> omega) | (simp only [RO, OF])) only [RR, ↓reduceIte, Nat.reduceEqDiff, Nat.reduceLT, Nat.reduceLeDiff, Nat.reduceAdd, Nat.reduceSub, Nat.reduceMul, Nat.reduceMod, Nat.reduceDiv, Nat.reduceBEq, LN, fm_app, NN, NT]; done) | rfl
      · conv => arg 1; simp (maxSteps := 1000000) (disch := first | assumption | decide | with_unfolding_all rfl | omega | (simp only [LN] <;> omega) | (simp only [RO, OF])) only [RR, RM, LN, TT, d98_at, ↓reduceIte, Nat.reduceEqDiff, Nat.reduceLT, Nat.reduceLeDiff, Nat.reduceAdd, Nat.reduceSub, Nat.reduceMul, Nat.reduceMod, Nat.reduceDiv, Nat.reduceBEq, RH, h2'', h2']
        refine J.ite (fun h8 => ?_) (fun h8 => ?_)
        · have h8' := decide_eq_true h8
          have h8'' : decide ((x2.length : Int) ≤ x12) = false := decide_eq_false (by omega)
          refine J.at fun x22 h9 h10 h11 => ?_
          conv => arg 1; simp (maxSteps := 1000000) (disch := first | assumption | decide | with_unfolding_all rfl | omega | (simp only [LN] <;> omega) | (simp only [RO, OF])) only [RR, RM, LN, TT, d98_at, ↓reduceIte, Nat.reduceEqDiff, Nat.reduceLT, Nat.reduceLeDiff, Nat.reduceAdd, Nat.reduceSub, Nat.reduceMul, Nat.reduceMod, Nat.reduceDiv, Nat.reduceBEq, RH, h2'', h2', h8'', h8', lm_ik h11]
          refine J.jmp (t := wk .u64 (x11 + (wk .u64 x22))) hj2 ?_ ?_
          · first | rfl | (simp only [LN, NN, NT])
          · first | (simp (disch := first | assumption | decide | with_unfolding_all rfl | omega | (simp only [LN] <;> omega) | (simp only [RO, OF])) only [RR, ↓reduceIte, Nat.reduceEqDiff, Nat.reduceLT, Nat.reduceLeDiff, Nat.reduceAdd, Nat.reduceSub, Nat.reduceMul, Nat.reduceMod, Nat.reduceDiv, Nat.reduceBEq, LN, NN, NT]; done) | (simp (disch := first | assumption | decide | with_unfolding_all rfl | omega | (simp only [LN] <;> omega) | (simp only [RO, OF])) only [RR, ↓reduceIte, Nat.reduceEqDiff, Nat.reduceLT, Nat.reduceLeDiff, Nat.reduceAdd, Nat.reduceSub, Nat.reduceMul, Nat.reduceMod, Nat.reduceDiv, Nat.reduceBEq, LN, fm_app, NN, NT]; done) | rfl
        · have h8' := decide_eq_false h8
          have h8'' : decide ((x2.length : Int) ≤ x12) = true := decide_eq_true (by omega)
          conv => arg 1; simp (maxSteps := 1000000) (disch := first | assumption | decide | with_unfolding_all rfl | omega | (simp only [LN] <;> omega) | (simp only [RO, OF])) only [RR, RM, LN, TT, d98_at, ↓reduceIte, Nat.reduceEqDiff, Nat.reduceLT, Nat.reduceLeDiff, Nat.reduceAdd, Nat.reduceSub, Nat.reduceMul, Nat.reduceMod, Nat.reduceDiv, Nat.reduceBEq, RH, h2'', h2', h8'', h8']
          refine J.jmp (t := x11) hj2 ?_ ?_
          · first | rfl | (simp only [LN, NN, NT])
          · first | (simp (disch := first | assumption | decide | with_unfolding_all rfl | omega | (simp only [LN] <;> omega) | (simp only [RO, OF])) only [RR, ↓reduceIte, Nat.reduceEqDiff, Nat.reduceLT, Nat.reduceLeDiff, Nat.reduceAdd, Nat.reduceSub, Nat.reduceMul, Nat.reduceMod, Nat.reduceDiv, Nat.reduceBEq, LN, NN, NT]; done) | (simp (disch := first | assumption | decide | with_unfolding_all rfl | omega | (simp only [LN] <;> omega) | (simp only [RO, OF])) only [RR, ↓reduceIte, Nat.reduceEqDiff, Nat.reduceLT, Nat.reduceLeDiff, Nat.reduceAdd, Nat.reduceSub, Nat.reduceMul, Nat.reduceMod, Nat.reduceDiv, Nat.reduceBEq, LN, fm_app, NN, NT]; done) | rfl
    · have h2' := decide_eq_false h2
      have h2'' : decide ((x1.length : Int) ≤ x12) = true := decide_eq_true (by omega)
      conv => arg 1; simp (maxSteps := 1000000) (disch := first | assumption | decide | with_unfolding_all rfl | omega | (simp only [LN] <;> omega) | (simp only [RO, OF])) only [RR, RM, LN, TT, d98_at, ↓reduceIte, Nat.reduceEqDiff, Nat.reduceLT, Nat.reduceLeDiff, Nat.reduceAdd, Nat.reduceSub, Nat.reduceMul, Nat.reduceMod, Nat.reduceDiv, Nat.reduceBEq, RH, h2'', h2']
      refine J.jmp (t := x10) hj1 ?_ ?_
      · first | rfl | (simp only [LN, NN, NT])
      · first | (simp (disch := first | assumption | decide | with_unfolding_all rfl | omega | (simp only [LN] <;> omega) | (simp only [RO, OF])) only [RR, ↓reduceIte, Nat.reduceEqDiff, Nat.reduceLT, Nat.reduceLeDiff, Nat.reduceAdd, Nat.reduceSub, Nat.reduceMul, Nat.reduceMod, Nat.reduceDiv, Nat.reduceBEq, LN, NN, NT]; done) | (simp (disch := first | assumption | decide | with_unfolding_all rfl | omega | (simp only [LN] <;> omega) | (simp only [RO, OF])) only [RR, ↓reduceIte, Nat.reduceEqDiff, Nat.reduceLT, Nat.reduceLeDiff, Nat.reduceAdd, Nat.reduceSub, Nat.reduceMul, Nat.reduceMod, Nat.reduceDiv, Nat.reduceBEq, LN, fm_app, NN, NT]; done) | rfl
noncomputable def t98 (fu : Nat) : CallP := orE 167 (mkC (fun (t : List Int) => ([.arr t.length (lm (ik .u32) t)] : List AV)) (fun t => ref01_trim fu t) e167) (noP)
theorem t98_ok (fu : Nat) : CpOK Tryz.prog (t98 fu ) := orE_ok (noP_ok) (mkC_ok (fun t b h => ok167 fu t  b h))
theorem ok98 (fu : Nat) (x1 : List Int) (x2 : List Int) (r) (h : ref01_Minus fu x1 x2 = some r) : PureOK Tryz.prog 98 [.arr x1.length (lm (ik .u32) x1), .arr x2.length (lm (ik .u32) x2)] (e98 r) :=
  pure_J mixed (cp := t98 fu ) (t98_ok fu  ) noI_ok i98 (w98 _ fu x1 x2  (fun a0 r h => orE_hit (mkC_at (a := a0) (by intro a b h; first | (exact rfl) | (simp only [INJ, IJ] at h; first | exact h | (simp_all [Prod.ext_iff]) )) h))) h
/-! 48: lattice/latticeref01.AddBy -/
def d48 : List (Nat × List Nat) := [(0, [6]), (0, [1, 2, 7, 8, 68]), (0, [9, 10, 11, 12, 13]), (0, []), (0, []), (0, []), (0, [15, 16, 17, 18, 19, 20, 21]), (0, []), (0, [23, 24, 25, 26, 27, 28, 29, 30, 31]), (0, []), (0, []), (0, []), (0, [33, 34]), (0, []), (0, [36]), (0, []), (0, [37]), (0, []), (0, [38, 39, 40]), (0, []), (0, [41, 42, 43]), (0, []), (0, [44, 45, 46, 47]), (0, []), (0, [49, 50, 51, 52, 53, 54, 55]), (0, []), (0, [57]), (0, []), (0, [58, 59, 60, 61, 62, 63, 64, 65]), (0, []), (0, [66, 67]), (0, []), (0, [70]), (0, []), (0, [71, 72, 73, 74, 75, 76, 77, 78]), (0, []), (0, [80]), (0, []), (0, [81, 82, 83, 84, 85, 86, 87, 88]), (0, []), (0, [0, 89]), (0, []), (0, []), (0, []), (0, [])]
def d48_at := And.intro (show d48.getD 0 (0, []) = (0, [6]) from rfl) <| And.intro (show d48.getD 1 (0, []) = (0, [1, 2, 7, 8, 68]) from rfl) <| And.intro (show d48.getD 2 (0, []) = (0, [9, 10, 11, 12, 13]) from rfl) <| And.intro (show d48.getD 3 (0, []) = (0, []) from rfl) <| And.intro (show d48.getD 4 (0, []) = (0, []) from rfl) <| And.intro (show d48.getD 5 (0, []) = (0, []) from rfl) <| And.intro (show d48.getD 6 (0, []) = (0, [15, 16, 17, 18, 19, 20, 21]) from rfl) <| And.intro (show d48.getD 7 (0, []) = (0, []) from rfl) <| And.intro (show d48.getD 8 (0, []) = (0, [23, 24, 25, 26, 27, 28, 29, 30, 31]) from rfl) <| And.intro (show d48.getD 9 (0, []) = (0, []) from rfl) <| And.intro (show d48.getD 10 (0, []) = (0, []) from rfl) <| And.intro (show d48.getD 11 (0, []) = (0, []) from rfl) <| And.intro (show d48.getD 12 (0, []) = (0, [33, 34]) from rfl) <| And.intro (show d48.getD 13 (0, []) = (0, []) from rfl) <| And.intro (show d48.getD 14 (0, []) = (0, [36]) from rfl) <| And.intro (show d48.getD 15 (0, []) = (0, []) from rfl) <| And.intro (show d48.getD 16 (0, []) = (0, [37]) from rfl) <| And.intro (show d48.getD 17 (0, []) = (0, []) from rfl) <| And.intro (show d48.getD 18 (0, []) = (0, [38, 39, 40]) from rfl) <| And.intro (show d48.getD 19 (0, []) = (0, []) from rfl) <| And.intro (show d48.getD 20 (0, []) = (0, [41, 42, 43]) from rfl) <| And.intro (show d48.getD 21 (0, []) = (0, []) from rfl) <| And.intro (show d48.getD 22 (0, []) = (0, [44, 45, 46, 47]) from rfl) <| And.intro (show d48.getD 23 (0, []) = (0, []) from rfl) <| And.intro (show d48.getD 24 (0, []) = (0, [49, 50, 51, 52, 53, 54, 55]) from rfl) <| And.intro (show d48.getD 25 (0, []) = (0, []) from rfl) <| And.intro (show d48.getD 26 (0, []) = (0, [57]) from rfl) <| And.intro (show d48.getD 27 (0, []) = (0, []) from rfl) <| And.intro (show d48.getD 28 (0, []) = (0, [58, 59, 60, 61, 62, 63, 64, 65]) from rfl) <| And.intro (show d48.getD 29 (0, []) = (0, []) from rfl) <| And.intro (show d48.getD 30 (0, []) = (0, [66, 67]) from rfl) <| And.intro (show d48.getD 31 (0, []) = (0, []) from rfl) <| And.intro (show d48.getD 32 (0, []) = (0, [70]) from rfl) <| And.intro (show d48.getD 33 (0, []) = (0, []) from rfl) <| And.intro (show d48.getD 34 (0, []) = (0, [71, 72, 73, 74, 75, 76, 77, 78]) from rfl) <| And.intro (show d48.getD 35 (0, []) = (0, []) from rfl) <| And.intro (show d48.getD 36 (0, []) = (0, [80]) from rfl) <| And.intro (show d48.getD 37 (0, []) = (0, []) from rfl) <| And.intro (show d48.getD 38 (0, []) = (0, [81, 82, 83, 84, 85, 86, 87, 88]) from rfl) <| And.intro (show d48.getD 39 (0, []) = (0, []) from rfl) <| And.intro (show d48.getD 40 (0, []) = (0, [0, 89]) from rfl) <| And.intro (show d48.getD 41 (0, []) = (0, []) from rfl) <| And.intro (show d48.getD 42 (0, []) = (0, []) from rfl) <| And.intro (show d48.getD 43 (0, []) = (0, []) from rfl) <| (show d48.getD 44 (0, []) = (0, []) from rfl)
theorem i48 : finfo Tryz.prog 48 d48 = some ⟨bodyOf Tryz.f48, [.tmp 6], [24]⟩ := finfo_at Tryz.func48 rfl (by kernel_rfl) (by kernel_rfl)
def e48 : Int → AV := fun r => .v (.int .u32 r)
set_option maxHeartbeats 20000000 in
theorem w48 (cp : CallP) (fu : Nat) (x1 : Int) (x2 : Int) (x3 : Int) (H90_0 : ∀ (a0 : Int) r, ref01_IsNone fu a0 = some r → cp 90 [.v (.int .u32 a0)] = some (.v (.bool r))) (H91_0 : ∀ (a0 : Int) r, ref01_Abs fu a0 = some r → cp 91 [.v (.int .u32 a0)] = some (.v (.int .u32 r))) (H92_0 : ∀ (a0 : Int) r, ref01_Amount fu a0 = some r → cp 92 [.v (.int .u32 a0)] = some (.arr r.length (lm (ik .u32) r))) (H93_0 : ∀ (a0 : Int) r, ref01_Below fu a0 = some r → cp 93 [.v (.int .u32 a0)] = some (.v (.bool r))) (H95_0 : ∀ (a0 : List Int) (a1 : List Int) r, ref01_Plus fu a0 a1 = some r → cp 95 [.arr a0.length (lm (ik .u32) a0), .arr a1.length (lm (ik .u32) a1)] = some (.arr r.length (lm (ik .u32) r))) (H96_0 : ∀ (a0 : Int) r, ref01_Of fu a0 = some r → cp 96 [.v (.int .u64 a0)] = some (.arr r.length (lm (ik .u32) r))) (H94_0 : ∀ (a0 : Int) (a1 : Bool) (a2 : List Int) (a3 : List Int) r, ref01_Rounded fu a0 a1 a2 a3 = some r → cp 94 [.v (.int .i64 a0), .v (.bool a1), .arr a2.length (lm (ik .u32) a2), .arr a3.length (lm (ik .u32) a3)] = some (.v (.int .u32 r))) (H97_0 : ∀ (a0 : List Int) (a1 : List Int) r, ref01_Compare fu a0 a1 = some r → cp 97 [.arr a0.length (lm (ik .u32) a0), .arr a1.length (lm (ik .u32) a1)] = some (.v (.int .i64 r))) (H98_0 : ∀ (a0 : List Int) (a1 : List Int) r, ref01_Minus fu a0 a1 = some r → cp 98 [.arr a0.length (lm (ik .u32) a0), .arr a1.length (lm (ik .u32) a1)] = some (.arr r.length (lm (ik .u32) r))) : J (go Tryz.prog noC cp noI 0 [] d48 fu (fin Tryz.prog [.tmp 6] [24]) (bodyOf Tryz.f48) (initE 0 [.v (.int .i64 x1), .v (.int .u32 x2), .v (.int .u32 x3)]) [] []) (ref01_AddBy fu x1 x2 x3) e48 := by
  unfold ref01_AddBy e48
  conv => arg 1; simp (maxSteps := 1000000) (disch := first | assumption | decide | with_unfolding_all rfl | omega | (simp only [LN] <;> omega) | (simp only [RO, OF])) only [bodyOf, Tryz.f48, RR, RM, LN, TT, d48_at, ↓reduceIte, Nat.reduceEqDiff, Nat.reduceLT, Nat.reduceLeDiff, Nat.reduceAdd, Nat.reduceSub, Nat.reduceMul, Nat.reduceMod, Nat.reduceDiv, Nat.reduceBEq, RH]
  refine J.joinS (fun (t : Unit) => ([(0, .v (.int .i64 x1)), (1, .v (.int .u32 x2)), (2, .v (.int .u32 x3))], [])) (fun t => ref01_AddBy_k1 fu x1 x2 x3) ?_ (fun hj1 => ?_)
  · rintro ⟨⟩
    show J _ (ref01_AddBy_k1 fu x1 x2 x3) _
    unfold ref01_AddBy_k1
    refine J.joinS (fun (t : Unit) => ([(0, .v (.int .i64 x1)), (1, .v (.int .u32 x2)), (2, .v (.int .u32 x3))], [])) (fun t => ref01_AddBy_k2 fu x1 x2 x3) ?_ (fun hj2 => ?_)
    · rintro ⟨⟩
      show J _ (ref01_AddBy_k2 fu x1 x2 x3) _
      unfold ref01_AddBy_k2
      refine J.bind fun x4 h1 => ?_
      have e_h1 := H91_0 _ _ h1
      try simp only [NN, NT, LN] at e_h1
      refine J.bind fun x5 h2 => ?_
      have e_h2 := H92_0 _ _ h2
      try simp only [NN, NT, LN] at e_h2
      refine J.bind fun x6 h3 => ?_
      have e_h3 := H91_0 _ _ h3
      try simp only [NN, NT, LN] at e_h3
      refine J.bind fun x7 h4 => ?_
      have e_h4 := H92_0 _ _ h4
      try simp only [NN, NT, LN] at e_h4
      conv => arg 1; simp (maxSteps := 1000000) (disch := first | assumption | decide | with_unfolding_all rfl | omega | (simp only [LN] <;> omega) | (simp only [RO, OF])) only [RR, RM, LN, TT, d48_at, ↓reduceIte, Nat.reduceEqDiff, Nat.reduceLT, Nat.reduceLeDiff, Nat.reduceAdd, Nat.reduceSub, Nat.reduceMul, Nat.reduceMod, Nat.reduceDiv, Nat.reduceBEq, RH, e_h1, e_h2, e_h3, e_h4]
      refine J.eq go_seq ?_
      refine J.bind fun x8 h5 => ?_
      have e_h5 := H93_0 _ _ h5
      try simp only [NN, NT, LN] at e_h5
      refine J.bind fun x9 h6 => ?_
      have e_h6 := H93_0 _ _ h6
      try simp only [NN, NT, LN] at e_h6
      conv => arg 1; simp (maxSteps := 1000000) (disch := first | assumption | decide | with_unfolding_all rfl | omega | (simp only [LN] <;> omega) | (simp only [RO, OF])) only [RR, RM, LN, TT, d48_at, ↓reduceIte, Nat.reduceEqDiff, Nat.reduceLT, Nat.reduceLeDiff, Nat.reduceAdd, Nat.reduceSub, Nat.reduceMul, Nat.reduceMod, Nat.reduceDiv, Nat.reduceBEq, RH, e_h1, e_h2, e_h3, e_h4, e_h5, e_h6]
      refine J.ite (fun h7 => ?_) (fun h7 => ?_)
      · have h7' : (x8 == x9) = true := h7
        conv => arg 1; simp (maxSteps := 1000000) (disch := first | assumption | decide | with_unfolding_all rfl | omega | (simp only [LN] <;> omega) | (simp only [RO, OF])) only [RR, RM, LN, TT, d48_at, ↓reduceIte, Nat.reduceEqDiff, Nat.reduceLT, Nat.reduceLeDiff, Nat.reduceAdd, Nat.reduceSub, Nat.reduceMul, Nat.reduceMod, Nat.reduceDiv, Nat.reduceBEq, RH, e_h1, e_h2, e_h3, e_h4, e_h5, e_h6, h7']
        refine J.joinS (fun (t : Unit) => ([(0, .v (.int .i64 x1)), (1, .v (.int .u32 x2)), (2, .v (.int .u32 x3)), (7, .arr x5.length (lm (ik .u32) x5)), (8, .arr x7.length (lm (ik .u32) x7))], [])) (fun t => ref01_AddBy_k3 fu x1 x5 x7 x8) ?_ (fun hj3 => ?_)
        · rintro ⟨⟩
          show J _ (ref01_AddBy_k3 fu x1 x5 x7 x8) _
          unfold ref01_AddBy_k3
          refine J.bind fun x10 h8 => ?_
          have e_h8 := H95_0 _ _ _ h8
          try simp only [NN, NT, LN] at e_h8
          refine J.bind fun x11 h9 => ?_
          have e_h9 := H96_0 _ _ h9
          try simp only [NN, NT, LN] at e_h9
          refine J.bind fun x12 h10 => ?_
          have e_h10 := H94_0 _ _ _ _ _ h10
          try simp only [NN, NT, LN] at e_h10
          refine J.some ?_
          simp (maxSteps := 20000000) (disch := first | assumption | decide | with_unfolding_all rfl | omega | (simp only [LN] <;> omega) | (simp only [RO, OF])) only [RR, RM, LN, TT, d48_at, ↓reduceIte, Nat.reduceEqDiff, Nat.reduceLT, Nat.reduceLeDiff, Nat.reduceAdd, Nat.reduceSub, Nat.reduceMul, Nat.reduceMod, Nat.reduceDiv, Nat.reduceBEq, RH, e_h1, e_h2, e_h3, e_h4, e_h5, e_h6, h7', e_h8, e_h9, e_h10, FF, LN, NN, NT]
        · refine J.eq go_seq ?_
          conv => arg 1; simp (maxSteps := 1000000) (disch := first | assumption | decide | with_unfolding_all rfl | omega | (simp only [LN] <;> omega) | (simp only [RO, OF])) only [RR, RM, LN, TT, d48_at, ↓reduceIte, Nat.reduceEqDiff, Nat.reduceLT, Nat.reduceLeDiff, Nat.reduceAdd, Nat.reduceSub, Nat.reduceMul, Nat.reduceMod, Nat.reduceDiv, Nat.reduceBEq, RH, e_h1, e_h2, e_h3, e_h4, e_h5, e_h6, h7']
          refine J.ite (fun h11 => ?_) (fun h11 => ?_)
          · have h11' := decide_eq_true h11
            conv => arg 1; simp (maxSteps := 1000000) (disch := first | assumption | decide | with_unfolding_all rfl | omega | (simp only [LN] <;> omega) | (simp only [RO, OF])) only [RR, RM, LN, TT, d48_at, ↓reduceIte, Nat.reduceEqDiff, Nat.reduceLT, Nat.reduceLeDiff, Nat.reduceAdd, Nat.reduceSub, Nat.reduceMul, Nat.reduceMod, Nat.reduceDiv, Nat.reduceBEq, RH, e_h1, e_h2, e_h3, e_h4, e_h5, e_h6, h7', h11']
            refine J.eq ret_seq ?_
            conv => arg 1; simp (maxSteps := 1000000) (disch := first | assumption | decide | with_unfolding_all rfl | omega | (simp only [LN] <;> omega) | (simp only [RO, OF])) only [RR, RM, LN, TT, d48_at, ↓reduceIte, Nat.reduceEqDiff, Nat.reduceLT, Nat.reduceLeDiff, Nat.reduceAdd, Nat.reduceSub, Nat.reduceMul, Nat.reduceMod, Nat.reduceDiv, Nat.reduceBEq, RH, e_h1, e_h2, e_h3, e_h4, e_h5, e_h6, h7', h11']
            refine J.ite (fun h12 => ?_) (fun h12 => ?_)
            · have h12' := decide_eq_true h12
              refine J.some ?_
              simp (maxSteps := 20000000) (disch := first | assumption | decide | with_unfolding_all rfl | omega | (simp only [LN] <;> omega) | (simp only [RO, OF])) only [RR, RM, LN, TT, d48_at, ↓reduceIte, Nat.reduceEqDiff, Nat.reduceLT, Nat.reduceLeDiff, Nat.reduceAdd, Nat.reduceSub, Nat.reduceMul, Nat.reduceMod, Nat.reduceDiv, Nat.reduceBEq, RH, e_h1, e_h2, e_h3, e_h4, e_h5, e_h6, h7', h11', h12', FF, LN, NN, NT]
            · have h12' := decide_eq_false h12
              conv => arg 1; simp (maxSteps := 1000000) (disch := first | assumption | decide | with_unfolding_all rfl | omega | (simp only [LN] <;> omega) | (simp only [RO, OF])) only [RR, RM, LN, TT, d48_at, ↓reduceIte, Nat.reduceEqDiff, Nat.reduceLT, Nat.reduceLeDiff, Nat.reduceAdd, Nat.reduceSub, Nat.reduceMul, Nat.reduceMod, Nat.reduceDiv, Nat.reduceBEq, RH, e_h1, e_h2, e_h3, e_h4, e_h5, e_h6, h7', h11', h12']
              refine J.jmp (t := ()) hj3 ?_ ?_
              · first | rfl | (simp only [LN, NN, NT])
              · first | (simp (disch := first | assumption | decide | with_unfolding_all rfl | omega | (simp only [LN] <;> omega) | (simp only [RO, OF])) only [RR, ↓reduceIte, Nat.reduceEqDiff, Nat.reduceLT, Nat.reduceLeDiff, Nat.reduceAdd, Nat.reduceSub, Nat.reduceMul, Nat.reduceMod, Nat.reduceDiv, Nat.reduceBEq, LN, NN, NT]; done) | (simp (disch := first | assumption | decide | with_unfolding_all rfl | omega | (simp only [LN] <;> omega) | (simp only [RO, OF])) only [RR, ↓reduceIte, Nat.reduceEqDiff, Nat.reduceLT, Nat.reduceLeDiff, Nat.reduceAdd, Nat.reduceSub, Nat.reduceMul, Nat.reduceMod, Nat.reduceDiv, Nat.reduceBEq, LN, fm_app, NN, NT]; done) | rfl
          · have h11' := decide_eq_false h11
            conv => arg 1; simp (maxSteps := 1000000) (disch := first | assumption | decide | with_unfolding_all rfl | omega | (simp only [LN] <;> omega) | (simp only [RO, OF])) only [RR, RM, LN, TT, d48_at, ↓reduceIte, Nat.reduceEqDiff, Nat.reduceLT, Nat.reduceLeDiff, Nat.reduceAdd, Nat.reduceSub, Nat.reduceMul, Nat.reduceMod, Nat.reduceDiv, Nat.reduceBEq, RH, e_h1, e_h2, e_h3, e_h4, e_h5, e_h6, h7', h11']
            refine J.eq ret_seq ?_
            conv => arg 1; simp (maxSteps := 1000000) (disch := first | assumption | decide | with_unfolding_all rfl | omega | (simp only [LN] <;> omega) | (simp only [RO, OF])) only [RR, RM, LN, TT, d48_at, ↓reduceIte, Nat.reduceEqDiff, Nat.reduceLT, Nat.reduceLeDiff, Nat.reduceAdd, Nat.reduceSub, Nat.reduceMul, Nat.reduceMod, Nat.reduceDiv, Nat.reduceBEq, RH, e_h1, e_h2, e_h3, e_h4, e_h5, e_h6, h7', h11']
            refine J.jmp (t := ()) hj3 ?_ ?_
            · first | rfl | (simp only [LN, NN, NT])
            · first | (simp (disch := first | assumption | decide | with_unfolding_all rfl | omega | (simp only [LN] <;> omega) | (simp only [RO, OF])) only [RR, ↓reduceIte, Nat.reduceEqDiff, Nat.reduceLT, Nat.reduceLeDiff, Nat.reduceAdd, Nat.reduceSub, Nat.reduceMul, Nat.reduceMod, Nat.reduceDiv, Nat.reduceBEq, LN, NN, NT]; done) | (simp (disch := first | assumption | decide | with_unfolding_all rfl | omega | (simp only [LN] <;> omega) | (simp only [RO, OF])) only [RR, ↓reduceIte, Nat.reduceEqDiff, Nat.reduceLT, Nat.reduceLeDiff, Nat.reduceAdd, Nat.reduceSub, Nat.reduceMul, Nat.reduceMod, Nat.reduceDiv, Nat.reduceBEq, LN, fm_app, NN, NT]; done) | rfl
      · have h7' : (x8 == x9) = false := Bool.eq_false_iff.2 h7
        conv => arg 1; simp (maxSteps := 1000000) (disch := first | assumption | decide | with_unfolding_all rfl | omega | (simp only [LN] <;> omega) | (simp only [RO, OF])) only [RR, RM, LN, TT, d48_at, ↓reduceIte, Nat.reduceEqDiff, Nat.reduceLT, Nat.reduceLeDiff, Nat.reduceAdd, Nat.reduceSub, Nat.reduceMul, Nat.reduceMod, Nat.reduceDiv, Nat.reduceBEq, RH, e_h1, e_h2, e_h3, e_h4, e_h5, e_h6, h7']
        refine J.eq ret_seq ?_
        refine J.eq go_seq ?_
        refine J.bind fun x13 h13 => ?_
        have e_h13 := H97_0 _ _ _ h13
        try simp only [NN, NT, LN] at e_h13
        conv => arg 1; simp (maxSteps := 1000000) (disch := first | assumption | decide | with_unfolding_all rfl | omega | (simp only [LN] <;> omega) | (simp only [RO, OF])) only [RR, RM, LN, TT, d48_at, ↓reduceIte, Nat.reduceEqDiff, Nat.reduceLT, Nat.reduceLeDiff, Nat.reduceAdd, Nat.reduceSub, Nat.reduceMul, Nat.reduceMod, Nat.reduceDiv, Nat.reduceBEq, RH, e_h1, e_h2, e_h3, e_h4, e_h5, e_h6, h7', e_h13]
        refine J.ite (fun h14 => ?_) (fun h14 => ?_)
        · have h14' := decide_eq_true h14
          refine J.bind fun x14 h15 => ?_
          have e_h15 := H98_0 _ _ _ h15
          try simp only [NN, NT, LN] at e_h15
          refine J.bind fun x15 h16 => ?_
          have e_h16 := H96_0 _ _ h16
          try simp only [NN, NT, LN] at e_h16
          refine J.bind fun x16 h17 => ?_
          have e_h17 := H94_0 _ _ _ _ _ h17
          try simp only [NN, NT, LN] at e_h17
          refine J.some ?_
          simp (maxSteps := 20000000) (disch := first | assumption | decide | with_unfolding_all rfl | omega | (simp only [LN] <;> omega) | (simp only [RO, OF])) only [RR, RM, LN, TT, d48_at, ↓reduceIte, Nat.reduceEqDiff, Nat.reduceLT, Nat.reduceLeDiff, Nat.reduceAdd, Nat.reduceSub, Nat.reduceMul, Nat.reduceMod, Nat.reduceDiv, Nat.reduceBEq, RH, e_h1, e_h2, e_h3, e_h4, e_h5, e_h6, h7', e_h13, h14', e_h15, e_h16, e_h17, FF, LN, NN, NT]
        · have h14' := decide_eq_false h14
          conv => arg 1; simp (maxSteps := 1000000) (disch := first | assumption | decide | with_unfolding_all rfl | omega | (simp only [LN] <;> omega) | (simp only [RO, OF])) only [RR, RM, LN, TT, d48_at, ↓reduceIte, Nat.reduceEqDiff, Nat.reduceLT, Nat.reduceLeDiff, Nat.reduceAdd, Nat.reduceSub, Nat.reduceMul, Nat.reduceMod, Nat.reduceDiv, Nat.reduceBEq, RH, e_h1, e_h2, e_h3, e_h4, e_h5, e_h6, h7', e_h13, h14']
          refine J.ite (fun h18 => ?_) (fun h18 => ?_)
          · have h18' := decide_eq_true h18
            refine J.bind fun x17 h19 => ?_
            have e_h19 := H98_0 _ _ _ h19
            try simp only [NN, NT, LN] at e_h19
            refine J.bind fun x18 h20 => ?_
            have e_h20 := H96_0 _ _ h20
            try simp only [NN, NT, LN] at e_h20
            refine J.bind fun x19 h21 => ?_
            have e_h21 := H94_0 _ _ _ _ _ h21
            try simp only [NN, NT, LN] at e_h21
            refine J.some ?_
            simp (maxSteps := 20000000) (disch := first | assumption | decide | with_unfolding_all rfl | omega | (simp only [LN] <;> omega) | (simp only [RO, OF])) only [RR, RM, LN, TT, d48_at, ↓reduceIte, Nat.reduceEqDiff, Nat.reduceLT, Nat.reduceLeDiff, Nat.reduceAdd, Nat.reduceSub, Nat.reduceMul, Nat.reduceMod, Nat.reduceDiv, Nat.reduceBEq, RH, e_h1, e_h2, e_h3, e_h4, e_h5, e_h6, h7', e_h13, h14', h18', e_h19, e_h20, e_h21, FF, LN, NN, NT]
          · have h18' := decide_eq_false h18
            conv => arg 1; simp (maxSteps := 1000000) (disch := first | assumption | decide | with_unfolding_all rfl | omega | (simp only [LN] <;> omega) | (simp only [RO, OF])) only [RR, RM, LN, TT, d48_at, ↓reduceIte, Nat.reduceEqDiff, Nat.reduceLT, Nat.reduceLeDiff, Nat.reduceAdd, Nat.reduceSub, Nat.reduceMul, Nat.reduceMod, Nat.reduceDiv, Nat.reduceBEq, RH, e_h1, e_h2, e_h3, e_h4, e_h5, e_h6, h7', e_h13, h14', h18']
            refine J.eq ret_seq ?_
            refine J.eq go_seq ?_
            conv => arg 1; simp (maxSteps := 1000000) (disch := first | assumption | decide | with_unfolding_all rfl | omega | (simp only [LN] <;> omega) | (simp only [RO, OF])) only [RR, RM, LN, TT, d48_at, ↓reduceIte, Nat.reduceEqDiff, Nat.reduceLT, Nat.reduceLeDiff, Nat.reduceAdd, Nat.reduceSub, Nat.reduceMul, Nat.reduceMod, Nat.reduceDiv, Nat.reduceBEq, RH, e_h1, e_h2, e_h3, e_h4, e_h5, e_h6, h7', e_h13, h14', h18']
            refine J.ite (fun h22 => ?_) (fun h22 => ?_)
            · have h22' := decide_eq_true h22
              refine J.some ?_
              simp (maxSteps := 20000000) (disch := first | assumption | decide | with_unfolding_all rfl | omega | (simp only [LN] <;> omega) | (simp only [RO, OF])) only [RR, RM, LN, TT, d48_at, ↓reduceIte, Nat.reduceEqDiff, Nat.reduceLT, Nat.reduceLeDiff, Nat.reduceAdd, Nat.reduceSub, Nat.reduceMul, Nat.reduceMod, Nat.reduceDiv, Nat.reduceBEq, RH, e_h1, e_h2, e_h3, e_h4, e_h5, e_h6, h7', e_h13, h14', h18', h22', FF, LN, NN, NT]
            · have h22' := decide_eq_false h22
              conv => arg 1; simp (maxSteps := 1000000) (disch := first | assumption | decide | with_unfolding_all rfl | omega | (simp only [LN] <;> omega) | (simp only [RO, OF])) only [RR, RM, LN, TT, d48_at, ↓reduceIte, Nat.reduceEqDiff, Nat.reduceLT, Nat.reduceLeDiff, Nat.reduceAdd, Nat.reduceSub, Nat.reduceMul, Nat.reduceMod, Nat.reduceDiv, Nat.reduceBEq, RH, e_h1, e_h2, e_h3, e_h4, e_h5, e_h6, h7', e_h13, h14', h18', h22']
              refine J.eq ret_seq ?_
              refine J.some ?_
              simp (maxSteps := 20000000) (disch := first | assumption | decide | with_unfolding_all rfl | omega | (simp only [LN] <;> omega) | (simp only [RO, OF])) only [RR, RM, LN, TT, d48_at, ↓reduceIte, Nat.reduceEqDiff, Nat.reduceLT, Nat.reduceLeDiff, Nat.reduceAdd, Nat.reduceSub, Nat.reduceMul, Nat.reduceMod, Nat.reduceDiv, Nat.reduceBEq, RH, e_h1, e_h2, e_h3, e_h4, e_h5, e_h6, h7', e_h13, h14', h18', h22', FF, LN, NN, NT]
    · refine J.eq go_seq ?_
      refine J.bind fun x20 h23 => ?_
      have e_h23 := H91_0 _ _ h23
      try simp only [NN, NT, LN] at e_h23
      conv => arg 1; simp (maxSteps := 1000000) (disch := first | assumption | decide | with_unfolding_all rfl | omega | (simp only [LN] <;> omega) | (simp only [RO, OF])) only [RR, RM, LN, TT, d48_at, ↓reduceIte, Nat.reduceEqDiff, Nat.reduceLT, Nat.reduceLeDiff, Nat.reduceAdd, Nat.reduceSub, Nat.reduceMul, Nat.reduceMod, Nat.reduceDiv, Nat.reduceBEq, RH, e_h23]
      refine J.ite (fun h24 => ?_) (fun h24 => ?_)
      · have h24' := decide_eq_true h24
        conv => arg 1; simp (maxSteps := 1000000) (disch := first | assumption | decide | with_unfolding_all rfl | omega | (simp only [LN] <;> omega) | (simp only [RO, OF])) only [RR, RM, LN, TT, d48_at, ↓reduceIte, Nat.reduceEqDiff, Nat.reduceLT, Nat.reduceLeDiff, Nat.reduceAdd, Nat.reduceSub, Nat.reduceMul, Nat.reduceMod, Nat.reduceDiv, Nat.reduceBEq, RH, e_h23, h24']
        refine J.eq ret_seq ?_
        conv => arg 1; simp (maxSteps := 1000000) (disch := first | assumption | decide | with_unfolding_all rfl | omega | (simp only [LN] <;> omega) | (simp only [RO, OF])) only [RR, RM, LN, TT, d48_at, ↓reduceIte, Nat.reduceEqDiff, Nat.reduceLT, Nat.reduceLeDiff, Nat.reduceAdd, Nat.reduceSub, Nat.reduceMul, Nat.reduceMod, Nat.reduceDiv, Nat.reduceBEq, RH, e_h23, h24']
        refine J.joinS (fun (t : Unit) => ([(0, .v (.int .i64 x1)), (1, .v (.int .u32 x2)), (2, .v (.int .u32 x3))], [])) (fun t => ref01_AddBy_k4 fu x2) ?_ (fun hj4 => ?_)
        · rintro ⟨⟩
          show J _ (ref01_AddBy_k4 fu x2) _
          unfold ref01_AddBy_k4
          refine J.eq go_seq ?_
          refine J.some ?_
          simp (maxSteps := 20000000) (disch := first | assumption | decide | with_unfolding_all rfl | omega | (simp only [LN] <;> omega) | (simp only [RO, OF])) only [RR, RM, LN, TT, d48_at, ↓reduceIte, Nat.reduceEqDiff, Nat.reduceLT, Nat.reduceLeDiff, Nat.reduceAdd, Nat.reduceSub, Nat.reduceMul, Nat.reduceMod, Nat.reduceDiv, Nat.reduceBEq, RH, e_h23, h24', FF, LN, NN, NT]
        · refine J.eq go_seq ?_
          refine J.bind fun x21 h25 => ?_
          have e_h25 := H91_0 _ _ h25
          try simp only [NN, NT, LN] at e_h25
          conv => arg 1; simp (maxSteps := 1000000) (disch := first | assumption | decide | with_unfolding_all rfl | omega | (simp only [LN] <;> omega) | (simp only [RO, OF])) only [RR, RM, LN, TT, d48_at, ↓reduceIte, Nat.reduceEqDiff, Nat.reduceLT, Nat.reduceLeDiff, Nat.reduceAdd, Nat.reduceSub, Nat.reduceMul, Nat.reduceMod, Nat.reduceDiv, Nat.reduceBEq, RH, e_h23, h24', e_h25]
          refine J.ite (fun h26 => ?_) (fun h26 => ?_)
          · have h26' := decide_eq_true h26
            conv => arg 1; simp (maxSteps := 1000000) (disch := first | assumption | decide | with_unfolding_all rfl | omega | (simp only [LN] <;> omega) | (simp only [RO, OF])) only [RR, RM, LN, TT, d48_at, ↓reduceIte, Nat.reduceEqDiff, Nat.reduceLT, Nat.reduceLeDiff, Nat.reduceAdd, Nat.reduceSub, Nat.reduceMul, Nat.reduceMod, Nat.reduceDiv, Nat.reduceBEq, RH, e_h23, h24', e_h25, h26']
            refine J.eq ret_seq ?_
            conv => arg 1; simp (maxSteps := 1000000) (disch := first | assumption | decide | with_unfolding_all rfl | omega | (simp only [LN] <;> omega) | (simp only [RO, OF])) only [RR, RM, LN, TT, d48_at, ↓reduceIte, Nat.reduceEqDiff, Nat.reduceLT, Nat.reduceLeDiff, Nat.reduceAdd, Nat.reduceSub, Nat.reduceMul, Nat.reduceMod, Nat.reduceDiv, Nat.reduceBEq, RH, e_h23, h24', e_h25, h26']
            refine J.ite (fun h27 => ?_) (fun h27 => ?_)
            · have h27' := decide_eq_true h27
              conv => arg 1; simp (maxSteps := 1000000) (disch := first | assumption | decide | with_unfolding_all rfl | omega | (simp only [LN] <;> omega) | (simp only [RO, OF])) only [RR, RM, LN, TT, d48_at, ↓reduceIte, Nat.reduceEqDiff, Nat.reduceLT, Nat.reduceLeDiff, Nat.reduceAdd, Nat.reduceSub, Nat.reduceMul, Nat.reduceMod, Nat.reduceDiv, Nat.reduceBEq, RH, e_h23, h24', e_h25, h26', h27']
              refine J.jmp (t := ()) hj4 ?_ ?_
              · first | rfl | (simp only [LN, NN, NT])
              · first | (simp (disch := first | assumption | decide | with_unfolding_all rfl | omega | (simp only [LN] <;> omega) | (simp only [RO, OF])) only [RR, ↓reduceIte, Nat.reduceEqDiff, Nat.reduceLT, Nat.reduceLeDiff, Nat.reduceAdd, Nat.reduceSub, Nat.reduceMul, Nat.reduceMod, Nat.reduceDiv, Nat.reduceBEq, LN, NN, NT]; done) | (simp (disch := first | assumption | decide | with_unfolding_all rfl | omega | (simp only [LN] <;> omega) | (simp only [RO, OF])) only [RR, ↓reduceIte, Nat.reduceEqDiff, Nat.reduceLT, Nat.reduceLeDiff, Nat.reduceAdd, Nat.reduceSub, Nat.reduceMul, Nat.reduceMod, Nat.reduceDiv, Nat.reduceBEq, LN, fm_app, NN, NT]; done) | rfl
            · have h27' := decide_eq_false h27
              refine J.some ?_
              simp (maxSteps := 20000000) (disch := first | assumption | decide | with_unfolding_all rfl | omega | (simp only [LN] <;> omega) | (simp only [RO, OF])) only [RR, RM, LN, TT, d48_at, ↓reduceIte, Nat.reduceEqDiff, Nat.reduceLT, Nat.reduceLeDiff, Nat.reduceAdd, Nat.reduceSub, Nat.reduceMul, Nat.reduceMod, Nat.reduceDiv, Nat.reduceBEq, RH, e_h23, h24', e_h25, h26', h27', FF, LN, NN, NT]
          · have h26' := decide_eq_false h26
            conv => arg 1; simp (maxSteps := 1000000) (disch := first | assumption | decide | with_unfolding_all rfl | omega | (simp only [LN] <;> omega) | (simp only [RO, OF])) only [RR, RM, LN, TT, d48_at, ↓reduceIte, Nat.reduceEqDiff, Nat.reduceLT, Nat.reduceLeDiff, Nat.reduceAdd, Nat.reduceSub, Nat.reduceMul, Nat.reduceMod, Nat.reduceDiv, Nat.reduceBEq, RH, e_h23, h24', e_h25, h26']
            refine J.eq ret_seq ?_
            conv => arg 1; simp (maxSteps := 1000000) (disch := first | assumption | decide | with_unfolding_all rfl | omega | (simp only [LN] <;> omega) | (simp only [RO, OF])) only [RR, RM, LN, TT, d48_at, ↓reduceIte, Nat.reduceEqDiff, Nat.reduceLT, Nat.reduceLeDiff, Nat.reduceAdd, Nat.reduceSub, Nat.reduceMul, Nat.reduceMod, Nat.reduceDiv, Nat.reduceBEq, RH, e_h23, h24', e_h25, h26']
            refine J.jmp (t := ()) hj4 ?_ ?_
            · first | rfl | (simp only [LN, NN, NT])
            · first | (simp (disch := first | assumption | decide | with_unfolding_all rfl | omega | (simp only [LN] <;> omega) | (simp only [RO, OF])) only [RR, ↓reduceIte, Nat.reduceEqDiff, Nat.reduceLT, Nat.reduceLeDiff, Nat.reduceAdd, Nat.reduceSub, Nat.reduceMul, Nat.reduceMod, Nat.reduceDiv, Nat.reduceBEq, LN, NN, NT]; done) | (simp (disch := first | assumption | decide | with_unfolding_all rfl | omega | (simp only [LN] <;> omega) | (simp only [RO, OF])) only [RR, ↓reduceIte, Nat.reduceEqDiff, Nat.reduceLT, Nat.reduceLeDiff, Nat.reduceAdd, Nat.reduceSub, Nat.reduceMul, Nat.reduceMod, Nat.reduceDiv, Nat.reduceBEq, LN, fm_app, NN, NT]; done) | rfl
      · have h24' := decide_eq_false h24
        refine J.bind fun x22 h28 => ?_
        have e_h28 := H91_0 _ _ h28
        try simp only [NN, NT, LN] at e_h28
        conv => arg 1; simp (maxSteps := 1000000) (disch := first | assumption | decide | with_unfolding_all rfl | omega | (simp only [LN] <;> omega) | (simp only [RO, OF])) only [RR, RM, LN, TT, d48_at, ↓reduceIte, Nat.reduceEqDiff, Nat.reduceLT, Nat.reduceLeDiff, Nat.reduceAdd, Nat.reduceSub, Nat.reduceMul, Nat.reduceMod, Nat.reduceDiv, Nat.reduceBEq, RH, e_h23, h24', e_h28]
        refine J.eq ret_seq ?_
        conv => arg 1; simp (maxSteps := 1000000) (disch := first | assumption | decide | with_unfolding_all rfl | omega | (simp only [LN] <;> omega) | (simp only [RO, OF])) only [RR, RM, LN, TT, d48_at, ↓reduceIte, Nat.reduceEqDiff, Nat.reduceLT, Nat.reduceLeDiff, Nat.reduceAdd, Nat.reduceSub, Nat.reduceMul, Nat.reduceMod, Nat.reduceDiv, Nat.reduceBEq, RH, e_h23, h24', e_h28]
        refine J.ite (fun h29 => ?_) (fun h29 => ?_)
        · have h29' := decide_eq_true h29
          conv => arg 1; simp (maxSteps := 1000000) (disch := first | assumption | decide | with_unfolding_all rfl | omega | (simp only [LN] <;> omega) | (simp only [RO, OF])) only [RR, RM, LN, TT, d48_at, ↓reduceIte, Nat.reduceEqDiff, Nat.reduceLT, Nat.reduceLeDiff, Nat.reduceAdd, Nat.reduceSub, Nat.reduceMul, Nat.reduceMod, Nat.reduceDiv, Nat.reduceBEq, RH, e_h23, h24', e_h28, h29']
          refine J.joinS (fun (t : Unit) => ([(0, .v (.int .i64 x1)), (1, .v (.int .u32 x2)), (2, .v (.int .u32 x3))], [])) (fun t => ref01_AddBy_k5 fu x3) ?_ (fun hj5 => ?_)
          · rintro ⟨⟩
            show J _ (ref01_AddBy_k5 fu x3) _
            unfold ref01_AddBy_k5
            refine J.eq go_seq ?_
            conv => arg 1; simp (maxSteps := 1000000) (disch := first | assumption | decide | with_unfolding_all rfl | omega | (simp only [LN] <;> omega) | (simp only [RO, OF])) only [RR, RM, LN, TT, d48_at, ↓reduceIte, Nat.reduceEqDiff, Nat.reduceLT, Nat.reduceLeDiff, Nat.reduceAdd, Nat.reduceSub, Nat.reduceMul, Nat.reduceMod, Nat.reduceDiv, Nat.reduceBEq, RH, e_h23, h24', e_h28, h29']
            refine J.eq ret_seq ?_
            refine J.some ?_
            simp (maxSteps := 20000000) (disch := first | assumption | decide | with_unfolding_all rfl | omega | (simp only [LN] <;> omega) | (simp only [RO, OF])) only [RR, RM, LN, TT, d48_at, ↓reduceIte, Nat.reduceEqDiff, Nat.reduceLT, Nat.reduceLeDiff, Nat.reduceAdd, Nat.reduceSub, Nat.reduceMul, Nat.reduceMod, Nat.reduceDiv, Nat.reduceBEq, RH, e_h23, h24', e_h28, h29', FF, LN, NN, NT]
          · refine J.eq go_seq ?_
            conv => arg 1; simp (maxSteps := 1000000) (disch := first | assumption | decide | with_unfolding_all rfl | omega | (simp only [LN] <;> omega) | (simp only [RO, OF])) only [RR, RM, LN, TT, d48_at, ↓reduceIte, Nat.reduceEqDiff, Nat.reduceLT, Nat.reduceLeDiff, Nat.reduceAdd, Nat.reduceSub, Nat.reduceMul, Nat.reduceMod, Nat.reduceDiv, Nat.reduceBEq, RH, e_h23, h24', e_h28, h29']
            refine J.ite (fun h30 => ?_) (fun h30 => ?_)
            · exact J.none
            · have h30' := decide_eq_false h30
              conv => arg 1; simp (maxSteps := 1000000) (disch := first | assumption | decide | with_unfolding_all rfl | omega | (simp only [LN] <;> omega) | (simp only [RO, OF])) only [RR, RM, LN, TT, d48_at, ↓reduceIte, Nat.reduceEqDiff, Nat.reduceLT, Nat.reduceLeDiff, Nat.reduceAdd, Nat.reduceSub, Nat.reduceMul, Nat.reduceMod, Nat.reduceDiv, Nat.reduceBEq, RH, e_h23, h24', e_h28, h29', h30']
              refine J.eq ret_seq ?_
              conv => arg 1; simp (maxSteps := 1000000) (disch := first | assumption | decide | with_unfolding_all rfl | omega | (simp only [LN] <;> omega) | (simp only [RO, OF])) only [RR, RM, LN, TT, d48_at, ↓reduceIte, Nat.reduceEqDiff, Nat.reduceLT, Nat.reduceLeDiff, Nat.reduceAdd, Nat.reduceSub, Nat.reduceMul, Nat.reduceMod, Nat.reduceDiv, Nat.reduceBEq, RH, e_h23, h24', e_h28, h29', h30']
              refine J.jmp (t := ()) hj5 ?_ ?_
              · first | rfl | (simp only [LN, NN, NT])
              · first | (simp (disch := first | assumption | decide | with_unfolding_all rfl | omega | (simp only [LN] <;> omega) | (simp only [RO, OF])) only [RR, ↓reduceIte, Nat.reduceEqDiff, Nat.reduceLT, Nat.reduceLeDiff, Nat.reduceAdd, Nat.reduceSub, Nat.reduceMul, Nat.reduceMod, Nat.reduceDiv, Nat.reduceBEq, LN, NN, NT]; done) | (simp (disch := first | assumption | decide | with_unfolding_all rfl | omega | (simp only [LN] <;> omega) | (simp only [RO, OF])) only [RR, ↓reduceIte, Nat.reduceEqDiff, Nat.reduceLT, Nat.reduceLeDiff, Nat.reduceAdd, Nat.reduceSub, Nat.reduceMul, Nat.reduceMod, Nat.reduceDiv, Nat.reduceBEq, LN, fm_app, NN, NT]; done) | rfl
        · have h29' := decide_eq_false h29
          conv => arg 1; simp (maxSteps := 1000000) (disch := first | assumption | decide | with_unfolding_all rfl | omega | (simp only [LN] <;> omega) | (simp only [RO, OF])) only [RR, RM, LN, TT, d48_at, ↓reduceIte, Nat.reduceEqDiff, Nat.reduceLT, Nat.reduceLeDiff, Nat.reduceAdd, Nat.reduceSub, Nat.reduceMul, Nat.reduceMod, Nat.reduceDiv, Nat.reduceBEq, RH, e_h23, h24', e_h28, h29']
          refine J.jmp (t := ()) hj2 ?_ ?_
          · first | rfl | (simp only [LN, NN, NT])
          · first | (simp (disch := first | assumption | decide | with_unfolding_all rfl | omega | (simp only [LN] <;> omega) | (simp only [RO, OF])) only [RR, ↓reduceIte, Nat.reduceEqDiff, Nat.reduceLT, Nat.reduceLeDiff, Nat.reduceAdd, Nat.reduceSub, Nat.reduceMul, Nat.reduceMod, Nat.reduceDiv, Nat.reduceBEq, LN, NN, NT]; done) | (simp (disch := first | assumption | decide | with_unfolding_all rfl | omega | (simp only [LN] <;> omega) | (simp only [RO, OF])) only [RR, ↓reduceIte, Nat.reduceEqDiff, Nat.reduceLT, Nat.reduceLeDiff, Nat.reduceAdd, Nat.reduceSub, Nat.reduceMul, Nat.reduceMod, Nat.reduceDiv, Nat.reduceBEq, LN, fm_app, NN, NT]; done) | rfl
  · refine J.eq go_seq ?_
    refine J.bind fun x23 h31 => ?_
    have e_h31 := H90_0 _ _ h31
    try simp only [NN, NT, LN] at e_h31
    conv => arg 1; simp (maxSteps := 1000000) (disch := first | assumption | decide | with_unfolding_all rfl | omega | (simp only [LN] <;> omega) | (simp only [RO, OF])) only [RR, RM, LN, TT, d48_at, ↓reduceIte, Nat.reduceEqDiff, Nat.reduceLT, Nat.reduceLeDiff, Nat.reduceAdd, Nat.reduceSub, Nat.reduceMul, Nat.reduceMod, Nat.reduceDiv, Nat.reduceBEq, RH, e_h31]
    refine J.ite (fun h32 => ?_) (fun h32 => ?_)
    · have h32' : x23 = true := h32
      conv => arg 1; simp (maxSteps := 1000000) (disch := first | assumption | decide | with_unfolding_all rfl | omega | (simp only [LN] <;> omega) | (simp only [RO, OF])) only [RR, RM, LN, TT, d48_at, ↓reduceIte, Nat.reduceEqDiff, Nat.reduceLT, Nat.reduceLeDiff, Nat.reduceAdd, Nat.reduceSub, Nat.reduceMul, Nat.reduceMod, Nat.reduceDiv, Nat.reduceBEq, RH, e_h31, h32']
      refine J.eq ret_seq ?_
      refine J.some ?_
      simp (maxSteps := 20000000) (disch := first | assumption | decide | with_unfolding_all rfl | omega | (simp only [LN] <;> omega) | (simp only [RO, OF])) only [RR, RM, LN, TT, d48_at, ↓reduceIte, Nat.reduceEqDiff, Nat.reduceLT, Nat.reduceLeDiff, Nat.reduceAdd, Nat.reduceSub, Nat.reduceMul, Nat.reduceMod, Nat.reduceDiv, Nat.reduceBEq, RH, e_h31, h32', FF, LN, NN, NT]
    · have h32' : x23 = false := Bool.eq_false_iff.2 h32
      refine J.bind fun x24 h33 => ?_
      have e_h33 := H90_0 _ _ h33
      try simp only [NN, NT, LN] at e_h33
      conv => arg 1; simp (maxSteps := 1000000) (disch := first | assumption | decide | with_unfolding_all rfl | omega | (simp only [LN] <;> omega) | (simp only [RO, OF])) only [RR, RM, LN, TT, d48_at, ↓reduceIte, Nat.reduceEqDiff, Nat.reduceLT, Nat.reduceLeDiff, Nat.reduceAdd, Nat.reduceSub, Nat.reduceMul, Nat.reduceMod, Nat.reduceDiv, Nat.reduceBEq, RH, e_h31, h32', e_h33]
      refine J.eq ret_seq ?_
      conv => arg 1; simp (maxSteps := 1000000) (disch := first | assumption | decide | with_unfolding_all rfl | omega | (simp only [LN] <;> omega) | (simp only [RO, OF])) only [RR, RM, LN, TT, d48_at, ↓reduceIte, Nat.reduceEqDiff, Nat.reduceLT, Nat.reduceLeDiff, Nat.reduceAdd, Nat.reduceSub, Nat.reduceMul, Nat.reduceMod, Nat.reduceDiv, Nat.reduceBEq, RH, e_h31, h32', e_h33]
      refine J.ite (fun h34 => ?_) (fun h34 => ?_)
      · have h34' : x24 = true := h34
        refine J.some ?_
        simp (maxSteps := 20000000) (disch := first | assumption | decide | with_unfolding_all rfl | omega | (simp only [LN] <;> omega) | (simp only [RO, OF])) only [RR, RM, LN, TT, d48_at, ↓reduceIte, Nat.reduceEqDiff, Nat.reduceLT, Nat.reduceLeDiff, Nat.reduceAdd, Nat.reduceSub, Nat.reduceMul, Nat.reduceMod, Nat.reduceDiv, Nat.reduceBEq, RH, e_h31, h32', e_h33, h34', FF, LN, NN, NT]
      · have h34' : x24 = false := Bool.eq_false_iff.2 h34
        conv => arg 1; simp (maxSteps := 1000000) (disch := first | assumption | decide | with_unfolding_all rfl | omega | (simp only [LN] <;> omega) | (simp only [RO, OF])) only [RR, RM, LN, TT, d48_at, ↓reduceIte, Nat.reduceEqDiff, Nat.reduceLT, Nat.reduceLeDiff, Nat.reduceAdd, Nat.reduceSub, Nat.reduceMul, Nat.reduceMod, Nat.reduceDiv, Nat.reduceBEq, RH, e_h31, h32', e_h33, h34']
        refine J.jmp (t := ()) hj1 ?_ ?_
        · first | rfl | (simp only [LN, NN, NT])
        · first | (simp (disch := first | assumption | decide | with_unfolding_all rfl | omega | (simp only [LN] <;> omega) | (simp only [RO, OF])) only [RR, ↓reduceIte, Nat.reduceEqDiff, Nat.reduceLT, Nat.reduceLeDiff, Nat.reduceAdd, Nat.reduceSub, Nat.reduceMul, Nat.reduceMod, Nat.reduceDiv, Nat.reduceBEq, LN, NN, NT]; done) | (simp (disch := first | assumption | decide | with_unfolding_all rfl | omega | (simp only [LN] <;> omega) | (simp only [RO, OF])) only [RR, ↓reduceIte, Nat.reduceEqDiff, Nat.reduceLT, Nat.reduceLeDiff, Nat.reduceAdd, Nat.reduceSub, Nat.reduceMul, Nat.reduceMod, Nat.reduceDiv, Nat.reduceBEq, LN, fm_app, NN, NT]; done) | rfl
noncomputable def t48 (fu : Nat) : CallP := orE 90 (mkC (fun (t : Int) => ([.v (.int .u32 t)] : List AV)) (fun t => ref01_IsNone fu t) e90) (orE 91 (mkC (fun (t : Int) => ([.v (.int .u32 t)] : List AV)) (fun t => ref01_Abs fu t) e91) (orE 92 (mkC (fun (t : Int) => ([.v (.int .u32 t)] : List AV)) (fun t => ref01_Amount fu t) e92) (orE 93 (mkC (fun (t : Int) => ([.v (.int .u32 t)] : List AV)) (fun t => ref01_Below fu t) e93) (orE 95 (mkC (fun (t : (List Int) × (List Int)) => ([.arr t.1.length (lm (ik .u32) t.1), .arr t.2.length (lm (ik .u32) t.2)] : List AV)) (fun t => ref01_Plus fu t.1 t.2) e95) (orE 96 (mkC (fun (t : Int) => ([.v (.int .u64 t)] : List AV)) (fun t => ref01_Of fu t) e96) (orE 94 (mkC (fun (t : Int × Bool × (List Int) × (List Int)) => ([.v (.int .i64 t.1), .v (.bool t.2.1), .arr t.2.2.1.length (lm (ik .u32) t.2.2.1), .arr t.2.2.2.length (lm (ik .u32) t.2.2.2)] : List AV)) (fun t => ref01_Rounded fu t.1 t.2.1 t.2.2.1 t.2.2.2) e94) (orE 97 (mkC (fun (t : (List Int) × (List Int)) => ([.arr t.1.length (lm (ik .u32) t.1), .arr t.2.length (lm (ik .u32) t.2)] : List AV)) (fun t => ref01_Compare fu t.1 t.2) e97) (orE 98 (mkC (fun (t : (List Int) × (List Int)) => ([.arr t.1.length (lm (ik .u32) t.1), .arr t.2.length (lm (ik .u32) t.2)] : List AV)) (fun t => ref01_Minus fu t.1 t.2) e98) (noP)))))))))
theorem t48_ok (fu : Nat) : CpOK Tryz.prog (t48 fu ) := orE_ok (orE_ok (orE_ok (orE_ok (orE_ok (orE_ok (orE_ok (orE_ok (orE_ok (noP_ok) (mkC_ok (fun t b h => ok98 fu t.1 t.2  b h))) (mkC_ok (fun t b h => ok97 fu t.1 t.2  b h))) (mkC_ok (fun t b h => ok94 fu t.1 t.2.1 t.2.2.1 t.2.2.2  b h))) (mkC_ok (fun t b h => ok96 fu t  b h))) (mkC_ok (fun t b h => ok95 fu t.1 t.2  b h))) (mkC_ok (fun t b h => ok93 fu t  b h))) (mkC_ok (fun t b h => ok92 fu t  b h))) (mkC_ok (fun t b h => ok91 fu t  b h))) (mkC_ok (fun t b h => ok90 fu t  b h))
theorem ok48 (fu : Nat) (x1 : Int) (x2 : Int) (x3 : Int) (r) (h : ref01_AddBy fu x1 x2 x3 = some r) : PureOK Tryz.prog 48 [.v (.int .i64 x1), .v (.int .u32 x2), .v (.int .u32 x3)] (e48 r) :=
  pure_J mixed (cp := t48 fu ) (t48_ok fu  ) noI_ok i48 (w48 _ fu x1 x2 x3  (fun a0 r h => orE_hit (mkC_at (a := a0) (by intro a b h; first | (exact rfl) | (simp only [INJ, IJ] at h; first | exact h | (simp_all [Prod.ext_iff]) )) h)) (fun a0 r h => orE_miss (by decide) (orE_hit (mkC_at (a := a0) (by intro a b h; first | (exact rfl) | (simp only [INJ, IJ] at h; first | exact h | (simp_all [Prod.ext_iff]) )) h))) (fun a0 r h => orE_miss (by decide) (orE_miss (by decide) (orE_hit (mkC_at (a := a0) (by intro a b h; first | (exact rfl) | (simp only [INJ, IJ] at h; first | exact h | (simp_all [Prod.ext_iff]) )) h)))) (fun a0 r h => orE_miss (by decide) (orE_miss (by decide) (orE_miss (by decide) (orE_hit (mkC_at (a := a0) (by intro a b h; first | (exact rfl) | (simp only [INJ, IJ] at h; first | exact h | (simp_all [Prod.ext_iff]) )) h))))) (fun a0 a1 r h => orE_miss (by decide) (orE_miss (by decide) (orE_miss (by decide) (orE_miss (by decide) (orE_hit (mkC_at (a := (a0, a1)) (by intro a b h; first | (exact rfl) | (simp only [INJ, IJ] at h; first | exact h | (simp_all [Prod.ext_iff]) )) h)))))) (fun a0 r h => orE_miss (by decide) (orE_miss (by decide) (orE_miss (by decide) (orE_miss (by decide) (orE_miss (by decide) (orE_hit (mkC_at (a := a0) (by intro a b h; first | (exact rfl) | (simp only [INJ, IJ] at h; first | exact h | (simp_all [Prod.ext_iff]) )) h))))))) (fun a0 a1 a2 a3 r h => orE_miss (by decide) (orE_miss (by decide) (orE_miss (by decide) (orE_miss (by decide) (orE_miss (by decide) (orE_miss (by decide) (orE_hit (mkC_at (a := (a0, a1, a2, a3)) (by intro a b h; first | (exact rfl) | (simp only [INJ, IJ] at h; first | exact h | (simp_all [Prod.ext_iff]) )) h)))))))) (fun a0 a1 r h => orE_miss (by decide) (orE_miss (by decide) (orE_miss (by decide) (orE_miss (by decide) (orE_miss (by decide) (orE_miss (by decide) (orE_miss (by decide) (orE_hit (mkC_at (a := (a0, a1)) (by intro a b h; first | (exact rfl) | (simp only [INJ, IJ] at h; first | exact h | (simp_all [Prod.ext_iff]) )) h))))))))) (fun a0 a1 r h => orE_miss (by decide) (orE_miss (by decide) (orE_miss (by decide) (orE_miss (by decide) (orE_miss (by decide) (orE_miss (by decide) (orE_miss (by decide) (orE_miss (by decide) (orE_hit (mkC_at (a := (a0, a1)) (by intro a b h; first | (exact rfl) | (simp only [INJ, IJ] at h; first | exact h | (simp_all [Prod.ext_iff]) )) h))))))))))) h
/-! 25: lattice/latticeref01.Add -/
def d25 : List (Nat × List Nat) := [(0, [4]), (0, []), (0, [0, 1, 5, 6, 7])]
def d25_at := And.intro (show d25.getD 0 (0, []) = (0, [4]) from rfl) <| And.intro (show d25.getD 1 (0, []) = (0, []) from rfl) <| (show d25.getD 2 (0, []) = (0, [0, 1, 5, 6, 7]) from rfl)
theorem i25 : finfo Tryz.prog 25 d25 = some ⟨bodyOf Tryz.f25, [.tmp 4], [24]⟩ := finfo_at Tryz.func25 rfl (by kernel_rfl) (by kernel_rfl)
def e25 : Int → AV := fun r => .v (.int .u32 r)
set_option maxHeartbeats 20000000 in
theorem w25 (cp : CallP) (fu : Nat) (x1 : Int) (x2 : Int) (H48_0 : ∀ (a0 : Int) (a1 : Int) (a2 : Int) r, ref01_AddBy fu a0 a1 a2 = some r → cp 48 [.v (.int .i64 a0), .v (.int .u32 a1), .v (.int .u32 a2)] = some (.v (.int .u32 r))) : J (go Tryz.prog noC cp noI 0 [] d25 fu (fin Tryz.prog [.tmp 4] [24]) (bodyOf Tryz.f25) (initE 0 [.v (.int .u32 x1), .v (.int .u32 x2)]) [] []) (ref01_Add fu x1 x2) e25 := by
  unfold ref01_Add e25
  refine J.bind fun x3 h1 => ?_
  have e_h1 := H48_0 _ _ _ _ h1
  try simp only [NN, NT, LN] at e_h1
  refine J.some ?_
  simp (maxSteps := 20000000) (disch := first | assumption | decide | with_unfolding_all rfl | omega | (simp only [LN] <;> omega) | (simp only [RO, OF])) only [bodyOf, Tryz.f25, RR, RM, LN, TT, d25_at, ↓reduceIte, Nat.reduceEqDiff, Nat.reduceLT, Nat.reduceLeDiff, Nat.reduceAdd, Nat.reduceSub, Nat.reduceMul, Nat.reduceMod, Nat.reduceDiv, Nat.reduceBEq, RH, e_h1, FF, LN, NN, NT]
noncomputable def t25 (fu : Nat) : CallP := orE 48 (mkC (fun (t : Int × Int × Int) => ([.v (.int .i64 t.1), .v (.int .u32 t.2.1), .v (.int .u32 t.2.2)] : List AV)) (fun t => ref01_AddBy fu t.1 t.2.1 t.2.2) e48) (noP)
theorem t25_ok (fu : Nat) : CpOK Tryz.prog (t25 fu ) := orE_ok (noP_ok) (mkC_ok (fun t b h => ok48 fu t.1 t.2.1 t.2.2  b h))
theorem ok25 (fu : Nat) (x1 : Int) (x2 : Int) (r) (h : ref01_Add fu x1 x2 = some r) : PureOK Tryz.prog 25 [.v (.int .u32 x1), .v (.int .u32 x2)] (e25 r) :=
  pure_J mixed (cp := t25 fu ) (t25_ok fu  ) noI_ok i25 (w25 _ fu x1 x2  (fun a0 a1 a2 r h => orE_hit (mkC_at (a := (a0, a1, a2)) (by intro a b h; first | (exact rfl) | (simp only [INJ, IJ] at h; first | exact h | (simp_all [Prod.ext_iff]) )) h))) h
/-! 19: lattice/latticeref18.add -/
def d19 : List (Nat × List Nat) := [(0, [4]), (0, []), (0, [0, 1, 5, 6, 7])]
def d19_at := And.intro (show d19.getD 0 (0, []) = (0, [4]) from rfl) <| And.intro (show d19.getD 1 (0, []) = (0, []) from rfl) <| (show d19.getD 2 (0, []) = (0, [0, 1, 5, 6, 7]) from rfl)
theorem i19 : finfo Tryz.prog 19 d19 = some ⟨bodyOf Tryz.f19, [.tmp 4], [24]⟩ := finfo_at Tryz.func19 rfl (by kernel_rfl) (by kernel_rfl)
def e19 : Int → AV := fun r => .v (.int .u32 r)
set_option maxHeartbeats 20000000 in
theorem w19 (cp : CallP) (fu : Nat) (x1 : Int) (x2 : Int) (H25_0 : ∀ (a0 : Int) (a1 : Int) r, ref01_Add fu a0 a1 = some r → cp 25 [.v (.int .u32 a0), .v (.int .u32 a1)] = some (.v (.int .u32 r))) : J (go Tryz.prog noC cp noI 0 [] d19 fu (fin Tryz.prog [.tmp 4] [24]) (bodyOf Tryz.f19) (initE 0 [.v (.int .u32 x1), .v (.int .u32 x2)]) [] []) (ref18_add fu x1 x2) e19 := by
  unfold ref18_add e19
  refine J.bind fun x3 h1 => ?_
  have e_h1 := H25_0 _ _ _ h1
  try simp only [NN, NT, LN] at e_h1
  refine J.some ?_
  simp (maxSteps := 20000000) (disch := first | assumption | decide | with_unfolding_all rfl | omega | (simp only [LN] <;> omega) | (simp only [RO, OF])) only [bodyOf, Tryz.f19, RR, RM, LN, TT, d19_at, ↓reduceIte, Nat.reduceEqDiff, Nat.reduceLT, Nat.reduceLeDiff, Nat.reduceAdd, Nat.reduceSub, Nat.reduceMul, Nat.reduceMod, Nat.reduceDiv, Nat.reduceBEq, RH, e_h1, FF, LN, NN, NT]
noncomputable def t19 (fu : Nat) : CallP := orE 25 (mkC (fun (t : Int × Int) => ([.v (.int .u32 t.1), .v (.int .u32 t.2)] : List AV)) (fun t => ref01_Add fu t.1 t.2) e25) (noP)
theorem t19_ok (fu : Nat) : CpOK Tryz.prog (t19 fu ) := orE_ok (noP_ok) (mkC_ok (fun t b h => ok25 fu t.1 t.2  b h))
theorem ok19 (fu : Nat) (x1 : Int) (x2 : Int) (r) (h : ref18_add fu x1 x2 = some r) : PureOK Tryz.prog 19 [.v (.int .u32 x1), .v (.int .u32 x2)] (e19 r) :=
  pure_J mixed (cp := t19 fu ) (t19_ok fu  ) noI_ok i19 (w19 _ fu x1 x2  (fun a0 a1 r h => orE_hit (mkC_at (a := (a0, a1)) (by intro a b h; first | (exact rfl) | (simp only [INJ, IJ] at h; first | exact h | (simp_all [Prod.ext_iff]) )) h))) h
/-! 7: lattice/latticeref18.Sum -/
def d7 : List (Nat × List Nat) := [(0, [2]), (0, [0, 4]), (0, [5]), (0, []), (0, []), (0, []), (0, [6, 7, 8]), (0, []), (0, [10, 11]), (0, []), (14, [12, 13, 14, 15, 16, 17, 18, 19, 20, 21, 22, 23, 24, 25]), (0, []), (16, [3, 26, 27, 28, 29, 30, 31, 32, 33, 34, 35, 36, 37, 38, 39, 40])]
def d7_at := And.intro (show d7.getD 0 (0, []) = (0, [2]) from rfl) <| And.intro (show d7.getD 1 (0, []) = (0, [0, 4]) from rfl) <| And.intro (show d7.getD 2 (0, []) = (0, [5]) from rfl) <| And.intro (show d7.getD 3 (0, []) = (0, []) from rfl) <| And.intro (show d7.getD 4 (0, []) = (0, []) from rfl) <| And.intro (show d7.getD 5 (0, []) = (0, []) from rfl) <| And.intro (show d7.getD 6 (0, []) = (0, [6, 7, 8]) from rfl) <| And.intro (show d7.getD 7 (0, []) = (0, []) from rfl) <| And.intro (show d7.getD 8 (0, []) = (0, [10, 11]) from rfl) <| And.intro (show d7.getD 9 (0, []) = (0, []) from rfl) <| And.intro (show d7.getD 10 (0, []) = (14, [12, 13, 14, 15, 16, 17, 18, 19, 20, 21, 22, 23, 24, 25]) from rfl) <| And.intro (show d7.getD 11 (0, []) = (0, []) from rfl) <| (show d7.getD 12 (0, []) = (16, [3, 26, 27, 28, 29, 30, 31, 32, 33, 34, 35, 36, 37, 38, 39, 40]) from rfl)
theorem i7 : finfo Tryz.prog 7 d7 = some ⟨bodyOf Tryz.f7, [.tmp 2], [24]⟩ := finfo_at Tryz.func7 rfl (by kernel_rfl) (by kernel_rfl)
def e7 : Int → AV := fun r => .v (.int .u32 r)
set_option maxHeartbeats 20000000 in
theorem w7 (cp : CallP) (fu : Nat) (x1 : List Int) (H19_0 : ∀ (a0 : Int) (a1 : Int) r, ref18_add fu a0 a1 = some r → cp 19 [.v (.int .u32 a0), .v (.int .u32 a1)] = some (.v (.int .u32 r))) : J (go Tryz.prog noC cp noI 0 [] d7 fu (fin Tryz.prog [.tmp 2] [24]) (bodyOf Tryz.f7) (initE 0 [.arr x1.length (lm (ik .u32) x1)]) [] []) (ref18_Sum fu x1) e7 := by
  unfold ref18_Sum e7
  refine J.chk fun h1 => ?_
  conv => arg 1; simp (maxSteps := 1000000) (disch := first | assumption | decide | with_unfolding_all rfl | omega | (simp only [LN] <;> omega) | (simp only [RO, OF])) only [bodyOf, Tryz.f7, RR, RM, LN, TT, d7_at, ↓reduceIte, Nat.reduceEqDiff, Nat.reduceLT, Nat.reduceLeDiff, Nat.reduceAdd, Nat.reduceSub, Nat.reduceMul, Nat.reduceMod, Nat.reduceDiv, Nat.reduceBEq, RH]
  refine J.joinS (fun (t : List Int) => ([(3, .own (0, 5, 0) 0 t.length t.length)], [((0, 5, 0), .sl true true 1 t.length (lm (ik .u32) t))])) (fun t => ref18_Sum_k1 fu t) ?_ (fun hj1 => ?_)
  · rintro x2
    show J _ (ref18_Sum_k1 fu x2) _
    unfold ref18_Sum_k1
    refine J.at fun x3 h2 h3 h4 => ?_
    replace h4 : x2[0]? = some x3 := h4
    refine J.at fun x4 h5 h6 h7 => ?_
    refine J.bind fun x5 h8 => ?_
    have e_h8 := H19_0 _ _ _ h8
    try simp only [NN, NT, LN] at e_h8
    refine J.at fun x6 h9 h10 h11 => ?_
    refine J.at fun x7 h12 h13 h14 => ?_
    refine J.bind fun x8 h15 => ?_
    have e_h15 := H19_0 _ _ _ h15
    try simp only [NN, NT, LN] at e_h15
    refine J.bind fun x9 h16 => ?_
    have e_h16 := H19_0 _ _ _ h16
    try simp only [NN, NT, LN] at e_h16
    refine J.some ?_
    simp (maxSteps := 20000000) (disch := first | assumption | decide | with_unfolding_all rfl | omega | (simp only [LN] <;> omega) | (simp only [RO, OF])) only [RR, RM, LN, TT, d7_at, ↓reduceIte, Nat.reduceEqDiff, Nat.reduceLT, Nat.reduceLeDiff, Nat.reduceAdd, Nat.reduceSub, Nat.reduceMul, Nat.reduceMod, Nat.reduceDiv, Nat.reduceBEq, RH, lm_ik h4, lm_ik h7, e_h8, lm_ik h11, lm_ik h14, e_h15, e_h16, FF, LN, NN, NT]
  · conv => arg 1; simp (maxSteps := 1000000) (disch := first | assumption | decide | with_unfolding_all rfl | omega | (simp only [LN] <;> omega) | (simp only [RO, OF])) only [RR, RM, LN, TT, d7_at, ↓reduceIte, Nat.reduceEqDiff, Nat.reduceLT, Nat.reduceLeDiff, Nat.reduceAdd, Nat.reduceSub, Nat.reduceMul, Nat.reduceMod, Nat.reduceDiv, Nat.reduceBEq, RH]
    unfold ref18_Sum_W1
    refine J.loop (fun (s : (List Int) × Int) => ([(0, .arr x1.length (lm (ik .u32) x1)), (3, .own (0, 5, 0) 0 s.1.length s.1.length), (4, .v (.int .i64 s.2))], [((0, 5, 0), .sl true true 1 s.1.length (lm (ik .u32) s.1))])) (fun next s => ref18_Sum_L1 fu x1 (fun x13 x14 => next (x13, x14)) s.1 s.2) (s0 := (List.replicate (4 : Int).toNat (0 : Int), 0)) ?_ ?_ ?_
    · first | rfl | (simp only [LN, NN, NT])
    · first | (simp (disch := first | assumption | decide | with_unfolding_all rfl | omega | (simp only [LN] <;> omega) | (simp only [RO, OF])) only [RR, ↓reduceIte, Nat.reduceEqDiff, Nat.reduceLT, Nat.reduceLeDiff, Nat.reduceAdd, Nat.reduceSub, Nat.reduceMul, Nat.reduceMod, Nat.reduceDiv, Nat.reduceBEq, LN, NN, NT]; done) | (simp (disch := first | assumption | decide | with_unfolding_all rfl | omega | (simp only [LN] <;> omega) | (simp only [RO, OF])) only [RR, ↓reduceIte, Nat.reduceEqDiff, Nat.reduceLT, Nat.reduceLeDiff, Nat.reduceAdd, Nat.reduceSub, Nat.reduceMul, Nat.reduceMod, Nat.reduceDiv, Nat.reduceBEq, LN, fm_app, NN, NT]; done) | rfl
    rintro next k1 hn1 ⟨x13, x14⟩
    let nx1 : (List Int) → Int → Option Int := (fun x13 x14 => next (x13, x14))
    show J _ (ref18_Sum_L1 fu x1 nx1 x13 x14) _
    unfold ref18_Sum_L1
    refine J.eq go_seq ?_
    conv => arg 1; simp (maxSteps := 1000000) (disch := first | assumption | decide | with_unfolding_all rfl | omega | (simp only [LN] <;> omega) | (simp only [RO, OF])) only [RR, RM, LN, TT, d7_at, ↓reduceIte, Nat.reduceEqDiff, Nat.reduceLT, Nat.reduceLeDiff, Nat.reduceAdd, Nat.reduceSub, Nat.reduceMul, Nat.reduceMod, Nat.reduceDiv, Nat.reduceBEq, RH]
    refine J.ite (fun h17 => ?_) (fun h17 => ?_)
    · have h17' := decide_eq_true h17
      have h17'' : decide ((x1.length : Int) ≤ x14) = false := decide_eq_false (by omega)
      conv => arg 1; simp (maxSteps := 1000000) (disch := first | assumption | decide | with_unfolding_all rfl | omega | (simp only [LN] <;> omega) | (simp only [RO, OF])) only [RR, RM, LN, TT, d7_at, ↓reduceIte, Nat.reduceEqDiff, Nat.reduceLT, Nat.reduceLeDiff, Nat.reduceAdd, Nat.reduceSub, Nat.reduceMul, Nat.reduceMod, Nat.reduceDiv, Nat.reduceBEq, RH, h17'', h17']
      refine J.eq ret_seq ?_
      refine J.eq go_seq ?_
      refine J.at fun x18 h18 h19 h20 => ?_
      refine J.at fun x19 h21 h22 h23 => ?_
      refine J.bind fun x20 h24 => ?_
      have e_h24 := H19_0 _ _ _ h24
      try simp only [NN, NT, LN] at e_h24
      refine J.chk fun h25 => ?_
      conv => arg 1; simp (maxSteps := 1000000) (disch := first | assumption | decide | with_unfolding_all rfl | omega | (simp only [LN] <;> omega) | (simp only [RO, OF])) only [RR, RM, LN, TT, d7_at, ↓reduceIte, Nat.reduceEqDiff, Nat.reduceLT, Nat.reduceLeDiff, Nat.reduceAdd, Nat.reduceSub, Nat.reduceMul, Nat.reduceMod, Nat.reduceDiv, Nat.reduceBEq, RH, h17'', h17', lm_ik h20, lm_ik h23, e_h24]
      refine J.eq ret_seq ?_
      conv => arg 1; simp (maxSteps := 1000000) (disch := first | assumption | decide | with_unfolding_all rfl | omega | (simp only [LN] <;> omega) | (simp only [RO, OF])) only [RR, RM, LN, TT, d7_at, ↓reduceIte, Nat.reduceEqDiff, Nat.reduceLT, Nat.reduceLeDiff, Nat.reduceAdd, Nat.reduceSub, Nat.reduceMul, Nat.reduceMod, Nat.reduceDiv, Nat.reduceBEq, RH, h17'', h17', lm_ik h20, lm_ik h23, e_h24]
      refine J.next (s := (x13.set (Int.tmod x14 4).toNat x20, wk .i64 (x14 + 1))) hn1 ?_ ?_
      · first | rfl | (simp only [LN, NN, NT])
      · first | (simp (disch := first | assumption | decide | with_unfolding_all rfl | omega | (simp only [LN] <;> omega) | (simp only [RO, OF])) only [RR, ↓reduceIte, Nat.reduceEqDiff, Nat.reduceLT, Nat.reduceLeDiff, Nat.reduceAdd, Nat.reduceSub, Nat.reduceMul, Nat.reduceMod, Nat.reduceDiv, Nat.reduceBEq, LN, NN, NT]; done) | (simp (disch := first | assumption | decide | with_unfolding_all rfl | omega | (simp only [LN] <;> omega) | (simp only [RO, OF])) only [RR, ↓reduceIte, Nat.reduceEqDiff, Nat.reduceLT, Nat.reduceLeDiff, Nat.reduceAdd, Nat.reduceSub, Nat.reduceMul, Nat.reduceMod, Nat.reduceDiv, Nat.reduceBEq, LN, fm_app, NN, NT]; done) | rfl
    · have h17' := decide_eq_false h17
      have h17'' : decide ((x1.length : Int) ≤ x14) = true := decide_eq_true (by omega)
      conv => arg 1; simp (maxSteps := 1000000) (disch := first | assumption | decide | with_unfolding_all rfl | omega | (simp only [LN] <;> omega) | (simp only [RO, OF])) only [RR, RM, LN, TT, d7_at, ↓reduceIte, Nat.reduceEqDiff, Nat.reduceLT, Nat.reduceLeDiff, Nat.reduceAdd, Nat.reduceSub, Nat.reduceMul, Nat.reduceMod, Nat.reduceDiv, Nat.reduceBEq, RH, h17'', h17']
      refine J.jmp (t := x13) hj1 ?_ ?_
      · first | rfl | (simp only [LN, NN, NT])
      · first | (simp (disch := first | assumption | decide | with_unfolding_all rfl | omega | (simp only [LN] <;> omega) | (simp only [RO, OF])) only [RR, ↓reduceIte, Nat.reduceEqDiff, Nat.reduceLT, Nat.reduceLeDiff, Nat.reduceAdd, Nat.reduceSub, Nat.reduceMul, Nat.reduceMod, Nat.reduceDiv, Nat.reduceBEq, LN, NN, NT]; done) | (simp (disch := first | assumption | decide | with_unfolding_all rfl | omega | (simp only [LN] <;> omega) | (simp only [RO, OF])) only [RR, ↓reduceIte, Nat.reduceEqDiff, Nat.reduceLT, Nat.reduceLeDiff, Nat.reduceAdd, Nat.reduceSub, Nat.reduceMul, Nat.reduceMod, Nat.reduceDiv, Nat.reduceBEq, LN, fm_app, NN, NT]; done) | rfl
noncomputable def t7 (fu : Nat) : CallP := orE 19 (mkC (fun (t : Int × Int) => ([.v (.int .u32 t.1), .v (.int .u32 t.2)] : List AV)) (fun t => ref18_add fu t.1 t.2) e19) (noP)
theorem t7_ok (fu : Nat) : CpOK Tryz.prog (t7 fu ) := orE_ok (noP_ok) (mkC_ok (fun t b h => ok19 fu t.1 t.2  b h))
theorem ok7 (fu : Nat) (x1 : List Int) (r) (h : ref18_Sum fu x1 = some r) : PureOK Tryz.prog 7 [.arr x1.length (lm (ik .u32) x1)] (e7 r) :=
  pure_J mixed (cp := t7 fu ) (t7_ok fu  ) noI_ok i7 (w7 _ fu x1  (fun a0 a1 r h => orE_hit (mkC_at (a := (a0, a1)) (by intro a b h; first | (exact rfl) | (simp only [INJ, IJ] at h; first | exact h | (simp_all [Prod.ext_iff]) )) h))) h
end Go.Av
