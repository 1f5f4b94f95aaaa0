/- The walks of the plain functions, part 3. Made by a program of mine. Conditions: none. -/
import Derived.Test.YtoobokgbmjbofaaGreatQ3W2
set_option linter.unusedVariables false
set_option linter.unusedSimpArgs false
set_option linter.defProp false
set_option maxRecDepth 4000
open Go Go.Proofs
namespace Go.Av
/-! 10: lattice/latticeref14.Dot -/
def d10 : List (Nat × List Nat) := [(0, [4]), (0, [0, 1, 6]), (0, []), (0, []), (0, []), (0, []), (0, [7, 8, 9, 10, 11, 12, 13, 14, 15]), (0, []), (0, [17, 18]), (0, []), (12, [19, 20, 21, 22, 23, 24, 25, 26, 27, 28, 29]), (0, []), (0, [5, 30])]
def d10_at := And.intro (show d10.getD 0 (0, []) = (0, [4]) from rfl) <| And.intro (show d10.getD 1 (0, []) = (0, [0, 1, 6]) from rfl) <| And.intro (show d10.getD 2 (0, []) = (0, []) from rfl) <| And.intro (show d10.getD 3 (0, []) = (0, []) from rfl) <| And.intro (show d10.getD 4 (0, []) = (0, []) from rfl) <| And.intro (show d10.getD 5 (0, []) = (0, []) from rfl) <| And.intro (show d10.getD 6 (0, []) = (0, [7, 8, 9, 10, 11, 12, 13, 14, 15]) from rfl) <| And.intro (show d10.getD 7 (0, []) = (0, []) from rfl) <| And.intro (show d10.getD 8 (0, []) = (0, [17, 18]) from rfl) <| And.intro (show d10.getD 9 (0, []) = (0, []) from rfl) <| And.intro (show d10.getD 10 (0, []) = (12, [19, 20, 21, 22, 23, 24, 25, 26, 27, 28, 29]) from rfl) <| And.intro (show d10.getD 11 (0, []) = (0, []) from rfl) <| (show d10.getD 12 (0, []) = (0, [5, 30]) from rfl)
theorem i10 : finfo Tryz.prog 10 d10 = some ⟨bodyOf Tryz.f10, [.tmp 4], [24]⟩ := finfo_at Tryz.func10 rfl (by kernel_rfl) (by kernel_rfl)
def e10 : Int → AV := fun r => .v (.int .u32 r)
set_option maxHeartbeats 20000000 in
theorem w10 (cp : CallP) (fu : Nat) (x1 : List Int) (x2 : List Int) (H22_0 : ∀ (a0 : Int) (a1 : Int) r, ref01_Mul fu a0 a1 = some r → cp 22 [.v (.int .u32 a0), .v (.int .u32 a1)] = some (.v (.int .u32 r))) (H21_0 : ∀ (a0 : Int) (a1 : Int) r, ref01_Add fu a0 a1 = some r → cp 21 [.v (.int .u32 a0), .v (.int .u32 a1)] = some (.v (.int .u32 r))) : J (go Tryz.prog noC cp noI 0 [] d10 fu (fin Tryz.prog [.tmp 4] [24]) (bodyOf Tryz.f10) (initE 0 [.arr x1.length (lm (ik .u32) x1), .arr x2.length (lm (ik .u32) x2)]) [] []) (ref14_Dot fu x1 x2) e10 := by
  unfold ref14_Dot e10
  conv => arg 1; simp (maxSteps := 1000000) (disch := first | assumption | decide | with_unfolding_all rfl | omega | (simp only [LN] <;> omega) | (simp only [RO, OF])) only [bodyOf, Tryz.f10, RR, RM, LN, TT, d10_at, ↓reduceIte, Nat.reduceEqDiff, Nat.reduceLT, Nat.reduceLeDiff, Nat.reduceAdd, Nat.reduceSub, Nat.reduceMul, Nat.reduceMod, Nat.reduceDiv, Nat.reduceBEq, RH]
  refine J.eq go_seq ?_
  conv => arg 1; simp (maxSteps := 1000000) (disch := first | assumption | decide | with_unfolding_all rfl | omega | (simp only [LN] <;> omega) | (simp only [RO, OF])) only [RR, RM, LN, TT, d10_at, ↓reduceIte, Nat.reduceEqDiff, Nat.reduceLT, Nat.reduceLeDiff, Nat.reduceAdd, Nat.reduceSub, Nat.reduceMul, Nat.reduceMod, Nat.reduceDiv, Nat.reduceBEq, RH]
  unfold ref14_Dot_W1
  refine J.loop (fun (s : Int × Int) => ([(0, .arr x1.length (lm (ik .u32) x1)), (1, .arr x2.length (lm (ik .u32) x2)), (5, .v (.int .u32 s.1)), (6, .v (.int .i64 s.2))], [])) (fun next s => ref14_Dot_L1 fu x1 x2 (fun x7 x8 => next (x7, x8)) s.1 s.2) (s0 := (0, 0)) ?_ ?_ ?_
  · first | rfl | (simp only [LN, NN, NT])
  · first | (simp (disch := first | assumption | decide | with_unfolding_all rfl | omega | (simp only [LN] <;> omega) | (simp only [RO, OF])) only [RR, ↓reduceIte, Nat.reduceEqDiff, Nat.reduceLT, Nat.reduceLeDiff, Nat.reduceAdd, Nat.reduceSub, Nat.reduceMul, Nat.reduceMod, Nat.reduceDiv, Nat.reduceBEq, LN, NN, NT]; done) | (simp (disch := first | assumption | decide | with_unfolding_all rfl | omega | (simp only [LN] <;> omega) | (simp only [RO, OF])) only [RR, ↓reduceIte, Nat.reduceEqDiff, Nat.reduceLT, Nat.reduceLeDiff, Nat.reduceAdd, Nat.reduceSub, Nat.reduceMul, Nat.reduceMod, Nat.reduceDiv, Nat.reduceBEq, LN, fm_app, NN, NT]; done) | rfl
  rintro next k1 hn1 ⟨x7, x8⟩
  let nx1 : Int → Int → Option Int := (fun x7 x8 => next (x7, x8))
  show J _ (ref14_Dot_L1 fu x1 x2 nx1 x7 x8) _
  unfold ref14_Dot_L1
  refine J.joinS (fun (t : Unit) => ([(0, .arr x1.length (lm (ik .u32) x1)), (1, .arr x2.length (lm (ik .u32) x2)), (5, .v (.int .u32 x7)), (6, .v (.int .i64 x8))], [])) (fun t => ref14_Dot_k1 fu nx1 x1 x2 x7 x8) ?_ (fun hj1 => ?_)
  · rintro ⟨⟩
    show J _ (ref14_Dot_k1 fu nx1 x1 x2 x7 x8) _
    unfold ref14_Dot_k1
    refine J.eq go_seq ?_
    refine J.at fun x13 h1 h2 h3 => ?_
    refine J.at fun x14 h4 h5 h6 => ?_
    refine J.bind fun x15 h7 => ?_
    have e_h7 := H22_0 _ _ _ h7
    try simp only [NN, NT, LN] at e_h7
    refine J.bind fun x16 h8 => ?_
    have e_h8 := H21_0 _ _ _ h8
    try simp only [NN, NT, LN] at e_h8
    conv => arg 1; simp (maxSteps := 1000000) (disch := first | assumption | decide | with_unfolding_all rfl | omega | (simp only [LN] <;> omega) | (simp only [RO, OF])) only [RR, RM, LN, TT, d10_at, ↓reduceIte, Nat.reduceEqDiff, Nat.reduceLT, Nat.reduceLeDiff, Nat.reduceAdd, Nat.reduceSub, Nat.reduceMul, Nat.reduceMod, Nat.reduceDiv, Nat.reduceBEq, RH, lm_ik h3, lm_ik h6, e_h7, e_h8]
    refine J.eq ret_seq ?_
    conv => arg 1; simp (maxSteps := 1000000) (disch := first | assumption | decide | with_unfolding_all rfl | omega | (simp only [LN] <;> omega) | (simp only [RO, OF])) only [RR, RM, LN, TT, d10_at, ↓reduceIte, Nat.reduceEqDiff, Nat.reduceLT, Nat.reduceLeDiff, Nat.reduceAdd, Nat.reduceSub, Nat.reduceMul, Nat.reduceMod, Nat.reduceDiv, Nat.reduceBEq, RH, lm_ik h3, lm_ik h6, e_h7, e_h8]
    refine J.next (s := (x16, wk .i64 (x8 + 1))) hn1 ?_ ?_
    · first | rfl | (simp only [LN, NN, NT])
    · first | (simp (disch := first | assumption | decide | with_unfolding_all rfl | omega | (simp only [LN] <;> omega) | (simp only [RO, OF])) only [RR, ↓reduceIte, Nat.reduceEqDiff, Nat.reduceLT, Nat.reduceLeDiff, Nat.reduceAdd, Nat.reduceSub, Nat.reduceMul, Nat.reduceMod, Nat.reduceDiv, Nat.reduceBEq, LN, NN, NT]; done) | (simp (disch := first | assumption | decide | with_unfolding_all rfl | omega | (simp only [LN] <;> omega) | (simp only [RO, OF])) only [RR, ↓reduceIte, Nat.reduceEqDiff, Nat.reduceLT, Nat.reduceLeDiff, Nat.reduceAdd, Nat.reduceSub, Nat.reduceMul, Nat.reduceMod, Nat.reduceDiv, Nat.reduceBEq, LN, fm_app, NN, NT]; done) | rfl
  · refine J.eq go_seq ?_
    conv => arg 1; simp (maxSteps := 1000000) (disch := first | assumption | decide | with_unfolding_all rfl | omega | (simp only [LN] <;> omega) | (simp only [RO, OF])) only [RR, RM, LN, TT, d10_at, ↓reduceIte, Nat.reduceEqDiff, Nat.reduceLT, Nat.reduceLeDiff, Nat.reduceAdd, Nat.reduceSub, Nat.reduceMul, Nat.reduceMod, Nat.reduceDiv, Nat.reduceBEq, RH]
    refine J.ite (fun h9 => ?_) (fun h9 => ?_)
    · have h9' := decide_eq_true h9
      have h9'' : decide ((x1.length : Int) ≤ x8) = false := decide_eq_false (by omega)
      conv => arg 1; simp (maxSteps := 1000000) (disch := first | assumption | decide | with_unfolding_all rfl | omega | (simp only [LN] <;> omega) | (simp only [RO, OF])) only [RR, RM, LN, TT, d10_at, ↓reduceIte, Nat.reduceEqDiff, Nat.reduceLT, Nat.reduceLeDiff, Nat.reduceAdd, Nat.reduceSub, Nat.reduceMul, Nat.reduceMod, Nat.reduceDiv, Nat.reduceBEq, RH, h9'', h9']
      refine J.eq ret_seq ?_
      conv => arg 1; simp (maxSteps := 1000000) (disch := first | assumption | decide | with_unfolding_all rfl | omega | (simp only [LN] <;> omega) | (simp only [RO, OF])) only [RR, RM, LN, TT, d10_at, ↓reduceIte, Nat.reduceEqDiff, Nat.reduceLT, Nat.reduceLeDiff, Nat.reduceAdd, Nat.reduceSub, Nat.reduceMul, Nat.reduceMod, Nat.reduceDiv, Nat.reduceBEq, RH, h9'', h9']
      refine J.ite (fun h10 => ?_) (fun h10 => ?_)
      · have h10' := decide_eq_true h10
        have h10'' : decide ((x2.length : Int) ≤ x8) = false := decide_eq_false (by omega)
        conv => arg 1; simp (maxSteps := 1000000) (disch := first | assumption | decide | with_unfolding_all rfl | omega | (simp only [LN] <;> omega) | (simp only [RO, OF])) only [RR, RM, LN, TT, d10_at, ↓reduceIte, Nat.reduceEqDiff, Nat.reduceLT, Nat.reduceLeDiff, Nat.reduceAdd, Nat.reduceSub, Nat.reduceMul, Nat.reduceMod, Nat.reduceDiv, Nat.reduceBEq, RH, h9'', h9', h10'', h10']
        refine J.jmp (t := ()) hj1 ?_ ?_
        · first | rfl | (simp only [LN, NN, NT])
        · first | (simp (disch := first | assumption | decide | with_unfolding_all rfl | omega | (simp only [LN] <;> omega) | (simp only [RO, OF])) only [RR, ↓reduceIte, Nat.reduceEqDiff, Nat.reduceLT, Nat.reduceLeDiff, Nat.reduceAdd, Nat.reduceSub, Nat.reduceMul, Nat.reduceMod, Nat.reduceDiv, Nat.reduceBEq, LN, NN, NT]; done) | (simp (disch := first | assumption | decide | with_unfolding_all rfl | omega | (simp only [LN] <;> omega) | (simp only [RO, OF])) only [RR, ↓reduceIte, Nat.reduceEqDiff, Nat.reduceLT, Nat.reduceLeDiff, Nat.reduceAdd, Nat.reduceSub, Nat.reduceMul, Nat.reduceMod, Nat.reduceDiv, Nat.reduceBEq, LN, fm_app, NN, NT]; done) | rfl
      · have h10' := decide_eq_false h10
        have h10'' : decide ((x2.length : Int) ≤ x8) = true := decide_eq_true (by omega)
        conv => arg 1; simp (maxSteps := 1000000) (disch := first | assumption | decide | with_unfolding_all rfl | omega | (simp only [LN] <;> omega) | (simp only [RO, OF])) only [RR, RM, LN, TT, d10_at, ↓reduceIte, Nat.reduceEqDiff, Nat.reduceLT, Nat.reduceLeDiff, Nat.reduceAdd, Nat.reduceSub, Nat.reduceMul, Nat.reduceMod, Nat.reduceDiv, Nat.reduceBEq, RH, h9'', h9', h10'', h10']
        refine J.eq ret_seq ?_
        refine J.some ?_
        simp (maxSteps := 20000000) (disch := first | assumption | decide | with_unfolding_all rfl | omega | (simp only [LN] <;> omega) | (simp only [RO, OF])) only [RR, RM, LN, TT, d10_at, ↓reduceIte, Nat.reduceEqDiff, Nat.reduceLT, Nat.reduceLeDiff, Nat.reduceAdd, Nat.reduceSub, Nat.reduceMul, Nat.reduceMod, Nat.reduceDiv, Nat.reduceBEq, RH, h9'', h9', h10'', h10', FF, LN, NN, NT]
    · have h9' := decide_eq_false h9
      have h9'' : decide ((x1.length : Int) ≤ x8) = true := decide_eq_true (by omega)
      conv => arg 1; simp (maxSteps := 1000000) (disch := first | assumption | decide | with_unfolding_all rfl | omega | (simp only [LN] <;> omega) | (simp only [RO, OF])) only [RR, RM, LN, TT, d10_at, ↓reduceIte, Nat.reduceEqDiff, Nat.reduceLT, Nat.reduceLeDiff, Nat.reduceAdd, Nat.reduceSub, Nat.reduceMul, Nat.reduceMod, Nat.reduceDiv, Nat.reduceBEq, RH, h9'', h9']
      refine J.eq ret_seq ?_
      conv => arg 1; simp (maxSteps := 1000000) (disch := first | assumption | decide | with_unfolding_all rfl | omega | (simp only [LN] <;> omega) | (simp only [RO, OF])) only [RR, RM, LN, TT, d10_at, ↓reduceIte, Nat.reduceEqDiff, Nat.reduceLT, Nat.reduceLeDiff, Nat.reduceAdd, Nat.reduceSub, Nat.reduceMul, Nat.reduceMod, Nat.reduceDiv, Nat.reduceBEq, RH, h9'', h9']
      refine J.eq ret_seq ?_
      refine J.some ?_
      simp (maxSteps := 20000000) (disch := first | assumption | decide | with_unfolding_all rfl | omega | (simp only [LN] <;> omega) | (simp only [RO, OF])) only [RR, RM, LN, TT, d10_at, ↓reduceIte, Nat.reduceEqDiff, Nat.reduceLT, Nat.reduceLeDiff, Nat.reduceAdd, Nat.reduceSub, Nat.reduceMul, Nat.reduceMod, Nat.reduceDiv, Nat.reduceBEq, RH, h9'', h9', FF, LN, NN, NT]
noncomputable def t10 (fu : Nat) : CallP := orE 22 (mkC (fun (t : Int × Int) => ([.v (.int .u32 t.1), .v (.int .u32 t.2)] : List AV)) (fun t => ref01_Mul fu t.1 t.2) e22) (orE 21 (mkC (fun (t : Int × Int) => ([.v (.int .u32 t.1), .v (.int .u32 t.2)] : List AV)) (fun t => ref01_Add fu t.1 t.2) e21) (noP))
theorem t10_ok (fu : Nat) : CpOK Tryz.prog (t10 fu ) := orE_ok (orE_ok (noP_ok) (mkC_ok (fun t b h => ok21 fu t.1 t.2  b h))) (mkC_ok (fun t b h => ok22 fu t.1 t.2  b h))
theorem ok10 (fu : Nat) (x1 : List Int) (x2 : List Int) (r) (h : ref14_Dot fu x1 x2 = some r) : PureOK Tryz.prog 10 [.arr x1.length (lm (ik .u32) x1), .arr x2.length (lm (ik .u32) x2)] (e10 r) :=
  pure_J mixed (cp := t10 fu ) (t10_ok fu  ) noI_ok i10 (w10 _ fu x1 x2  (fun a0 a1 r h => orE_hit (mkC_at (a := (a0, a1)) (by intro a b h; first | (exact rfl) | (simp only [INJ, IJ] at h; first | exact h | (simp_all [Prod.ext_iff]) )) h)) (fun a0 a1 r h => orE_miss (by decide) (orE_hit (mkC_at (a := (a0, a1)) (by intro a b h; first | (exact rfl) | (simp only [INJ, IJ] at h; first | exact h | (simp_all [Prod.ext_iff]) )) h)))) h
/-! 3: lattice/latticelaw14.MatDots -/
def d3 : List (Nat × List Nat) := [(0, [4]), (0, []), (0, [6]), (0, []), (0, [0, 1, 5, 7, 8, 9, 10, 11, 12, 13, 14, 15, 16])]
def d3_at := And.intro (show d3.getD 0 (0, []) = (0, [4]) from rfl) <| And.intro (show d3.getD 1 (0, []) = (0, []) from rfl) <| And.intro (show d3.getD 2 (0, []) = (0, [6]) from rfl) <| And.intro (show d3.getD 3 (0, []) = (0, []) from rfl) <| (show d3.getD 4 (0, []) = (0, [0, 1, 5, 7, 8, 9, 10, 11, 12, 13, 14, 15, 16]) from rfl)
theorem i3 : finfo Tryz.prog 3 d3 = some ⟨bodyOf Tryz.f3, [.tmp 4], [4]⟩ := finfo_at Tryz.func3 rfl (by kernel_rfl) (by kernel_rfl)
def e3 : Bool → AV := fun r => .v (.bool r)
set_option maxHeartbeats 20000000 in
theorem w3 (cp : CallP) (fu : Nat) (x1 : List Int) (x2 : List Int) (H8 : cp 8 [] = some (.v (.bool true))) (H9_0 : ∀ (a0 : List Int) (a1 : List Int) r, mat_Dot fu a0 a1 = some r → cp 9 [.arr a0.length (lm (ik .u32) a0), .arr a1.length (lm (ik .u32) a1)] = some (.v (.int .u32 r))) (H10_0 : ∀ (a0 : List Int) (a1 : List Int) r, ref14_Dot fu a0 a1 = some r → cp 10 [.arr a0.length (lm (ik .u32) a0), .arr a1.length (lm (ik .u32) a1)] = some (.v (.int .u32 r))) : J (go Tryz.prog noC cp noI 0 [] d3 fu (fin Tryz.prog [.tmp 4] [4]) (bodyOf Tryz.f3) (initE 0 [.arr x1.length (lm (ik .u32) x1), .arr x2.length (lm (ik .u32) x2)]) [] []) (law14_MatDots fu x1 x2) e3 := by
  unfold law14_MatDots e3
  conv => arg 1; simp (maxSteps := 1000000) (disch := first | assumption | decide | with_unfolding_all rfl | omega | (simp only [LN] <;> omega) | (simp only [RO, OF])) only [bodyOf, Tryz.f3, RR, RM, LN, TT, d3_at, ↓reduceIte, Nat.reduceEqDiff, Nat.reduceLT, Nat.reduceLeDiff, Nat.reduceAdd, Nat.reduceSub, Nat.reduceMul, Nat.reduceMod, Nat.reduceDiv, Nat.reduceBEq, RH, H8]
  refine J.eq go_seq ?_
  refine J.bind fun x3 h1 => ?_
  have e_h1 := H9_0 _ _ _ h1
  try simp only [NN, NT, LN] at e_h1
  refine J.bind fun x4 h2 => ?_
  have e_h2 := H10_0 _ _ _ h2
  try simp only [NN, NT, LN] at e_h2
  conv => arg 1; simp (maxSteps := 1000000) (disch := first | assumption | decide | with_unfolding_all rfl | omega | (simp only [LN] <;> omega) | (simp only [RO, OF])) only [RR, RM, LN, TT, d3_at, ↓reduceIte, Nat.reduceEqDiff, Nat.reduceLT, Nat.reduceLeDiff, Nat.reduceAdd, Nat.reduceSub, Nat.reduceMul, Nat.reduceMod, Nat.reduceDiv, Nat.reduceBEq, RH, H8, e_h1, e_h2]
  refine J.eq ret_seq ?_
  refine J.some ?_
  simp (maxSteps := 20000000) (disch := first | assumption | decide | with_unfolding_all rfl | omega | (simp only [LN] <;> omega) | (simp only [RO, OF])) only [RR, RM, LN, TT, d3_at, ↓reduceIte, Nat.reduceEqDiff, Nat.reduceLT, Nat.reduceLeDiff, Nat.reduceAdd, Nat.reduceSub, Nat.reduceMul, Nat.reduceMod, Nat.reduceDiv, Nat.reduceBEq, RH, H8, e_h1, e_h2, FF, LN, NN, NT]
noncomputable def t3 (fu : Nat) : CallP := orE 8 (mkC (fun (_ : Unit) => ([] : List AV)) (fun _ => some true) (fun b => .v (.bool b))) (orE 9 (mkC (fun (t : (List Int) × (List Int)) => ([.arr t.1.length (lm (ik .u32) t.1), .arr t.2.length (lm (ik .u32) t.2)] : List AV)) (fun t => mat_Dot fu t.1 t.2) e9) (orE 10 (mkC (fun (t : (List Int) × (List Int)) => ([.arr t.1.length (lm (ik .u32) t.1), .arr t.2.length (lm (ik .u32) t.2)] : List AV)) (fun t => ref14_Dot fu t.1 t.2) e10) (noP)))
theorem t3_ok (fu : Nat) : CpOK Tryz.prog (t3 fu ) := orE_ok (orE_ok (orE_ok (noP_ok) (mkC_ok (fun t b h => ok10 fu t.1 t.2  b h))) (mkC_ok (fun t b h => ok9 fu t.1 t.2  b h))) (mkC_ok (fun _ b h => by injection h with h; subst h; exact awake8))
theorem ok3 (fu : Nat) (x1 : List Int) (x2 : List Int) (r) (h : law14_MatDots fu x1 x2 = some r) : PureOK Tryz.prog 3 [.arr x1.length (lm (ik .u32) x1), .arr x2.length (lm (ik .u32) x2)] (e3 r) :=
  pure_J mixed (cp := t3 fu ) (t3_ok fu  ) noI_ok i3 (w3 _ fu x1 x2  (orE_hit (mkC_at (a := ()) (fun _ _ _ => rfl) rfl)) (fun a0 a1 r h => orE_miss (by decide) (orE_hit (mkC_at (a := (a0, a1)) (by intro a b h; first | (exact rfl) | (simp only [INJ, IJ] at h; first | exact h | (simp_all [Prod.ext_iff]) )) h))) (fun a0 a1 r h => orE_miss (by decide) (orE_miss (by decide) (orE_hit (mkC_at (a := (a0, a1)) (by intro a b h; first | (exact rfl) | (simp only [INJ, IJ] at h; first | exact h | (simp_all [Prod.ext_iff]) )) h))))) h
end Go.Av
