/- The walks of the plain functions, part 3. Made by a program of mine. Conditions: none. -/
import Derived.Test.YtoeineoiofjfdaaQ9W2
set_option linter.unusedVariables false
set_option linter.unusedSimpArgs false
set_option linter.defProp false
set_option maxRecDepth 4000
open Go Go.Proofs
namespace Go.Av
/-! 49: lattice/latticeref05.Check -/
def d49 : List (Nat × List Nat) := [(0, [0, 2]), (0, [3, 22]), (0, [8, 9, 10]), (0, []), (0, []), (0, []), (0, [12, 13, 14, 15, 16, 17]), (0, []), (0, [18]), (0, []), (0, [20]), (0, []), (0, [4]), (0, []), (0, []), (0, []), (0, []), (0, []), (0, [21]), (0, []), (0, [23]), (0, []), (0, [25]), (0, []), (0, [26]), (0, []), (0, [28]), (0, []), (0, [29]), (0, []), (0, [1, 5, 6, 7, 30, 31, 32, 33, 34, 35, 36, 37, 38, 39, 40, 41, 42, 43, 44, 45, 46, 47]), (0, []), (0, []), (0, []), (0, [])]
def d49_at := And.intro (show d49.getD 0 (0, []) = (0, [0, 2]) from rfl) <| And.intro (show d49.getD 1 (0, []) = (0, [3, 22]) from rfl) <| And.intro (show d49.getD 2 (0, []) = (0, [8, 9, 10]) from rfl) <| And.intro (show d49.getD 3 (0, []) = (0, []) from rfl) <| And.intro (show d49.getD 4 (0, []) = (0, []) from rfl) <| And.intro (show d49.getD 5 (0, []) = (0, []) from rfl) <| And.intro (show d49.getD 6 (0, []) = (0, [12, 13, 14, 15, 16, 17]) from rfl) <| And.intro (show d49.getD 7 (0, []) = (0, []) from rfl) <| And.intro (show d49.getD 8 (0, []) = (0, [18]) from rfl) <| And.intro (show d49.getD 9 (0, []) = (0, []) from rfl) <| And.intro (show d49.getD 10 (0, []) = (0, [20]) from rfl) <| And.intro (show d49.getD 11 (0, []) = (0, []) from rfl) <| And.intro (show d49.getD 12 (0, []) = (0, [4]) from rfl) <| And.intro (show d49.getD 13 (0, []) = (0, []) from rfl) <| And.intro (show d49.getD 14 (0, []) = (0, []) from rfl) <| And.intro (show d49.getD 15 (0, []) = (0, []) from rfl) <| And.intro (show d49.getD 16 (0, []) = (0, []) from rfl) <| And.intro (show d49.getD 17 (0, []) = (0, []) from rfl) <| And.intro (show d49.getD 18 (0, []) = (0, [21]) from rfl) <| And.intro (show d49.getD 19 (0, []) = (0, []) from rfl) <| And.intro (show d49.getD 20 (0, []) = (0, [23]) from rfl) <| And.intro (show d49.getD 21 (0, []) = (0, []) from rfl) <| And.intro (show d49.getD 22 (0, []) = (0, [25]) from rfl) <| And.intro (show d49.getD 23 (0, []) = (0, []) from rfl) <| And.intro (show d49.getD 24 (0, []) = (0, [26]) from rfl) <| And.intro (show d49.getD 25 (0, []) = (0, []) from rfl) <| And.intro (show d49.getD 26 (0, []) = (0, [28]) from rfl) <| And.intro (show d49.getD 27 (0, []) = (0, []) from rfl) <| And.intro (show d49.getD 28 (0, []) = (0, [29]) from rfl) <| And.intro (show d49.getD 29 (0, []) = (0, []) from rfl) <| And.intro (show d49.getD 30 (0, []) = (0, [1, 5, 6, 7, 30, 31, 32, 33, 34, 35, 36, 37, 38, 39, 40, 41, 42, 43, 44, 45, 46, 47]) from rfl) <| And.intro (show d49.getD 31 (0, []) = (0, []) from rfl) <| And.intro (show d49.getD 32 (0, []) = (0, []) from rfl) <| And.intro (show d49.getD 33 (0, []) = (0, []) from rfl) <| (show d49.getD 34 (0, []) = (0, []) from rfl)
theorem i49 : finfo Try.prog 49 d49 = some ⟨bodyOf Try.f49, [.tmp 2], [25]⟩ := finfo_at Try.func49 rfl (by kernel_rfl) (by kernel_rfl)
def e49 : Int → AV := fun r => .v (.int .i64 r)
set_option maxHeartbeats 1000000 in
theorem w49 (cp : CallP) (fu : Nat) (x1 : T_Tensor) (H62_0 : ∀ (a0 : Int) r, ref05_Known fu a0 = some r → cp 62 [.v (.int .i64 a0)] = some (.v (.bool r))) (H16_0 : ∀ (a0 : List Int) r, ref04_Size fu a0 = some r → cp 16 [.arr a0.length (lm (ik .i64) a0)] = some (.tuple [.v (.int .i64 r.1), .v (.int .i64 r.2)])) : J (go Try.prog noC cp noI 0 [] d49 fu (fin Try.prog [.tmp 2] [25]) (bodyOf Try.f49) (initE 0 [.agg (c_T_Tensor x1)]) [] []) (ref05_Check fu x1) e49 := by
  unfold ref05_Check e49
  conv => arg 1; simp (maxSteps := 1000000) (disch := first | assumption | decide | with_unfolding_all rfl | omega | (simp only [LN] <;> omega) | (simp only [RO, OF])) only [bodyOf, Try.f49, RR, RM, LN, TT, d49_at, ↓reduceIte, Nat.reduceEqDiff, Nat.reduceLT, Nat.reduceLeDiff, Nat.reduceAdd, Nat.reduceSub, Nat.reduceMul, Nat.reduceMod, Nat.reduceDiv, Nat.reduceBEq, RH]
  refine J.eq go_seq ?_
  refine J.bind fun x2 h1 => ?_
  have e_h1 := H62_0 _ _ h1
  try simp only [NN, NT, LN] at e_h1
  conv => arg 1; simp (maxSteps := 1000000) (disch := first | assumption | decide | with_unfolding_all rfl | omega | (simp only [LN] <;> omega) | (simp only [RO, OF])) only [RR, RM, LN, TT, d49_at, ↓reduceIte, Nat.reduceEqDiff, Nat.reduceLT, Nat.reduceLeDiff, Nat.reduceAdd, Nat.reduceSub, Nat.reduceMul, Nat.reduceMod, Nat.reduceDiv, Nat.reduceBEq, RH, e_h1]
  refine J.ite (fun h2 => ?_) (fun h2 => ?_)
  · have h2' : x2 = true := h2
    conv => arg 1; simp (maxSteps := 1000000) (disch := first | assumption | decide | with_unfolding_all rfl | omega | (simp only [LN] <;> omega) | (simp only [RO, OF])) only [RR, RM, LN, TT, d49_at, ↓reduceIte, Nat.reduceEqDiff, Nat.reduceLT, Nat.reduceLeDiff, Nat.reduceAdd, Nat.reduceSub, Nat.reduceMul, Nat.reduceMod, Nat.reduceDiv, Nat.reduceBEq, RH, e_h1, h2']
    refine J.eq ret_seq ?_
    refine J.bind fun x3 h3 => ?_
    have e_h3 := H16_0 _ _ h3
    try simp only [NN, NT, LN] at e_h3
    conv => arg 1; simp (maxSteps := 1000000) (disch := first | assumption | decide | with_unfolding_all rfl | omega | (simp only [LN] <;> omega) | (simp only [RO, OF])) only [RR, RM, LN, TT, d49_at, ↓reduceIte, Nat.reduceEqDiff, Nat.reduceLT, Nat.reduceLeDiff, Nat.reduceAdd, Nat.reduceSub, Nat.reduceMul, Nat.reduceMod, Nat.reduceDiv, Nat.reduceBEq, RH, e_h1, h2', e_h3]
    refine J.eq go_seq ?_
    conv => arg 1; simp (maxSteps := 1000000) (disch := first | assumption | decide | with_unfolding_all rfl | omega | (simp only [LN] <;> omega) | (simp only [RO, OF])) only [RR, RM, LN, TT, d49_at, ↓reduceIte, Nat.reduceEqDiff, Nat.reduceLT, Nat.reduceLeDiff, Nat.reduceAdd, Nat.reduceSub, Nat.reduceMul, Nat.reduceMod, Nat.reduceDiv, Nat.reduceBEq, RH, e_h1, h2', e_h3]
    refine J.ite (fun h4 => ?_) (fun h4 => ?_)
    · have h4' := decide_eq_true h4
      conv => arg 1; simp (maxSteps := 1000000) (disch := first | assumption | decide | with_unfolding_all rfl | omega | (simp only [LN] <;> omega) | (simp only [RO, OF])) only [RR, RM, LN, TT, d49_at, ↓reduceIte, Nat.reduceEqDiff, Nat.reduceLT, Nat.reduceLeDiff, Nat.reduceAdd, Nat.reduceSub, Nat.reduceMul, Nat.reduceMod, Nat.reduceDiv, Nat.reduceBEq, RH, e_h1, h2', e_h3, h4']
      refine J.eq ret_seq ?_
      conv => arg 1; simp (maxSteps := 1000000) (disch := first | assumption | decide | with_unfolding_all rfl | omega | (simp only [LN] <;> omega) | (simp only [RO, OF])) only [RR, RM, LN, TT, d49_at, ↓reduceIte, Nat.reduceEqDiff, Nat.reduceLT, Nat.reduceLeDiff, Nat.reduceAdd, Nat.reduceSub, Nat.reduceMul, Nat.reduceMod, Nat.reduceDiv, Nat.reduceBEq, RH, e_h1, h2', e_h3, h4']
      refine J.joinS (fun (t : Int × Int × Int) => ([(1, .ptr (0, 1, 0) 0 0), (5, .v (.int .i64 t.1)), (6, .v (.int .i64 t.2.1)), (7, .v (.int .i64 t.2.2))], [((0, 1, 0), .bx true ([.v (.int .i64 x1.fType), .arr x1.fDims.length (lm (ik .i64) x1.fDims), .arr x1.fF.length (lm (ik .u32) x1.fF), .arr x1.fI.length (lm (ik .i64) x1.fI), .arr x1.fB.length (lm (bk) x1.fB)]))])) (fun t => ref05_Check_k1 fu x1 t.1 t.2.1 t.2.2) ?_ (fun hj1 => ?_)
      · rintro ⟨x4, x5, x6⟩
        show J _ (ref05_Check_k1 fu x1 x4 x5 x6) _
        unfold ref05_Check_k1
        refine J.eq go_seq ?_
        refine J.eq go_seq ?_
        conv => arg 1; simp (maxSteps := 1000000) (disch := first | assumption | decide | with_unfolding_all rfl | omega | (simp only [LN] <;> omega) | (simp only [RO, OF])) only [RR, RM, LN, TT, d49_at, ↓reduceIte, Nat.reduceEqDiff, Nat.reduceLT, Nat.reduceLeDiff, Nat.reduceAdd, Nat.reduceSub, Nat.reduceMul, Nat.reduceMod, Nat.reduceDiv, Nat.reduceBEq, RH, e_h1, h2', e_h3, h4']
        refine J.ite (fun h5 => ?_) (fun h5 => ?_)
        · have h5' := decide_eq_true h5
          conv => arg 1; simp (maxSteps := 1000000) (disch := first | assumption | decide | with_unfolding_all rfl | omega | (simp only [LN] <;> omega) | (simp only [RO, OF])) only [RR, RM, LN, TT, d49_at, ↓reduceIte, Nat.reduceEqDiff, Nat.reduceLT, Nat.reduceLeDiff, Nat.reduceAdd, Nat.reduceSub, Nat.reduceMul, Nat.reduceMod, Nat.reduceDiv, Nat.reduceBEq, RH, e_h1, h2', e_h3, h4', h5']
          refine J.ite (fun h6 => ?_) (fun h6 => ?_)
          · have h6' := decide_eq_true h6
            conv => arg 1; simp (maxSteps := 1000000) (disch := first | assumption | decide | with_unfolding_all rfl | omega | (simp only [LN] <;> omega) | (simp only [RO, OF])) only [RR, RM, LN, TT, d49_at, ↓reduceIte, Nat.reduceEqDiff, Nat.reduceLT, Nat.reduceLeDiff, Nat.reduceAdd, Nat.reduceSub, Nat.reduceMul, Nat.reduceMod, Nat.reduceDiv, Nat.reduceBEq, RH, e_h1, h2', e_h3, h4', h5', h6']
            refine J.eq ret_seq ?_
            conv => arg 1; simp (maxSteps := 1000000) (disch := first | assumption | decide | with_unfolding_all rfl | omega | (simp only [LN] <;> omega) | (simp only [RO, OF])) only [RR, RM, LN, TT, d49_at, ↓reduceIte, Nat.reduceEqDiff, Nat.reduceLT, Nat.reduceLeDiff, Nat.reduceAdd, Nat.reduceSub, Nat.reduceMul, Nat.reduceMod, Nat.reduceDiv, Nat.reduceBEq, RH, e_h1, h2', e_h3, h4', h5', h6']
            refine J.ite (fun h7 => ?_) (fun h7 => ?_)
            · have h7' := decide_eq_true h7
              conv => arg 1; simp (maxSteps := 1000000) (disch := first | assumption | decide | with_unfolding_all rfl | omega | (simp only [LN] <;> omega) | (simp only [RO, OF])) only [RR, RM, LN, TT, d49_at, ↓reduceIte, Nat.reduceEqDiff, Nat.reduceLT, Nat.reduceLeDiff, Nat.reduceAdd, Nat.reduceSub, Nat.reduceMul, Nat.reduceMod, Nat.reduceDiv, Nat.reduceBEq, RH, e_h1, h2', e_h3, h4', h5', h6', h7']
              refine J.eq ret_seq ?_
              refine J.some ?_
              simp (disch := first | assumption | decide | with_unfolding_all rfl | omega | (simp only [LN] <;> omega) | (simp only [RO, OF])) only [RR, RM, LN, TT, d49_at, ↓reduceIte, Nat.reduceEqDiff, Nat.reduceLT, Nat.reduceLeDiff, Nat.reduceAdd, Nat.reduceSub, Nat.reduceMul, Nat.reduceMod, Nat.reduceDiv, Nat.reduceBEq, RH, e_h1, h2', e_h3, h4', h5', h6', h7', FF, LN, NN, NT]
            · have h7' := decide_eq_false h7
              refine J.some ?_
              simp (disch := first | assumption | decide | with_unfolding_all rfl | omega | (simp only [LN] <;> omega) | (simp only [RO, OF])) only [RR, RM, LN, TT, d49_at, ↓reduceIte, Nat.reduceEqDiff, Nat.reduceLT, Nat.reduceLeDiff, Nat.reduceAdd, Nat.reduceSub, Nat.reduceMul, Nat.reduceMod, Nat.reduceDiv, Nat.reduceBEq, RH, e_h1, h2', e_h3, h4', h5', h6', h7', FF, LN, NN, NT]
          · have h6' := decide_eq_false h6
            conv => arg 1; simp (maxSteps := 1000000) (disch := first | assumption | decide | with_unfolding_all rfl | omega | (simp only [LN] <;> omega) | (simp only [RO, OF])) only [RR, RM, LN, TT, d49_at, ↓reduceIte, Nat.reduceEqDiff, Nat.reduceLT, Nat.reduceLeDiff, Nat.reduceAdd, Nat.reduceSub, Nat.reduceMul, Nat.reduceMod, Nat.reduceDiv, Nat.reduceBEq, RH, e_h1, h2', e_h3, h4', h5', h6']
            refine J.eq ret_seq ?_
            refine J.some ?_
            simp (disch := first | assumption | decide | with_unfolding_all rfl | omega | (simp only [LN] <;> omega) | (simp only [RO, OF])) only [RR, RM, LN, TT, d49_at, ↓reduceIte, Nat.reduceEqDiff, Nat.reduceLT, Nat.reduceLeDiff, Nat.reduceAdd, Nat.reduceSub, Nat.reduceMul, Nat.reduceMod, Nat.reduceDiv, Nat.reduceBEq, RH, e_h1, h2', e_h3, h4', h5', h6', FF, LN, NN, NT]
        · have h5' := decide_eq_false h5
          conv => arg 1; simp (maxSteps := 1000000) (disch := first | assumption | decide | with_unfolding_all rfl | omega | (simp only [LN] <;> omega) | (simp only [RO, OF])) only [RR, RM, LN, TT, d49_at, ↓reduceIte, Nat.reduceEqDiff, Nat.reduceLT, Nat.reduceLeDiff, Nat.reduceAdd, Nat.reduceSub, Nat.reduceMul, Nat.reduceMod, Nat.reduceDiv, Nat.reduceBEq, RH, e_h1, h2', e_h3, h4', h5']
          refine J.eq ret_seq ?_
          refine J.some ?_
          simp (disch := first | assumption | decide | with_unfolding_all rfl | omega | (simp only [LN] <;> omega) | (simp only [RO, OF])) only [RR, RM, LN, TT, d49_at, ↓reduceIte, Nat.reduceEqDiff, Nat.reduceLT, Nat.reduceLeDiff, Nat.reduceAdd, Nat.reduceSub, Nat.reduceMul, Nat.reduceMod, Nat.reduceDiv, Nat.reduceBEq, RH, e_h1, h2', e_h3, h4', h5', FF, LN, NN, NT]
      · conv => arg 1; simp (maxSteps := 1000000) (disch := first | assumption | decide | with_unfolding_all rfl | omega | (simp only [LN] <;> omega) | (simp only [RO, OF])) only [RR, RM, LN, TT, d49_at, ↓reduceIte, Nat.reduceEqDiff, Nat.reduceLT, Nat.reduceLeDiff, Nat.reduceAdd, Nat.reduceSub, Nat.reduceMul, Nat.reduceMod, Nat.reduceDiv, Nat.reduceBEq, RH, e_h1, h2', e_h3, h4']
        refine J.ite (fun h8 => ?_) (fun h8 => ?_)
        · have h8' := decide_eq_true h8
          conv => arg 1; simp (maxSteps := 1000000) (disch := first | assumption | decide | with_unfolding_all rfl | omega | (simp only [LN] <;> omega) | (simp only [RO, OF])) only [RR, RM, LN, TT, d49_at, ↓reduceIte, Nat.reduceEqDiff, Nat.reduceLT, Nat.reduceLeDiff, Nat.reduceAdd, Nat.reduceSub, Nat.reduceMul, Nat.reduceMod, Nat.reduceDiv, Nat.reduceBEq, RH, e_h1, h2', e_h3, h4', h8']
          refine J.jmp (t := (x3.1, 0, 0)) hj1 ?_ ?_
          · first | rfl | (simp only [LN, NN, NT])
          · first | (simp (disch := first | assumption | decide | with_unfolding_all rfl | omega | (simp only [LN] <;> omega) | (simp only [RO, OF])) only [RR, ↓reduceIte, Nat.reduceEqDiff, Nat.reduceLT, Nat.reduceLeDiff, Nat.reduceAdd, Nat.reduceSub, Nat.reduceMul, Nat.reduceMod, Nat.reduceDiv, Nat.reduceBEq, LN, NN, NT]; done) | rfl
        · have h8' := decide_eq_false h8
          conv => arg 1; simp (maxSteps := 1000000) (disch := first | assumption | decide | with_unfolding_all rfl | omega | (simp only [LN] <;> omega) | (simp only [RO, OF])) only [RR, RM, LN, TT, d49_at, ↓reduceIte, Nat.reduceEqDiff, Nat.reduceLT, Nat.reduceLeDiff, Nat.reduceAdd, Nat.reduceSub, Nat.reduceMul, Nat.reduceMod, Nat.reduceDiv, Nat.reduceBEq, RH, e_h1, h2', e_h3, h4', h8']
          refine J.ite (fun h9 => ?_) (fun h9 => ?_)
          · have h9' := decide_eq_true h9
            conv => arg 1; simp (maxSteps := 1000000) (disch := first | assumption | decide | with_unfolding_all rfl | omega | (simp only [LN] <;> omega) | (simp only [RO, OF])) only [RR, RM, LN, TT, d49_at, ↓reduceIte, Nat.reduceEqDiff, Nat.reduceLT, Nat.reduceLeDiff, Nat.reduceAdd, Nat.reduceSub, Nat.reduceMul, Nat.reduceMod, Nat.reduceDiv, Nat.reduceBEq, RH, e_h1, h2', e_h3, h4', h8', h9']
            refine J.jmp (t := (0, x3.1, 0)) hj1 ?_ ?_
            · first | rfl | (simp only [LN, NN, NT])
            · first | (simp (disch := first | assumption | decide | with_unfolding_all rfl | omega | (simp only [LN] <;> omega) | (simp only [RO, OF])) only [RR, ↓reduceIte, Nat.reduceEqDiff, Nat.reduceLT, Nat.reduceLeDiff, Nat.reduceAdd, Nat.reduceSub, Nat.reduceMul, Nat.reduceMod, Nat.reduceDiv, Nat.reduceBEq, LN, NN, NT]; done) | rfl
          · have h9' := decide_eq_false h9
            conv => arg 1; simp (maxSteps := 1000000) (disch := first | assumption | decide | with_unfolding_all rfl | omega | (simp only [LN] <;> omega) | (simp only [RO, OF])) only [RR, RM, LN, TT, d49_at, ↓reduceIte, Nat.reduceEqDiff, Nat.reduceLT, Nat.reduceLeDiff, Nat.reduceAdd, Nat.reduceSub, Nat.reduceMul, Nat.reduceMod, Nat.reduceDiv, Nat.reduceBEq, RH, e_h1, h2', e_h3, h4', h8', h9']
            refine J.jmp (t := (0, 0, x3.1)) hj1 ?_ ?_
            · first | rfl | (simp only [LN, NN, NT])
            · first | (simp (disch := first | assumption | decide | with_unfolding_all rfl | omega | (simp only [LN] <;> omega) | (simp only [RO, OF])) only [RR, ↓reduceIte, Nat.reduceEqDiff, Nat.reduceLT, Nat.reduceLeDiff, Nat.reduceAdd, Nat.reduceSub, Nat.reduceMul, Nat.reduceMod, Nat.reduceDiv, Nat.reduceBEq, LN, NN, NT]; done) | rfl
    · have h4' := decide_eq_false h4
      refine J.some ?_
      simp (disch := first | assumption | decide | with_unfolding_all rfl | omega | (simp only [LN] <;> omega) | (simp only [RO, OF])) only [RR, RM, LN, TT, d49_at, ↓reduceIte, Nat.reduceEqDiff, Nat.reduceLT, Nat.reduceLeDiff, Nat.reduceAdd, Nat.reduceSub, Nat.reduceMul, Nat.reduceMod, Nat.reduceDiv, Nat.reduceBEq, RH, e_h1, h2', e_h3, h4', FF, LN, NN, NT]
  · have h2' : x2 = false := Bool.eq_false_iff.2 h2
    refine J.some ?_
    simp (disch := first | assumption | decide | with_unfolding_all rfl | omega | (simp only [LN] <;> omega) | (simp only [RO, OF])) only [RR, RM, LN, TT, d49_at, ↓reduceIte, Nat.reduceEqDiff, Nat.reduceLT, Nat.reduceLeDiff, Nat.reduceAdd, Nat.reduceSub, Nat.reduceMul, Nat.reduceMod, Nat.reduceDiv, Nat.reduceBEq, RH, e_h1, h2', FF, LN, NN, NT]
noncomputable def t49 (fu : Nat) : CallP := orE 62 (mkC (fun (t : Int) => ([.v (.int .i64 t)] : List AV)) (fun t => ref05_Known fu t) e62) (orE 16 (mkC (fun (t : List Int) => ([.arr t.length (lm (ik .i64) t)] : List AV)) (fun t => ref04_Size fu t) e16) (noP))
theorem t49_ok (fu : Nat) : CpOK Try.prog (t49 fu ) := orE_ok (orE_ok (noP_ok) (mkC_ok (fun t b h => ok16 fu t  b h))) (mkC_ok (fun t b h => ok62 fu t  b h))
theorem ok49 (fu : Nat) (x1 : T_Tensor) (r) (h : ref05_Check fu x1 = some r) : PureOK Try.prog 49 [.agg (c_T_Tensor x1)] (e49 r) :=
  pure_J mixed (cp := t49 fu ) (t49_ok fu  ) noI_ok i49 (w49 _ fu x1  (fun a0 r h => orE_hit (mkC_at (a := a0) (by intro a b h; first | (exact rfl) | (simp only [INJ, c_inj_iff c_T_Tensor_inj, lm_inj_iff (inj_avf (inj_fm c_T_Tensor_len (by decide) c_T_Tensor_inj)), fm_inj_iff (inj_fm c_T_Tensor_len (by decide) c_T_Tensor_inj)] at h; first | exact h | (simp_all [Prod.ext_iff]) )) h)) (fun a0 r h => orE_miss (by decide) (orE_hit (mkC_at (a := a0) (by intro a b h; first | (exact rfl) | (simp only [INJ, c_inj_iff c_T_Tensor_inj, lm_inj_iff (inj_avf (inj_fm c_T_Tensor_len (by decide) c_T_Tensor_inj)), fm_inj_iff (inj_fm c_T_Tensor_len (by decide) c_T_Tensor_inj)] at h; first | exact h | (simp_all [Prod.ext_iff]) )) h)))) h
/-! 42: lattice/latticeref05.Bytes -/
def d42 : List (Nat × List Nat) := [(0, [0, 2, 3]), (0, [1, 6]), (0, [9, 10]), (0, []), (0, [11]), (0, [30]), (0, [13]), (0, [7, 8]), (0, [4, 1000005]), (0, []), (0, []), (0, []), (0, [14, 15, 16, 17, 18, 19, 20, 21, 22, 23, 24, 25]), (0, []), (0, [27, 28]), (0, []), (0, []), (0, []), (0, [29]), (0, []), (0, [31, 32, 33, 34]), (0, []), (0, []), (0, []), (0, [37]), (0, []), (0, [38, 39, 40, 41, 42, 43]), (0, []), (0, [45]), (0, []), (0, [46, 47, 48, 49, 50, 51]), (0, []), (0, []), (0, []), (0, [52, 53, 54, 55]), (0, []), (0, [57, 58]), (0, []), (0, [59, 60, 61, 62, 63, 64]), (0, []), (0, [65, 66]), (0, []), (0, [5, 67])]
def d42_at := And.intro (show d42.getD 0 (0, []) = (0, [0, 2, 3]) from rfl) <| And.intro (show d42.getD 1 (0, []) = (0, [1, 6]) from rfl) <| And.intro (show d42.getD 2 (0, []) = (0, [9, 10]) from rfl) <| And.intro (show d42.getD 3 (0, []) = (0, []) from rfl) <| And.intro (show d42.getD 4 (0, []) = (0, [11]) from rfl) <| And.intro (show d42.getD 5 (0, []) = (0, [30]) from rfl) <| And.intro (show d42.getD 6 (0, []) = (0, [13]) from rfl) <| And.intro (show d42.getD 7 (0, []) = (0, [7, 8]) from rfl) <| And.intro (show d42.getD 8 (0, []) = (0, [4, 1000005]) from rfl) <| And.intro (show d42.getD 9 (0, []) = (0, []) from rfl) <| And.intro (show d42.getD 10 (0, []) = (0, []) from rfl) <| And.intro (show d42.getD 11 (0, []) = (0, []) from rfl) <| And.intro (show d42.getD 12 (0, []) = (0, [14, 15, 16, 17, 18, 19, 20, 21, 22, 23, 24, 25]) from rfl) <| And.intro (show d42.getD 13 (0, []) = (0, []) from rfl) <| And.intro (show d42.getD 14 (0, []) = (0, [27, 28]) from rfl) <| And.intro (show d42.getD 15 (0, []) = (0, []) from rfl) <| And.intro (show d42.getD 16 (0, []) = (0, []) from rfl) <| And.intro (show d42.getD 17 (0, []) = (0, []) from rfl) <| And.intro (show d42.getD 18 (0, []) = (0, [29]) from rfl) <| And.intro (show d42.getD 19 (0, []) = (0, []) from rfl) <| And.intro (show d42.getD 20 (0, []) = (0, [31, 32, 33, 34]) from rfl) <| And.intro (show d42.getD 21 (0, []) = (0, []) from rfl) <| And.intro (show d42.getD 22 (0, []) = (0, []) from rfl) <| And.intro (show d42.getD 23 (0, []) = (0, []) from rfl) <| And.intro (show d42.getD 24 (0, []) = (0, [37]) from rfl) <| And.intro (show d42.getD 25 (0, []) = (0, []) from rfl) <| And.intro (show d42.getD 26 (0, []) = (0, [38, 39, 40, 41, 42, 43]) from rfl) <| And.intro (show d42.getD 27 (0, []) = (0, []) from rfl) <| And.intro (show d42.getD 28 (0, []) = (0, [45]) from rfl) <| And.intro (show d42.getD 29 (0, []) = (0, []) from rfl) <| And.intro (show d42.getD 30 (0, []) = (0, [46, 47, 48, 49, 50, 51]) from rfl) <| And.intro (show d42.getD 31 (0, []) = (0, []) from rfl) <| And.intro (show d42.getD 32 (0, []) = (0, []) from rfl) <| And.intro (show d42.getD 33 (0, []) = (0, []) from rfl) <| And.intro (show d42.getD 34 (0, []) = (0, [52, 53, 54, 55]) from rfl) <| And.intro (show d42.getD 35 (0, []) = (0, []) from rfl) <| And.intro (show d42.getD 36 (0, []) = (0, [57, 58]) from rfl) <| And.intro (show d42.getD 37 (0, []) = (0, []) from rfl) <| And.intro (show d42.getD 38 (0, []) = (0, [59, 60, 61, 62, 63, 64]) from rfl) <| And.intro (show d42.getD 39 (0, []) = (0, []) from rfl) <| And.intro (show d42.getD 40 (0, []) = (0, [65, 66]) from rfl) <| And.intro (show d42.getD 41 (0, []) = (0, []) from rfl) <| (show d42.getD 42 (0, []) = (0, [5, 67]) from rfl)
theorem i42 : finfo Try.prog 42 d42 = some ⟨bodyOf Try.f42, [.tmp 2, .tmp 3], [53, 25]⟩ := finfo_at Try.func42 rfl (by kernel_rfl) (by kernel_rfl)
def e42 : ((List Int) × Int) → AV := fun r => .tuple [.fresh 1 r.1.length (lm (ik .u8) r.1), .v (.int .i64 r.2)]
set_option maxHeartbeats 1000000 in
theorem w42 (cp : CallP) (fu : Nat) (x1 : T_Tensor) (H49_0 : ∀ (a0 : T_Tensor) r, ref05_Check fu a0 = some r → cp 49 [.agg (c_T_Tensor a0)] = some (.v (.int .i64 r))) (H35_0 : ∀ (a0 : Int) r, ref05_Width fu a0 = some r → cp 35 [.v (.int .i64 a0)] = some (.v (.int .i64 r))) : J (go Try.prog noC cp noI 0 [] d42 fu (fin Try.prog [.tmp 2, .tmp 3] [53, 25]) (bodyOf Try.f42) (initE 0 [.agg (c_T_Tensor x1)]) [] []) (ref05_Bytes fu x1) e42 := by
  unfold ref05_Bytes e42
  refine J.bind fun x2 h1 => ?_
  have e_h1 := H49_0 _ _ h1
  try simp only [NN, NT, LN] at e_h1
  conv => arg 1; simp (maxSteps := 1000000) (disch := first | assumption | decide | with_unfolding_all rfl | omega | (simp only [LN] <;> omega) | (simp only [RO, OF])) only [bodyOf, Try.f42, RR, RM, LN, TT, d42_at, ↓reduceIte, Nat.reduceEqDiff, Nat.reduceLT, Nat.reduceLeDiff, Nat.reduceAdd, Nat.reduceSub, Nat.reduceMul, Nat.reduceMod, Nat.reduceDiv, Nat.reduceBEq, RH, e_h1]
  refine J.eq go_seq ?_
  conv => arg 1; simp (maxSteps := 1000000) (disch := first | assumption | decide | with_unfolding_all rfl | omega | (simp only [LN] <;> omega) | (simp only [RO, OF])) only [RR, RM, LN, TT, d42_at, ↓reduceIte, Nat.reduceEqDiff, Nat.reduceLT, Nat.reduceLeDiff, Nat.reduceAdd, Nat.reduceSub, Nat.reduceMul, Nat.reduceMod, Nat.reduceDiv, Nat.reduceBEq, RH, e_h1]
  refine J.ite (fun h2 => ?_) (fun h2 => ?_)
  · have h2' := decide_eq_true h2
    conv => arg 1; simp (maxSteps := 1000000) (disch := first | assumption | decide | with_unfolding_all rfl | omega | (simp only [LN] <;> omega) | (simp only [RO, OF])) only [RR, RM, LN, TT, d42_at, ↓reduceIte, Nat.reduceEqDiff, Nat.reduceLT, Nat.reduceLeDiff, Nat.reduceAdd, Nat.reduceSub, Nat.reduceMul, Nat.reduceMod, Nat.reduceDiv, Nat.reduceBEq, RH, e_h1, h2']
    refine J.eq ret_seq ?_
    conv => arg 1; simp (maxSteps := 1000000) (disch := first | assumption | decide | with_unfolding_all rfl | omega | (simp only [LN] <;> omega) | (simp only [RO, OF])) only [RR, RM, LN, TT, d42_at, ↓reduceIte, Nat.reduceEqDiff, Nat.reduceLT, Nat.reduceLeDiff, Nat.reduceAdd, Nat.reduceSub, Nat.reduceMul, Nat.reduceMod, Nat.reduceDiv, Nat.reduceBEq, RH, e_h1, h2']
    refine J.eq go_seq ?_
    conv => arg 1; simp (maxSteps := 1000000) (disch := first | assumption | decide | with_unfolding_all rfl | omega | (simp only [LN] <;> omega) | (simp only [RO, OF])) only [RR, RM, LN, TT, d42_at, ↓reduceIte, Nat.reduceEqDiff, Nat.reduceLT, Nat.reduceLeDiff, Nat.reduceAdd, Nat.reduceSub, Nat.reduceMul, Nat.reduceMod, Nat.reduceDiv, Nat.reduceBEq, RH, e_h1, h2']
    unfold ref05_Bytes_W1
    refine J.loop (fun (s : (List Int) × Int) => ([(1, .ptr (0, 1, 0) 0 0), (5, .own (0, 5, 77) 0 s.1.length s.1.length), (6, .v (.int .i64 s.2))], [((0, 1, 0), .bx true ([.v (.int .i64 x1.fType), .arr x1.fDims.length (lm (ik .i64) x1.fDims), .arr x1.fF.length (lm (ik .u32) x1.fF), .arr x1.fI.length (lm (ik .i64) x1.fI), .arr x1.fB.length (lm (bk) x1.fB)])), ((0, 5, 77), .sl true true 1 s.1.length (lm (ik .u8) s.1))])) (fun next s => ref05_Bytes_L1 fu x1 (fun x13 x14 => next (x13, x14)) s.1 s.2) (s0 := (([] : List Int), 0)) ?_ ?_ ?_
    · first | rfl | (simp only [LN, NN, NT])
    · first | (simp (disch := first | assumption | decide | with_unfolding_all rfl | omega | (simp only [LN] <;> omega) | (simp only [RO, OF])) only [RR, ↓reduceIte, Nat.reduceEqDiff, Nat.reduceLT, Nat.reduceLeDiff, Nat.reduceAdd, Nat.reduceSub, Nat.reduceMul, Nat.reduceMod, Nat.reduceDiv, Nat.reduceBEq, LN, NN, NT]; done) | rfl
    rintro next k1 hn1 ⟨x13, x14⟩
    let nx1 : (List Int) → Int → Option ((List Int) × Int) := (fun x13 x14 => next (x13, x14))
    show J _ (ref05_Bytes_L1 fu x1 nx1 x13 x14) _
    unfold ref05_Bytes_L1
    refine J.eq go_seq ?_
    conv => arg 1; simp (maxSteps := 1000000) (disch := first | assumption | decide | with_unfolding_all rfl | omega | (simp only [LN] <;> omega) | (simp only [RO, OF])) only [RR, RM, LN, TT, d42_at, ↓reduceIte, Nat.reduceEqDiff, Nat.reduceLT, Nat.reduceLeDiff, Nat.reduceAdd, Nat.reduceSub, Nat.reduceMul, Nat.reduceMod, Nat.reduceDiv, Nat.reduceBEq, RH, e_h1, h2']
    refine J.ite (fun h3 => ?_) (fun h3 => ?_)
    · have h3' := decide_eq_true h3
      have h3'' : decide ((wk .i64 ((wk .i64 ((x1.fF.length : Int) + (x1.fI.length : Int))) + (x1.fB.length : Int))) ≤ x14) = false := decide_eq_false (by omega)
      conv => arg 1; simp (maxSteps := 1000000) (disch := first | assumption | decide | with_unfolding_all rfl | omega | (simp only [LN] <;> omega) | (simp only [RO, OF])) only [RR, RM, LN, TT, d42_at, ↓reduceIte, Nat.reduceEqDiff, Nat.reduceLT, Nat.reduceLeDiff, Nat.reduceAdd, Nat.reduceSub, Nat.reduceMul, Nat.reduceMod, Nat.reduceDiv, Nat.reduceBEq, RH, e_h1, h2', h3'', h3']
      refine J.eq ret_seq ?_
      refine J.eq go_seq ?_
      conv => arg 1; simp (maxSteps := 1000000) (disch := first | assumption | decide | with_unfolding_all rfl | omega | (simp only [LN] <;> omega) | (simp only [RO, OF])) only [RR, RM, LN, TT, d42_at, ↓reduceIte, Nat.reduceEqDiff, Nat.reduceLT, Nat.reduceLeDiff, Nat.reduceAdd, Nat.reduceSub, Nat.reduceMul, Nat.reduceMod, Nat.reduceDiv, Nat.reduceBEq, RH, e_h1, h2', h3'', h3']
      refine J.joinS (fun (t : Int) => ([(1, .ptr (0, 1, 0) 0 0), (5, .own (0, 5, 77) 0 x13.length x13.length), (6, .v (.int .i64 x14)), (7, .v (.int .u64 t))], [((0, 1, 0), .bx true ([.v (.int .i64 x1.fType), .arr x1.fDims.length (lm (ik .i64) x1.fDims), .arr x1.fF.length (lm (ik .u32) x1.fF), .arr x1.fI.length (lm (ik .i64) x1.fI), .arr x1.fB.length (lm (bk) x1.fB)])), ((0, 5, 77), .sl true true 1 x13.length (lm (ik .u8) x13))])) (fun t => ref05_Bytes_k1 fu nx1 x1 x13 x14 t) ?_ (fun hj1 => ?_)
      · rintro x25
        show J _ (ref05_Bytes_k1 fu nx1 x1 x13 x14 x25) _
        unfold ref05_Bytes_k1
        conv => arg 1; simp (maxSteps := 1000000) (disch := first | assumption | decide | with_unfolding_all rfl | omega | (simp only [LN] <;> omega) | (simp only [RO, OF])) only [RR, RM, LN, TT, d42_at, ↓reduceIte, Nat.reduceEqDiff, Nat.reduceLT, Nat.reduceLeDiff, Nat.reduceAdd, Nat.reduceSub, Nat.reduceMul, Nat.reduceMod, Nat.reduceDiv, Nat.reduceBEq, RH, e_h1, h2', h3'', h3']
        unfold ref05_Bytes_W2
        refine J.loop (fun (s : (List Int) × Int × Int) => ([(1, .ptr (0, 1, 0) 0 0), (5, .own (0, 5, 77) 0 s.1.length s.1.length), (6, .v (.int .i64 x14)), (7, .v (.int .u64 s.2.1)), (8, .v (.int .i64 s.2.2))], [((0, 1, 0), .bx true ([.v (.int .i64 x1.fType), .arr x1.fDims.length (lm (ik .i64) x1.fDims), .arr x1.fF.length (lm (ik .u32) x1.fF), .arr x1.fI.length (lm (ik .i64) x1.fI), .arr x1.fB.length (lm (bk) x1.fB)])), ((0, 5, 77), .sl true true 1 s.1.length (lm (ik .u8) s.1))])) (fun next s => ref05_Bytes_L2 fu nx1 x1 x14 (fun x27 x28 x29 => next (x27, x28, x29)) s.1 s.2.1 s.2.2) (s0 := (x13, x25, 0)) ?_ ?_ ?_
        · first | rfl | (simp only [LN, NN, NT])
        · first | (simp (disch := first | assumption | decide | with_unfolding_all rfl | omega | (simp only [LN] <;> omega) | (simp only [RO, OF])) only [RR, ↓reduceIte, Nat.reduceEqDiff, Nat.reduceLT, Nat.reduceLeDiff, Nat.reduceAdd, Nat.reduceSub, Nat.reduceMul, Nat.reduceMod, Nat.reduceDiv, Nat.reduceBEq, LN, NN, NT]; done) | rfl
        rintro next k2 hn2 ⟨x27, x28, x29⟩
        let nx2 : (List Int) → Int → Int → Option ((List Int) × Int) := (fun x27 x28 x29 => next (x27, x28, x29))
        show J _ (ref05_Bytes_L2 fu nx1 x1 x14 nx2 x27 x28 x29) _
        unfold ref05_Bytes_L2
        refine J.eq go_seq ?_
        refine J.bind fun x31 h4 => ?_
        have e_h4 := H35_0 _ _ h4
        try simp only [NN, NT, LN] at e_h4
        conv => arg 1; simp (maxSteps := 1000000) (disch := first | assumption | decide | with_unfolding_all rfl | omega | (simp only [LN] <;> omega) | (simp only [RO, OF])) only [RR, RM, LN, TT, d42_at, ↓reduceIte, Nat.reduceEqDiff, Nat.reduceLT, Nat.reduceLeDiff, Nat.reduceAdd, Nat.reduceSub, Nat.reduceMul, Nat.reduceMod, Nat.reduceDiv, Nat.reduceBEq, RH, e_h1, h2', h3'', h3', e_h4]
        refine J.ite (fun h5 => ?_) (fun h5 => ?_)
        · have h5' := decide_eq_true h5
          have h5'' : decide (x31 ≤ x29) = false := decide_eq_false (by omega)
          conv => arg 1; simp (maxSteps := 1000000) (disch := first | assumption | decide | with_unfolding_all rfl | omega | (simp only [LN] <;> omega) | (simp only [RO, OF])) only [RR, RM, LN, TT, d42_at, ↓reduceIte, Nat.reduceEqDiff, Nat.reduceLT, Nat.reduceLeDiff, Nat.reduceAdd, Nat.reduceSub, Nat.reduceMul, Nat.reduceMod, Nat.reduceDiv, Nat.reduceBEq, RH, e_h1, h2', h3'', h3', e_h4, h5'', h5']
          refine J.eq ret_seq ?_
          refine J.eq go_seq ?_
          refine J.chk fun h6 => ?_
          conv => arg 1; simp (maxSteps := 1000000) (disch := first | assumption | decide | with_unfolding_all rfl | omega | (simp only [LN] <;> omega) | (simp only [RO, OF])) only [RR, RM, LN, TT, d42_at, ↓reduceIte, Nat.reduceEqDiff, Nat.reduceLT, Nat.reduceLeDiff, Nat.reduceAdd, Nat.reduceSub, Nat.reduceMul, Nat.reduceMod, Nat.reduceDiv, Nat.reduceBEq, RH, e_h1, h2', h3'', h3', e_h4, h5'', h5']
          refine J.eq ret_seq ?_
          conv => arg 1; simp (maxSteps := 1000000) (disch := first | assumption | decide | with_unfolding_all rfl | omega | (simp only [LN] <;> omega) | (simp only [RO, OF])) only [RR, RM, LN, TT, d42_at, ↓reduceIte, Nat.reduceEqDiff, Nat.reduceLT, Nat.reduceLeDiff, Nat.reduceAdd, Nat.reduceSub, Nat.reduceMul, Nat.reduceMod, Nat.reduceDiv, Nat.reduceBEq, RH, e_h1, h2', h3'', h3', e_h4, h5'', h5']
          refine J.next (s := (x27 ++ ([wk .u8 (Int.tmod x28 256)]), wk .u64 (Int.tdiv x28 256), wk .i64 (x29 + 1))) hn2 ?_ ?_
          · first | rfl | (simp only [LN, NN, NT])
          · first | (simp (disch := first | assumption | decide | with_unfolding_all rfl | omega | (simp only [LN] <;> omega) | (simp only [RO, OF])) only [RR, ↓reduceIte, Nat.reduceEqDiff, Nat.reduceLT, Nat.reduceLeDiff, Nat.reduceAdd, Nat.reduceSub, Nat.reduceMul, Nat.reduceMod, Nat.reduceDiv, Nat.reduceBEq, LN, NN, NT]; done) | rfl
        · have h5' := decide_eq_false h5
          have h5'' : decide (x31 ≤ x29) = true := decide_eq_true (by omega)
          conv => arg 1; simp (maxSteps := 1000000) (disch := first | assumption | decide | with_unfolding_all rfl | omega | (simp only [LN] <;> omega) | (simp only [RO, OF])) only [RR, RM, LN, TT, d42_at, ↓reduceIte, Nat.reduceEqDiff, Nat.reduceLT, Nat.reduceLeDiff, Nat.reduceAdd, Nat.reduceSub, Nat.reduceMul, Nat.reduceMod, Nat.reduceDiv, Nat.reduceBEq, RH, e_h1, h2', h3'', h3', e_h4, h5'', h5']
          refine J.eq ret_seq ?_
          conv => arg 1; simp (maxSteps := 1000000) (disch := first | assumption | decide | with_unfolding_all rfl | omega | (simp only [LN] <;> omega) | (simp only [RO, OF])) only [RR, RM, LN, TT, d42_at, ↓reduceIte, Nat.reduceEqDiff, Nat.reduceLT, Nat.reduceLeDiff, Nat.reduceAdd, Nat.reduceSub, Nat.reduceMul, Nat.reduceMod, Nat.reduceDiv, Nat.reduceBEq, RH, e_h1, h2', h3'', h3', e_h4, h5'', h5']
          refine J.next (s := (x27, wk .i64 (x14 + 1))) hn1 ?_ ?_
          · first | rfl | (simp only [LN, NN, NT])
          · first | (simp (disch := first | assumption | decide | with_unfolding_all rfl | omega | (simp only [LN] <;> omega) | (simp only [RO, OF])) only [RR, ↓reduceIte, Nat.reduceEqDiff, Nat.reduceLT, Nat.reduceLeDiff, Nat.reduceAdd, Nat.reduceSub, Nat.reduceMul, Nat.reduceMod, Nat.reduceDiv, Nat.reduceBEq, LN, NN, NT]; done) | rfl
      · conv => arg 1; simp (maxSteps := 1000000) (disch := first | assumption | decide | with_unfolding_all rfl | omega | (simp only [LN] <;> omega) | (simp only [RO, OF])) only [RR, RM, LN, TT, d42_at, ↓reduceIte, Nat.reduceEqDiff, Nat.reduceLT, Nat.reduceLeDiff, Nat.reduceAdd, Nat.reduceSub, Nat.reduceMul, Nat.reduceMod, Nat.reduceDiv, Nat.reduceBEq, RH, e_h1, h2', h3'', h3']
        refine J.ite (fun h7 => ?_) (fun h7 => ?_)
        · have h7' := decide_eq_true h7
          refine J.at fun x32 h8 h9 h10 => ?_
          conv => arg 1; simp (maxSteps := 1000000) (disch := first | assumption | decide | with_unfolding_all rfl | omega | (simp only [LN] <;> omega) | (simp only [RO, OF])) only [RR, RM, LN, TT, d42_at, ↓reduceIte, Nat.reduceEqDiff, Nat.reduceLT, Nat.reduceLeDiff, Nat.reduceAdd, Nat.reduceSub, Nat.reduceMul, Nat.reduceMod, Nat.reduceDiv, Nat.reduceBEq, RH, e_h1, h2', h3'', h3', h7', lm_ik h10]
          refine J.jmp (t := wk .u64 x32) hj1 ?_ ?_
          · first | rfl | (simp only [LN, NN, NT])
          · first | (simp (disch := first | assumption | decide | with_unfolding_all rfl | omega | (simp only [LN] <;> omega) | (simp only [RO, OF])) only [RR, ↓reduceIte, Nat.reduceEqDiff, Nat.reduceLT, Nat.reduceLeDiff, Nat.reduceAdd, Nat.reduceSub, Nat.reduceMul, Nat.reduceMod, Nat.reduceDiv, Nat.reduceBEq, LN, NN, NT]; done) | rfl
        · have h7' := decide_eq_false h7
          conv => arg 1; simp (maxSteps := 1000000) (disch := first | assumption | decide | with_unfolding_all rfl | omega | (simp only [LN] <;> omega) | (simp only [RO, OF])) only [RR, RM, LN, TT, d42_at, ↓reduceIte, Nat.reduceEqDiff, Nat.reduceLT, Nat.reduceLeDiff, Nat.reduceAdd, Nat.reduceSub, Nat.reduceMul, Nat.reduceMod, Nat.reduceDiv, Nat.reduceBEq, RH, e_h1, h2', h3'', h3', h7']
          refine J.ite (fun h11 => ?_) (fun h11 => ?_)
          · have h11' := decide_eq_true h11
            refine J.at fun x33 h12 h13 h14 => ?_
            conv => arg 1; simp (maxSteps := 1000000) (disch := first | assumption | decide | with_unfolding_all rfl | omega | (simp only [LN] <;> omega) | (simp only [RO, OF])) only [RR, RM, LN, TT, d42_at, ↓reduceIte, Nat.reduceEqDiff, Nat.reduceLT, Nat.reduceLeDiff, Nat.reduceAdd, Nat.reduceSub, Nat.reduceMul, Nat.reduceMod, Nat.reduceDiv, Nat.reduceBEq, RH, e_h1, h2', h3'', h3', h7', h11', lm_ik h14]
            refine J.jmp (t := wk .u64 x33) hj1 ?_ ?_
            · first | rfl | (simp only [LN, NN, NT])
            · first | (simp (disch := first | assumption | decide | with_unfolding_all rfl | omega | (simp only [LN] <;> omega) | (simp only [RO, OF])) only [RR, ↓reduceIte, Nat.reduceEqDiff, Nat.reduceLT, Nat.reduceLeDiff, Nat.reduceAdd, Nat.reduceSub, Nat.reduceMul, Nat.reduceMod, Nat.reduceDiv, Nat.reduceBEq, LN, NN, NT]; done) | rfl
          · have h11' := decide_eq_false h11
            refine J.at fun x34 h15 h16 h17 => ?_
            conv => arg 1; simp (maxSteps := 1000000) (disch := first | assumption | decide | with_unfolding_all rfl | omega | (simp only [LN] <;> omega) | (simp only [RO, OF])) only [RR, RM, LN, TT, d42_at, ↓reduceIte, Nat.reduceEqDiff, Nat.reduceLT, Nat.reduceLeDiff, Nat.reduceAdd, Nat.reduceSub, Nat.reduceMul, Nat.reduceMod, Nat.reduceDiv, Nat.reduceBEq, RH, e_h1, h2', h3'', h3', h7', h11', lm_bk h17]
            refine J.ite (fun h18 => ?_) (fun h18 => ?_)
            · have h18' : x34 = true := h18
              conv => arg 1; simp (maxSteps := 1000000) (disch := first | assumption | decide | with_unfolding_all rfl | omega | (simp only [LN] <;> omega) | (simp only [RO, OF])) only [RR, RM, LN, TT, d42_at, ↓reduceIte, Nat.reduceEqDiff, Nat.reduceLT, Nat.reduceLeDiff, Nat.reduceAdd, Nat.reduceSub, Nat.reduceMul, Nat.reduceMod, Nat.reduceDiv, Nat.reduceBEq, RH, e_h1, h2', h3'', h3', h7', h11', lm_bk h17, h18']
              refine J.jmp (t := 1) hj1 ?_ ?_
              · first | rfl | (simp only [LN, NN, NT])
              · first | (simp (disch := first | assumption | decide | with_unfolding_all rfl | omega | (simp only [LN] <;> omega) | (simp only [RO, OF])) only [RR, ↓reduceIte, Nat.reduceEqDiff, Nat.reduceLT, Nat.reduceLeDiff, Nat.reduceAdd, Nat.reduceSub, Nat.reduceMul, Nat.reduceMod, Nat.reduceDiv, Nat.reduceBEq, LN, NN, NT]; done) | rfl
            · have h18' : x34 = false := Bool.eq_false_iff.2 h18
              conv => arg 1; simp (maxSteps := 1000000) (disch := first | assumption | decide | with_unfolding_all rfl | omega | (simp only [LN] <;> omega) | (simp only [RO, OF])) only [RR, RM, LN, TT, d42_at, ↓reduceIte, Nat.reduceEqDiff, Nat.reduceLT, Nat.reduceLeDiff, Nat.reduceAdd, Nat.reduceSub, Nat.reduceMul, Nat.reduceMod, Nat.reduceDiv, Nat.reduceBEq, RH, e_h1, h2', h3'', h3', h7', h11', lm_bk h17, h18']
              refine J.jmp (t := 0) hj1 ?_ ?_
              · first | rfl | (simp only [LN, NN, NT])
              · first | (simp (disch := first | assumption | decide | with_unfolding_all rfl | omega | (simp only [LN] <;> omega) | (simp only [RO, OF])) only [RR, ↓reduceIte, Nat.reduceEqDiff, Nat.reduceLT, Nat.reduceLeDiff, Nat.reduceAdd, Nat.reduceSub, Nat.reduceMul, Nat.reduceMod, Nat.reduceDiv, Nat.reduceBEq, LN, NN, NT]; done) | rfl
    · have h3' := decide_eq_false h3
      have h3'' : decide ((wk .i64 ((wk .i64 ((x1.fF.length : Int) + (x1.fI.length : Int))) + (x1.fB.length : Int))) ≤ x14) = true := decide_eq_true (by omega)
      conv => arg 1; simp (maxSteps := 1000000) (disch := first | assumption | decide | with_unfolding_all rfl | omega | (simp only [LN] <;> omega) | (simp only [RO, OF])) only [RR, RM, LN, TT, d42_at, ↓reduceIte, Nat.reduceEqDiff, Nat.reduceLT, Nat.reduceLeDiff, Nat.reduceAdd, Nat.reduceSub, Nat.reduceMul, Nat.reduceMod, Nat.reduceDiv, Nat.reduceBEq, RH, e_h1, h2', h3'', h3']
      refine J.eq ret_seq ?_
      refine J.some ?_
      simp (disch := first | assumption | decide | with_unfolding_all rfl | omega | (simp only [LN] <;> omega) | (simp only [RO, OF])) only [RR, RM, LN, TT, d42_at, ↓reduceIte, Nat.reduceEqDiff, Nat.reduceLT, Nat.reduceLeDiff, Nat.reduceAdd, Nat.reduceSub, Nat.reduceMul, Nat.reduceMod, Nat.reduceDiv, Nat.reduceBEq, RH, e_h1, h2', h3'', h3', FF, LN, NN, NT]
  · have h2' := decide_eq_false h2
    refine J.some ?_
    simp (disch := first | assumption | decide | with_unfolding_all rfl | omega | (simp only [LN] <;> omega) | (simp only [RO, OF])) only [RR, RM, LN, TT, d42_at, ↓reduceIte, Nat.reduceEqDiff, Nat.reduceLT, Nat.reduceLeDiff, Nat.reduceAdd, Nat.reduceSub, Nat.reduceMul, Nat.reduceMod, Nat.reduceDiv, Nat.reduceBEq, RH, e_h1, h2', FF, LN, NN, NT]
noncomputable def t42 (fu : Nat) : CallP := orE 49 (mkC (fun (t : T_Tensor) => ([.agg (c_T_Tensor t)] : List AV)) (fun t => ref05_Check fu t) e49) (orE 35 (mkC (fun (t : Int) => ([.v (.int .i64 t)] : List AV)) (fun t => ref05_Width fu t) e35) (noP))
theorem t42_ok (fu : Nat) : CpOK Try.prog (t42 fu ) := orE_ok (orE_ok (noP_ok) (mkC_ok (fun t b h => ok35 fu t  b h))) (mkC_ok (fun t b h => ok49 fu t  b h))
theorem ok42 (fu : Nat) (x1 : T_Tensor) (r) (h : ref05_Bytes fu x1 = some r) : PureOK Try.prog 42 [.agg (c_T_Tensor x1)] (e42 r) :=
  pure_J mixed (cp := t42 fu ) (t42_ok fu  ) noI_ok i42 (w42 _ fu x1  (fun a0 r h => orE_hit (mkC_at (a := a0) (by intro a b h; first | (exact rfl) | (simp only [INJ, c_inj_iff c_T_Tensor_inj, lm_inj_iff (inj_avf (inj_fm c_T_Tensor_len (by decide) c_T_Tensor_inj)), fm_inj_iff (inj_fm c_T_Tensor_len (by decide) c_T_Tensor_inj)] at h; first | exact h | (simp_all [Prod.ext_iff]) )) h)) (fun a0 r h => orE_miss (by decide) (orE_hit (mkC_at (a := a0) (by intro a b h; first | (exact rfl) | (simp only [INJ, c_inj_iff c_T_Tensor_inj, lm_inj_iff (inj_avf (inj_fm c_T_Tensor_len (by decide) c_T_Tensor_inj)), fm_inj_iff (inj_fm c_T_Tensor_len (by decide) c_T_Tensor_inj)] at h; first | exact h | (simp_all [Prod.ext_iff]) )) h)))) h
/-! 44: lattice/latticeref05.FromBytes -/
def d44 : List (Nat × List Nat) := [(0, [7]), (0, [0, 2, 10, 12, 13]), (0, [16, 17, 18, 19, 20, 21]), (0, []), (0, [22]), (0, [15]), (0, [24, 25]), (0, []), (0, [1, 9, 11, 26, 27, 28, 29, 30]), (0, [14, 63]), (0, [31, 32]), (0, []), (0, [33, 34, 35, 36, 37]), (0, []), (0, [39]), (0, []), (0, []), (0, []), (0, [40, 41]), (0, []), (0, [43, 44]), (0, []), (0, []), (0, []), (0, [45, 46]), (0, []), (0, [47]), (0, []), (0, [49, 50]), (0, []), (0, [51, 52, 53, 54, 55, 56, 57, 58, 59, 60, 61, 62]), (0, []), (0, []), (0, []), (0, [64]), (0, []), (0, [66]), (0, []), (0, [67, 68, 69, 70, 71, 72]), (0, []), (0, [74]), (0, []), (0, [75, 76, 77, 78, 79, 80]), (0, []), (0, [82]), (0, []), (0, [83, 84, 85, 86, 87, 88]), (0, []), (0, [8, 89])]
def d44_at := And.intro (show d44.getD 0 (0, []) = (0, [7]) from rfl) <| And.intro (show d44.getD 1 (0, []) = (0, [0, 2, 10, 12, 13]) from rfl) <| And.intro (show d44.getD 2 (0, []) = (0, [16, 17, 18, 19, 20, 21]) from rfl) <| And.intro (show d44.getD 3 (0, []) = (0, []) from rfl) <| And.intro (show d44.getD 4 (0, []) = (0, [22]) from rfl) <| And.intro (show d44.getD 5 (0, []) = (0, [15]) from rfl) <| And.intro (show d44.getD 6 (0, []) = (0, [24, 25]) from rfl) <| And.intro (show d44.getD 7 (0, []) = (0, []) from rfl) <| And.intro (show d44.getD 8 (0, []) = (0, [1, 9, 11, 26, 27, 28, 29, 30]) from rfl) <| And.intro (show d44.getD 9 (0, []) = (0, [14, 63]) from rfl) <| And.intro (show d44.getD 10 (0, []) = (0, [31, 32]) from rfl) <| And.intro (show d44.getD 11 (0, []) = (0, []) from rfl) <| And.intro (show d44.getD 12 (0, []) = (0, [33, 34, 35, 36, 37]) from rfl) <| And.intro (show d44.getD 13 (0, []) = (0, []) from rfl) <| And.intro (show d44.getD 14 (0, []) = (0, [39]) from rfl) <| And.intro (show d44.getD 15 (0, []) = (0, []) from rfl) <| And.intro (show d44.getD 16 (0, []) = (0, []) from rfl) <| And.intro (show d44.getD 17 (0, []) = (0, []) from rfl) <| And.intro (show d44.getD 18 (0, []) = (0, [40, 41]) from rfl) <| And.intro (show d44.getD 19 (0, []) = (0, []) from rfl) <| And.intro (show d44.getD 20 (0, []) = (0, [43, 44]) from rfl) <| And.intro (show d44.getD 21 (0, []) = (0, []) from rfl) <| And.intro (show d44.getD 22 (0, []) = (0, []) from rfl) <| And.intro (show d44.getD 23 (0, []) = (0, []) from rfl) <| And.intro (show d44.getD 24 (0, []) = (0, [45, 46]) from rfl) <| And.intro (show d44.getD 25 (0, []) = (0, []) from rfl) <| And.intro (show d44.getD 26 (0, []) = (0, [47]) from rfl) <| And.intro (show d44.getD 27 (0, []) = (0, []) from rfl) <| And.intro (show d44.getD 28 (0, []) = (0, [49, 50]) from rfl) <| And.intro (show d44.getD 29 (0, []) = (0, []) from rfl) <| And.intro (show d44.getD 30 (0, []) = (0, [51, 52, 53, 54, 55, 56, 57, 58, 59, 60, 61, 62]) from rfl) <| And.intro (show d44.getD 31 (0, []) = (0, []) from rfl) <| And.intro (show d44.getD 32 (0, []) = (0, []) from rfl) <| And.intro (show d44.getD 33 (0, []) = (0, []) from rfl) <| And.intro (show d44.getD 34 (0, []) = (0, [64]) from rfl) <| And.intro (show d44.getD 35 (0, []) = (0, []) from rfl) <| And.intro (show d44.getD 36 (0, []) = (0, [66]) from rfl) <| And.intro (show d44.getD 37 (0, []) = (0, []) from rfl) <| And.intro (show d44.getD 38 (0, []) = (0, [67, 68, 69, 70, 71, 72]) from rfl) <| And.intro (show d44.getD 39 (0, []) = (0, []) from rfl) <| And.intro (show d44.getD 40 (0, []) = (0, [74]) from rfl) <| And.intro (show d44.getD 41 (0, []) = (0, []) from rfl) <| And.intro (show d44.getD 42 (0, []) = (0, [75, 76, 77, 78, 79, 80]) from rfl) <| And.intro (show d44.getD 43 (0, []) = (0, []) from rfl) <| And.intro (show d44.getD 44 (0, []) = (0, [82]) from rfl) <| And.intro (show d44.getD 45 (0, []) = (0, []) from rfl) <| And.intro (show d44.getD 46 (0, []) = (0, [83, 84, 85, 86, 87, 88]) from rfl) <| And.intro (show d44.getD 47 (0, []) = (0, []) from rfl) <| (show d44.getD 48 (0, []) = (0, [8, 89]) from rfl)
theorem i44 : finfo Try.prog 44 d44 = some ⟨bodyOf Try.f44, [.cell 6 42, .tmp 7], [42, 25]⟩ := finfo_at Try.func44 rfl (by kernel_rfl) (by kernel_rfl)
def e44 : (T_Tensor × Int) → AV := fun r => .tuple [.agg [.v (.int .i64 r.1.fType), .fresh 1 r.1.fDims.length (lm (ik .i64) r.1.fDims), .fresh 1 r.1.fF.length (lm (ik .u32) r.1.fF), .fresh 1 r.1.fI.length (lm (ik .i64) r.1.fI), .fresh 1 r.1.fB.length (lm (bk) r.1.fB)], .v (.int .i64 r.2)]
set_option maxHeartbeats 1000000 in
theorem w44 (cp : CallP) (fu : Nat) (x1 : Int) (x2 : List Int) (x3 : List Int) (H31_0 : ∀ (a0 : Int) (a1 : List Int) r, ref05_New fu a0 a1 = some r → cp 31 [.v (.int .i64 a0), .arr a1.length (lm (ik .i64) a1)] = some (.tuple [.agg [.v (.int .i64 r.1.fType), .fresh 1 r.1.fDims.length (lm (ik .i64) r.1.fDims), .fresh 1 r.1.fF.length (lm (ik .u32) r.1.fF), .fresh 1 r.1.fI.length (lm (ik .i64) r.1.fI), .fresh 1 r.1.fB.length (lm (bk) r.1.fB)], .v (.int .i64 r.2)])) (H16_0 : ∀ (a0 : List Int) r, ref04_Size fu a0 = some r → cp 16 [.arr a0.length (lm (ik .i64) a0)] = some (.tuple [.v (.int .i64 r.1), .v (.int .i64 r.2)])) (H35_0 : ∀ (a0 : Int) r, ref05_Width fu a0 = some r → cp 35 [.v (.int .i64 a0)] = some (.v (.int .i64 r))) : J (go Try.prog noC cp noI 0 [] d44 fu (fin Try.prog [.cell 6 42, .tmp 7] [42, 25]) (bodyOf Try.f44) (initE 0 [.v (.int .i64 x1), .arr x2.length (lm (ik .i64) x2), .arr x3.length (lm (ik .u8) x3)]) [] []) (ref05_FromBytes fu x1 x2 x3) e44 := by
  unfold ref05_FromBytes e44
  refine J.bind fun x4 h1 => ?_
  have e_h1 := H31_0 _ _ _ h1
  try simp only [NN, NT, LN] at e_h1
  conv => arg 1; simp (maxSteps := 1000000) (disch := first | assumption | decide | with_unfolding_all rfl | omega | (simp only [LN] <;> omega) | (simp only [RO, OF])) only [bodyOf, Try.f44, RR, RM, LN, TT, d44_at, ↓reduceIte, Nat.reduceEqDiff, Nat.reduceLT, Nat.reduceLeDiff, Nat.reduceAdd, Nat.reduceSub, Nat.reduceMul, Nat.reduceMod, Nat.reduceDiv, Nat.reduceBEq, RH, e_h1]
  refine J.eq go_seq ?_
  conv => arg 1; simp (maxSteps := 1000000) (disch := first | assumption | decide | with_unfolding_all rfl | omega | (simp only [LN] <;> omega) | (simp only [RO, OF])) only [RR, RM, LN, TT, d44_at, ↓reduceIte, Nat.reduceEqDiff, Nat.reduceLT, Nat.reduceLeDiff, Nat.reduceAdd, Nat.reduceSub, Nat.reduceMul, Nat.reduceMod, Nat.reduceDiv, Nat.reduceBEq, RH, e_h1]
  refine J.ite (fun h2 => ?_) (fun h2 => ?_)
  · have h2' := decide_eq_true h2
    conv => arg 1; simp (maxSteps := 1000000) (disch := first | assumption | decide | with_unfolding_all rfl | omega | (simp only [LN] <;> omega) | (simp only [RO, OF])) only [RR, RM, LN, TT, d44_at, ↓reduceIte, Nat.reduceEqDiff, Nat.reduceLT, Nat.reduceLeDiff, Nat.reduceAdd, Nat.reduceSub, Nat.reduceMul, Nat.reduceMod, Nat.reduceDiv, Nat.reduceBEq, RH, e_h1, h2']
    refine J.eq ret_seq ?_
    refine J.bind fun x5 h3 => ?_
    have e_h3 := H16_0 _ _ h3
    try simp only [NN, NT, LN] at e_h3
    refine J.bind fun x6 h4 => ?_
    have e_h4 := H35_0 _ _ h4
    try simp only [NN, NT, LN] at e_h4
    conv => arg 1; simp (maxSteps := 1000000) (disch := first | assumption | decide | with_unfolding_all rfl | omega | (simp only [LN] <;> omega) | (simp only [RO, OF])) only [RR, RM, LN, TT, d44_at, ↓reduceIte, Nat.reduceEqDiff, Nat.reduceLT, Nat.reduceLeDiff, Nat.reduceAdd, Nat.reduceSub, Nat.reduceMul, Nat.reduceMod, Nat.reduceDiv, Nat.reduceBEq, RH, e_h1, h2', e_h3, e_h4]
    refine J.eq go_seq ?_
    conv => arg 1; simp (maxSteps := 1000000) (disch := first | assumption | decide | with_unfolding_all rfl | omega | (simp only [LN] <;> omega) | (simp only [RO, OF])) only [RR, RM, LN, TT, d44_at, ↓reduceIte, Nat.reduceEqDiff, Nat.reduceLT, Nat.reduceLeDiff, Nat.reduceAdd, Nat.reduceSub, Nat.reduceMul, Nat.reduceMod, Nat.reduceDiv, Nat.reduceBEq, RH, e_h1, h2', e_h3, e_h4]
    refine J.ite (fun h5 => ?_) (fun h5 => ?_)
    · have h5' := decide_eq_true h5
      conv => arg 1; simp (maxSteps := 1000000) (disch := first | assumption | decide | with_unfolding_all rfl | omega | (simp only [LN] <;> omega) | (simp only [RO, OF])) only [RR, RM, LN, TT, d44_at, ↓reduceIte, Nat.reduceEqDiff, Nat.reduceLT, Nat.reduceLeDiff, Nat.reduceAdd, Nat.reduceSub, Nat.reduceMul, Nat.reduceMod, Nat.reduceDiv, Nat.reduceBEq, RH, e_h1, h2', e_h3, e_h4, h5']
      refine J.eq ret_seq ?_
      refine J.eq go_seq ?_
      conv => arg 1; simp (maxSteps := 1000000) (disch := first | assumption | decide | with_unfolding_all rfl | omega | (simp only [LN] <;> omega) | (simp only [RO, OF])) only [RR, RM, LN, TT, d44_at, ↓reduceIte, Nat.reduceEqDiff, Nat.reduceLT, Nat.reduceLeDiff, Nat.reduceAdd, Nat.reduceSub, Nat.reduceMul, Nat.reduceMod, Nat.reduceDiv, Nat.reduceBEq, RH, e_h1, h2', e_h3, e_h4, h5']
      unfold ref05_FromBytes_W1
      refine J.loop (fun (s : (List Int) × (List Int) × (List Bool) × Int) => ([(0, .v (.int .i64 x1)), (2, .arr x3.length (lm (ik .u8) x3)), (6, .ptr (0, 6, 0) 0 0), (8, .ptr (0, 8, 0) 0 0), (10, .v (.int .i64 x5.1)), (12, .v (.int .i64 x6)), (13, .v (.int .i64 s.2.2.2))], [((0, 6, 0), .bx true ([.v (.int .i64 0), .v (.slice none 0 0), .v (.slice none 0 0), .v (.slice none 0 0), .v (.slice none 0 0)])), ((0, 19, 0), .sl true true 1 x4.1.fDims.length (lm (ik .i64) x4.1.fDims)), ((0, 19, 1), .sl true true 1 s.1.length (lm (ik .u32) s.1)), ((0, 19, 2), .sl true true 1 s.2.1.length (lm (ik .i64) s.2.1)), ((0, 19, 3), .sl true true 1 s.2.2.1.length (lm (bk) s.2.2.1)), ((0, 8, 0), .bx true ([.v (.int .i64 x4.1.fType), .own (0, 19, 0) 0 x4.1.fDims.length x4.1.fDims.length, .own (0, 19, 1) 0 s.1.length s.1.length, .own (0, 19, 2) 0 s.2.1.length s.2.1.length, .own (0, 19, 3) 0 s.2.2.1.length s.2.2.1.length]))])) (fun next s => ref05_FromBytes_L1 fu x1 x3 x4 x5 x6 (fun x13 x14 x15 x16 => next (x13, x14, x15, x16)) s.1 s.2.1 s.2.2.1 s.2.2.2) (s0 := (x4.1.fF, x4.1.fI, x4.1.fB, 0)) ?_ ?_ ?_
      · first | rfl | (simp only [LN, NN, NT])
      · first | (simp (disch := first | assumption | decide | with_unfolding_all rfl | omega | (simp only [LN] <;> omega) | (simp only [RO, OF])) only [RR, ↓reduceIte, Nat.reduceEqDiff, Nat.reduceLT, Nat.reduceLeDiff, Nat.reduceAdd, Nat.reduceSub, Nat.reduceMul, Nat.reduceMod, Nat.reduceDiv, Nat.reduceBEq, LN, NN, NT]; done) | rfl
      rintro next k1 hn1 ⟨x13, x14, x15, x16⟩
      let nx1 : (List Int) → (List Int) → (List Bool) → Int → Option (T_Tensor × Int) := (fun x13 x14 x15 x16 => next (x13, x14, x15, x16))
      show J _ (ref05_FromBytes_L1 fu x1 x3 x4 x5 x6 nx1 x13 x14 x15 x16) _
      unfold ref05_FromBytes_L1
      refine J.eq go_seq ?_
      conv => arg 1; simp (maxSteps := 1000000) (disch := first | assumption | decide | with_unfolding_all rfl | omega | (simp only [LN] <;> omega) | (simp only [RO, OF])) only [RR, RM, LN, TT, d44_at, ↓reduceIte, Nat.reduceEqDiff, Nat.reduceLT, Nat.reduceLeDiff, Nat.reduceAdd, Nat.reduceSub, Nat.reduceMul, Nat.reduceMod, Nat.reduceDiv, Nat.reduceBEq, RH, e_h1, h2', e_h3, e_h4, h5']
      refine J.ite (fun h6 => ?_) (fun h6 => ?_)
      · have h6' := decide_eq_true h6
        have h6'' : decide (x5.1 ≤ x16) = false := decide_eq_false (by omega)
        conv => arg 1; simp (maxSteps := 1000000) (disch := first | assumption | decide | with_unfolding_all rfl | omega | (simp only [LN] <;> omega) | (simp only [RO, OF])) only [RR, RM, LN, TT, d44_at, ↓reduceIte, Nat.reduceEqDiff, Nat.reduceLT, Nat.reduceLeDiff, Nat.reduceAdd, Nat.reduceSub, Nat.reduceMul, Nat.reduceMod, Nat.reduceDiv, Nat.reduceBEq, RH, e_h1, h2', e_h3, e_h4, h5', h6'', h6']
        refine J.eq ret_seq ?_
        refine J.eq go_seq ?_
        conv => arg 1; simp (maxSteps := 1000000) (disch := first | assumption | decide | with_unfolding_all rfl | omega | (simp only [LN] <;> omega) | (simp only [RO, OF])) only [RR, RM, LN, TT, d44_at, ↓reduceIte, Nat.reduceEqDiff, Nat.reduceLT, Nat.reduceLeDiff, Nat.reduceAdd, Nat.reduceSub, Nat.reduceMul, Nat.reduceMod, Nat.reduceDiv, Nat.reduceBEq, RH, e_h1, h2', e_h3, e_h4, h5', h6'', h6']
        refine J.joinS (fun (t : Int) => ([(0, .v (.int .i64 x1)), (2, .arr x3.length (lm (ik .u8) x3)), (6, .ptr (0, 6, 0) 0 0), (8, .ptr (0, 8, 0) 0 0), (10, .v (.int .i64 x5.1)), (12, .v (.int .i64 x6)), (13, .v (.int .i64 x16)), (14, .v (.int .u64 t))], [((0, 6, 0), .bx true ([.v (.int .i64 0), .v (.slice none 0 0), .v (.slice none 0 0), .v (.slice none 0 0), .v (.slice none 0 0)])), ((0, 19, 0), .sl true true 1 x4.1.fDims.length (lm (ik .i64) x4.1.fDims)), ((0, 19, 1), .sl true true 1 x13.length (lm (ik .u32) x13)), ((0, 19, 2), .sl true true 1 x14.length (lm (ik .i64) x14)), ((0, 19, 3), .sl true true 1 x15.length (lm (bk) x15)), ((0, 8, 0), .bx true ([.v (.int .i64 x4.1.fType), .own (0, 19, 0) 0 x4.1.fDims.length x4.1.fDims.length, .own (0, 19, 1) 0 x13.length x13.length, .own (0, 19, 2) 0 x14.length x14.length, .own (0, 19, 3) 0 x15.length x15.length]))])) (fun t => ref05_FromBytes_k1 fu nx1 x1 x13 x14 x15 x16 t) ?_ (fun hj1 => ?_)
        · rintro x23
          show J _ (ref05_FromBytes_k1 fu nx1 x1 x13 x14 x15 x16 x23) _
          unfold ref05_FromBytes_k1
          conv => arg 1; simp (maxSteps := 1000000) (disch := first | assumption | decide | with_unfolding_all rfl | omega | (simp only [LN] <;> omega) | (simp only [RO, OF])) only [RR, RM, LN, TT, d44_at, ↓reduceIte, Nat.reduceEqDiff, Nat.reduceLT, Nat.reduceLeDiff, Nat.reduceAdd, Nat.reduceSub, Nat.reduceMul, Nat.reduceMod, Nat.reduceDiv, Nat.reduceBEq, RH, e_h1, h2', e_h3, e_h4, h5', h6'', h6']
          refine J.ite (fun h7 => ?_) (fun h7 => ?_)
          · have h7' := decide_eq_true h7
            refine J.chk fun h8 => ?_
            conv => arg 1; simp (maxSteps := 1000000) (disch := first | assumption | decide | with_unfolding_all rfl | omega | (simp only [LN] <;> omega) | (simp only [RO, OF])) only [RR, RM, LN, TT, d44_at, ↓reduceIte, Nat.reduceEqDiff, Nat.reduceLT, Nat.reduceLeDiff, Nat.reduceAdd, Nat.reduceSub, Nat.reduceMul, Nat.reduceMod, Nat.reduceDiv, Nat.reduceBEq, RH, e_h1, h2', e_h3, e_h4, h5', h6'', h6', h7']
            refine J.eq ret_seq ?_
            conv => arg 1; simp (maxSteps := 1000000) (disch := first | assumption | decide | with_unfolding_all rfl | omega | (simp only [LN] <;> omega) | (simp only [RO, OF])) only [RR, RM, LN, TT, d44_at, ↓reduceIte, Nat.reduceEqDiff, Nat.reduceLT, Nat.reduceLeDiff, Nat.reduceAdd, Nat.reduceSub, Nat.reduceMul, Nat.reduceMod, Nat.reduceDiv, Nat.reduceBEq, RH, e_h1, h2', e_h3, e_h4, h5', h6'', h6', h7']
            refine J.next (s := (x13.set x16.toNat (wk .u32 x23), x14, x15, wk .i64 (x16 + 1))) hn1 ?_ ?_
            · first | rfl | (simp only [LN, NN, NT])
            · first | (simp (disch := first | assumption | decide | with_unfolding_all rfl | omega | (simp only [LN] <;> omega) | (simp only [RO, OF])) only [RR, ↓reduceIte, Nat.reduceEqDiff, Nat.reduceLT, Nat.reduceLeDiff, Nat.reduceAdd, Nat.reduceSub, Nat.reduceMul, Nat.reduceMod, Nat.reduceDiv, Nat.reduceBEq, LN, NN, NT]; done) | rfl
          · have h7' := decide_eq_false h7
            conv => arg 1; simp (maxSteps := 1000000) (disch := first | assumption | decide | with_unfolding_all rfl | omega | (simp only [LN] <;> omega) | (simp only [RO, OF])) only [RR, RM, LN, TT, d44_at, ↓reduceIte, Nat.reduceEqDiff, Nat.reduceLT, Nat.reduceLeDiff, Nat.reduceAdd, Nat.reduceSub, Nat.reduceMul, Nat.reduceMod, Nat.reduceDiv, Nat.reduceBEq, RH, e_h1, h2', e_h3, e_h4, h5', h6'', h6', h7']
            refine J.ite (fun h9 => ?_) (fun h9 => ?_)
            · have h9' := decide_eq_true h9
              refine J.chk fun h10 => ?_
              conv => arg 1; simp (maxSteps := 1000000) (disch := first | assumption | decide | with_unfolding_all rfl | omega | (simp only [LN] <;> omega) | (simp only [RO, OF])) only [RR, RM, LN, TT, d44_at, ↓reduceIte, Nat.reduceEqDiff, Nat.reduceLT, Nat.reduceLeDiff, Nat.reduceAdd, Nat.reduceSub, Nat.reduceMul, Nat.reduceMod, Nat.reduceDiv, Nat.reduceBEq, RH, e_h1, h2', e_h3, e_h4, h5', h6'', h6', h7', h9']
              refine J.eq ret_seq ?_
              conv => arg 1; simp (maxSteps := 1000000) (disch := first | assumption | decide | with_unfolding_all rfl | omega | (simp only [LN] <;> omega) | (simp only [RO, OF])) only [RR, RM, LN, TT, d44_at, ↓reduceIte, Nat.reduceEqDiff, Nat.reduceLT, Nat.reduceLeDiff, Nat.reduceAdd, Nat.reduceSub, Nat.reduceMul, Nat.reduceMod, Nat.reduceDiv, Nat.reduceBEq, RH, e_h1, h2', e_h3, e_h4, h5', h6'', h6', h7', h9']
              refine J.next (s := (x13, x14.set x16.toNat (wk .i64 x23), x15, wk .i64 (x16 + 1))) hn1 ?_ ?_
              · first | rfl | (simp only [LN, NN, NT])
              · first | (simp (disch := first | assumption | decide | with_unfolding_all rfl | omega | (simp only [LN] <;> omega) | (simp only [RO, OF])) only [RR, ↓reduceIte, Nat.reduceEqDiff, Nat.reduceLT, Nat.reduceLeDiff, Nat.reduceAdd, Nat.reduceSub, Nat.reduceMul, Nat.reduceMod, Nat.reduceDiv, Nat.reduceBEq, LN, NN, NT]; done) | rfl
            · have h9' := decide_eq_false h9
              conv => arg 1; simp (maxSteps := 1000000) (disch := first | assumption | decide | with_unfolding_all rfl | omega | (simp only [LN] <;> omega) | (simp only [RO, OF])) only [RR, RM, LN, TT, d44_at, ↓reduceIte, Nat.reduceEqDiff, Nat.reduceLT, Nat.reduceLeDiff, Nat.reduceAdd, Nat.reduceSub, Nat.reduceMul, Nat.reduceMod, Nat.reduceDiv, Nat.reduceBEq, RH, e_h1, h2', e_h3, e_h4, h5', h6'', h6', h7', h9']
              refine J.eq go_seq ?_
              conv => arg 1; simp (maxSteps := 1000000) (disch := first | assumption | decide | with_unfolding_all rfl | omega | (simp only [LN] <;> omega) | (simp only [RO, OF])) only [RR, RM, LN, TT, d44_at, ↓reduceIte, Nat.reduceEqDiff, Nat.reduceLT, Nat.reduceLeDiff, Nat.reduceAdd, Nat.reduceSub, Nat.reduceMul, Nat.reduceMod, Nat.reduceDiv, Nat.reduceBEq, RH, e_h1, h2', e_h3, e_h4, h5', h6'', h6', h7', h9']
              refine J.ite (fun h11 => ?_) (fun h11 => ?_)
              · have h11' := decide_eq_true h11
                have h11'' : decide (x23 ≤ 1) = false := decide_eq_false (by omega)
                refine J.some ?_
                simp (disch := first | assumption | decide | with_unfolding_all rfl | omega | (simp only [LN] <;> omega) | (simp only [RO, OF])) only [RR, RM, LN, TT, d44_at, ↓reduceIte, Nat.reduceEqDiff, Nat.reduceLT, Nat.reduceLeDiff, Nat.reduceAdd, Nat.reduceSub, Nat.reduceMul, Nat.reduceMod, Nat.reduceDiv, Nat.reduceBEq, RH, e_h1, h2', e_h3, e_h4, h5', h6'', h6', h7', h9', h11'', h11', FF, LN, NN, NT]
              · have h11' := decide_eq_false h11
                have h11'' : decide (x23 ≤ 1) = true := decide_eq_true (by omega)
                conv => arg 1; simp (maxSteps := 1000000) (disch := first | assumption | decide | with_unfolding_all rfl | omega | (simp only [LN] <;> omega) | (simp only [RO, OF])) only [RR, RM, LN, TT, d44_at, ↓reduceIte, Nat.reduceEqDiff, Nat.reduceLT, Nat.reduceLeDiff, Nat.reduceAdd, Nat.reduceSub, Nat.reduceMul, Nat.reduceMod, Nat.reduceDiv, Nat.reduceBEq, RH, e_h1, h2', e_h3, e_h4, h5', h6'', h6', h7', h9', h11'', h11']
                refine J.eq ret_seq ?_
                refine J.chk fun h12 => ?_
                conv => arg 1; simp (maxSteps := 1000000) (disch := first | assumption | decide | with_unfolding_all rfl | omega | (simp only [LN] <;> omega) | (simp only [RO, OF])) only [RR, RM, LN, TT, d44_at, ↓reduceIte, Nat.reduceEqDiff, Nat.reduceLT, Nat.reduceLeDiff, Nat.reduceAdd, Nat.reduceSub, Nat.reduceMul, Nat.reduceMod, Nat.reduceDiv, Nat.reduceBEq, RH, e_h1, h2', e_h3, e_h4, h5', h6'', h6', h7', h9', h11'', h11']
                refine J.eq ret_seq ?_
                conv => arg 1; simp (maxSteps := 1000000) (disch := first | assumption | decide | with_unfolding_all rfl | omega | (simp only [LN] <;> omega) | (simp only [RO, OF])) only [RR, RM, LN, TT, d44_at, ↓reduceIte, Nat.reduceEqDiff, Nat.reduceLT, Nat.reduceLeDiff, Nat.reduceAdd, Nat.reduceSub, Nat.reduceMul, Nat.reduceMod, Nat.reduceDiv, Nat.reduceBEq, RH, e_h1, h2', e_h3, e_h4, h5', h6'', h6', h7', h9', h11'', h11']
                refine J.next (s := (x13, x14, x15.set x16.toNat (decide (x23 = 1)), wk .i64 (x16 + 1))) hn1 ?_ ?_
                · first | rfl | (simp only [LN, NN, NT])
                · first | (simp (disch := first | assumption | decide | with_unfolding_all rfl | omega | (simp only [LN] <;> omega) | (simp only [RO, OF])) only [RR, ↓reduceIte, Nat.reduceEqDiff, Nat.reduceLT, Nat.reduceLeDiff, Nat.reduceAdd, Nat.reduceSub, Nat.reduceMul, Nat.reduceMod, Nat.reduceDiv, Nat.reduceBEq, LN, NN, NT]; done) | rfl
        · conv => arg 1; simp (maxSteps := 1000000) (disch := first | assumption | decide | with_unfolding_all rfl | omega | (simp only [LN] <;> omega) | (simp only [RO, OF])) only [RR, RM, LN, TT, d44_at, ↓reduceIte, Nat.reduceEqDiff, Nat.reduceLT, Nat.reduceLeDiff, Nat.reduceAdd, Nat.reduceSub, Nat.reduceMul, Nat.reduceMod, Nat.reduceDiv, Nat.reduceBEq, RH, e_h1, h2', e_h3, e_h4, h5', h6'', h6']
          unfold ref05_FromBytes_W2
          refine J.loop (fun (s : Int × Int) => ([(0, .v (.int .i64 x1)), (2, .arr x3.length (lm (ik .u8) x3)), (6, .ptr (0, 6, 0) 0 0), (8, .ptr (0, 8, 0) 0 0), (10, .v (.int .i64 x5.1)), (12, .v (.int .i64 x6)), (13, .v (.int .i64 x16)), (14, .v (.int .u64 s.1)), (15, .v (.int .i64 s.2))], [((0, 6, 0), .bx true ([.v (.int .i64 0), .v (.slice none 0 0), .v (.slice none 0 0), .v (.slice none 0 0), .v (.slice none 0 0)])), ((0, 19, 0), .sl true true 1 x4.1.fDims.length (lm (ik .i64) x4.1.fDims)), ((0, 19, 1), .sl true true 1 x13.length (lm (ik .u32) x13)), ((0, 19, 2), .sl true true 1 x14.length (lm (ik .i64) x14)), ((0, 19, 3), .sl true true 1 x15.length (lm (bk) x15)), ((0, 8, 0), .bx true ([.v (.int .i64 x4.1.fType), .own (0, 19, 0) 0 x4.1.fDims.length x4.1.fDims.length, .own (0, 19, 1) 0 x13.length x13.length, .own (0, 19, 2) 0 x14.length x14.length, .own (0, 19, 3) 0 x15.length x15.length]))])) (fun next s => ref05_FromBytes_L2 fu nx1 x1 x3 x6 x13 x14 x15 x16 (fun x25 x26 => next (x25, x26)) s.1 s.2) (s0 := (0, wk .i64 (x6 - 1))) ?_ ?_ ?_
          · first | rfl | (simp only [LN, NN, NT])
          · first | (simp (disch := first | assumption | decide | with_unfolding_all rfl | omega | (simp only [LN] <;> omega) | (simp only [RO, OF])) only [RR, ↓reduceIte, Nat.reduceEqDiff, Nat.reduceLT, Nat.reduceLeDiff, Nat.reduceAdd, Nat.reduceSub, Nat.reduceMul, Nat.reduceMod, Nat.reduceDiv, Nat.reduceBEq, LN, NN, NT]; done) | rfl
          rintro next k2 hn2 ⟨x25, x26⟩
          let nx2 : Int → Int → Option (T_Tensor × Int) := (fun x25 x26 => next (x25, x26))
          show J _ (ref05_FromBytes_L2 fu nx1 x1 x3 x6 x13 x14 x15 x16 nx2 x25 x26) _
          unfold ref05_FromBytes_L2
          refine J.eq go_seq ?_
          conv => arg 1; simp (maxSteps := 1000000) (disch := first | assumption | decide | with_unfolding_all rfl | omega | (simp only [LN] <;> omega) | (simp only [RO, OF])) only [RR, RM, LN, TT, d44_at, ↓reduceIte, Nat.reduceEqDiff, Nat.reduceLT, Nat.reduceLeDiff, Nat.reduceAdd, Nat.reduceSub, Nat.reduceMul, Nat.reduceMod, Nat.reduceDiv, Nat.reduceBEq, RH, e_h1, h2', e_h3, e_h4, h5', h6'', h6']
          refine J.ite (fun h13 => ?_) (fun h13 => ?_)
          · have h13' := decide_eq_true h13
            have h13'' : decide (x26 < 0) = false := decide_eq_false (by omega)
            conv => arg 1; simp (maxSteps := 1000000) (disch := first | assumption | decide | with_unfolding_all rfl | omega | (simp only [LN] <;> omega) | (simp only [RO, OF])) only [RR, RM, LN, TT, d44_at, ↓reduceIte, Nat.reduceEqDiff, Nat.reduceLT, Nat.reduceLeDiff, Nat.reduceAdd, Nat.reduceSub, Nat.reduceMul, Nat.reduceMod, Nat.reduceDiv, Nat.reduceBEq, RH, e_h1, h2', e_h3, e_h4, h5', h6'', h6', h13'', h13']
            refine J.eq ret_seq ?_
            refine J.eq go_seq ?_
            refine J.at fun x28 h14 h15 h16 => ?_
            conv => arg 1; simp (maxSteps := 1000000) (disch := first | assumption | decide | with_unfolding_all rfl | omega | (simp only [LN] <;> omega) | (simp only [RO, OF])) only [RR, RM, LN, TT, d44_at, ↓reduceIte, Nat.reduceEqDiff, Nat.reduceLT, Nat.reduceLeDiff, Nat.reduceAdd, Nat.reduceSub, Nat.reduceMul, Nat.reduceMod, Nat.reduceDiv, Nat.reduceBEq, RH, e_h1, h2', e_h3, e_h4, h5', h6'', h6', h13'', h13', lm_ik h16]
            refine J.eq ret_seq ?_
            conv => arg 1; simp (maxSteps := 1000000) (disch := first | assumption | decide | with_unfolding_all rfl | omega | (simp only [LN] <;> omega) | (simp only [RO, OF])) only [RR, RM, LN, TT, d44_at, ↓reduceIte, Nat.reduceEqDiff, Nat.reduceLT, Nat.reduceLeDiff, Nat.reduceAdd, Nat.reduceSub, Nat.reduceMul, Nat.reduceMod, Nat.reduceDiv, Nat.reduceBEq, RH, e_h1, h2', e_h3, e_h4, h5', h6'', h6', h13'', h13', lm_ik h16]
            refine J.next (s := (wk .u64 ((wk .u64 (x25 * 256)) + (wk .u64 x28)), wk .i64 (x26 - 1))) hn2 ?_ ?_
            · first | rfl | (simp only [LN, NN, NT])
            · first | (simp (disch := first | assumption | decide | with_unfolding_all rfl | omega | (simp only [LN] <;> omega) | (simp only [RO, OF])) only [RR, ↓reduceIte, Nat.reduceEqDiff, Nat.reduceLT, Nat.reduceLeDiff, Nat.reduceAdd, Nat.reduceSub, Nat.reduceMul, Nat.reduceMod, Nat.reduceDiv, Nat.reduceBEq, LN, NN, NT]; done) | rfl
          · have h13' := decide_eq_false h13
            have h13'' : decide (x26 < 0) = true := decide_eq_true (by omega)
            conv => arg 1; simp (maxSteps := 1000000) (disch := first | assumption | decide | with_unfolding_all rfl | omega | (simp only [LN] <;> omega) | (simp only [RO, OF])) only [RR, RM, LN, TT, d44_at, ↓reduceIte, Nat.reduceEqDiff, Nat.reduceLT, Nat.reduceLeDiff, Nat.reduceAdd, Nat.reduceSub, Nat.reduceMul, Nat.reduceMod, Nat.reduceDiv, Nat.reduceBEq, RH, e_h1, h2', e_h3, e_h4, h5', h6'', h6', h13'', h13']
            refine J.jmp (t := x25) hj1 ?_ ?_
            · first | rfl | (simp only [LN, NN, NT])
            · first | (simp (disch := first | assumption | decide | with_unfolding_all rfl | omega | (simp only [LN] <;> omega) | (simp only [RO, OF])) only [RR, ↓reduceIte, Nat.reduceEqDiff, Nat.reduceLT, Nat.reduceLeDiff, Nat.reduceAdd, Nat.reduceSub, Nat.reduceMul, Nat.reduceMod, Nat.reduceDiv, Nat.reduceBEq, LN, NN, NT]; done) | rfl
      · have h6' := decide_eq_false h6
        have h6'' : decide (x5.1 ≤ x16) = true := decide_eq_true (by omega)
        conv => arg 1; simp (maxSteps := 1000000) (disch := first | assumption | decide | with_unfolding_all rfl | omega | (simp only [LN] <;> omega) | (simp only [RO, OF])) only [RR, RM, LN, TT, d44_at, ↓reduceIte, Nat.reduceEqDiff, Nat.reduceLT, Nat.reduceLeDiff, Nat.reduceAdd, Nat.reduceSub, Nat.reduceMul, Nat.reduceMod, Nat.reduceDiv, Nat.reduceBEq, RH, e_h1, h2', e_h3, e_h4, h5', h6'', h6']
        refine J.eq ret_seq ?_
        refine J.some ?_
        simp (disch := first | assumption | decide | with_unfolding_all rfl | omega | (simp only [LN] <;> omega) | (simp only [RO, OF])) only [RR, RM, LN, TT, d44_at, ↓reduceIte, Nat.reduceEqDiff, Nat.reduceLT, Nat.reduceLeDiff, Nat.reduceAdd, Nat.reduceSub, Nat.reduceMul, Nat.reduceMod, Nat.reduceDiv, Nat.reduceBEq, RH, e_h1, h2', e_h3, e_h4, h5', h6'', h6', FF, LN, NN, NT]
    · have h5' := decide_eq_false h5
      refine J.some ?_
      simp (disch := first | assumption | decide | with_unfolding_all rfl | omega | (simp only [LN] <;> omega) | (simp only [RO, OF])) only [RR, RM, LN, TT, d44_at, ↓reduceIte, Nat.reduceEqDiff, Nat.reduceLT, Nat.reduceLeDiff, Nat.reduceAdd, Nat.reduceSub, Nat.reduceMul, Nat.reduceMod, Nat.reduceDiv, Nat.reduceBEq, RH, e_h1, h2', e_h3, e_h4, h5', FF, LN, NN, NT]
  · have h2' := decide_eq_false h2
    refine J.some ?_
    simp (disch := first | assumption | decide | with_unfolding_all rfl | omega | (simp only [LN] <;> omega) | (simp only [RO, OF])) only [RR, RM, LN, TT, d44_at, ↓reduceIte, Nat.reduceEqDiff, Nat.reduceLT, Nat.reduceLeDiff, Nat.reduceAdd, Nat.reduceSub, Nat.reduceMul, Nat.reduceMod, Nat.reduceDiv, Nat.reduceBEq, RH, e_h1, h2', FF, LN, NN, NT]
noncomputable def t44 (fu : Nat) : CallP := orE 31 (mkC (fun (t : Int × (List Int)) => ([.v (.int .i64 t.1), .arr t.2.length (lm (ik .i64) t.2)] : List AV)) (fun t => ref05_New fu t.1 t.2) e31) (orE 16 (mkC (fun (t : List Int) => ([.arr t.length (lm (ik .i64) t)] : List AV)) (fun t => ref04_Size fu t) e16) (orE 35 (mkC (fun (t : Int) => ([.v (.int .i64 t)] : List AV)) (fun t => ref05_Width fu t) e35) (noP)))
theorem t44_ok (fu : Nat) : CpOK Try.prog (t44 fu ) := orE_ok (orE_ok (orE_ok (noP_ok) (mkC_ok (fun t b h => ok35 fu t  b h))) (mkC_ok (fun t b h => ok16 fu t  b h))) (mkC_ok (fun t b h => ok31 fu t.1 t.2  b h))
theorem ok44 (fu : Nat) (x1 : Int) (x2 : List Int) (x3 : List Int) (r) (h : ref05_FromBytes fu x1 x2 x3 = some r) : PureOK Try.prog 44 [.v (.int .i64 x1), .arr x2.length (lm (ik .i64) x2), .arr x3.length (lm (ik .u8) x3)] (e44 r) :=
  pure_J mixed (cp := t44 fu ) (t44_ok fu  ) noI_ok i44 (w44 _ fu x1 x2 x3  (fun a0 a1 r h => orE_hit (mkC_at (a := (a0, a1)) (by intro a b h; first | (exact rfl) | (simp only [INJ, c_inj_iff c_T_Tensor_inj, lm_inj_iff (inj_avf (inj_fm c_T_Tensor_len (by decide) c_T_Tensor_inj)), fm_inj_iff (inj_fm c_T_Tensor_len (by decide) c_T_Tensor_inj)] at h; first | exact h | (simp_all [Prod.ext_iff]) )) h)) (fun a0 r h => orE_miss (by decide) (orE_hit (mkC_at (a := a0) (by intro a b h; first | (exact rfl) | (simp only [INJ, c_inj_iff c_T_Tensor_inj, lm_inj_iff (inj_avf (inj_fm c_T_Tensor_len (by decide) c_T_Tensor_inj)), fm_inj_iff (inj_fm c_T_Tensor_len (by decide) c_T_Tensor_inj)] at h; first | exact h | (simp_all [Prod.ext_iff]) )) h))) (fun a0 r h => orE_miss (by decide) (orE_miss (by decide) (orE_hit (mkC_at (a := a0) (by intro a b h; first | (exact rfl) | (simp only [INJ, c_inj_iff c_T_Tensor_inj, lm_inj_iff (inj_avf (inj_fm c_T_Tensor_len (by decide) c_T_Tensor_inj)), fm_inj_iff (inj_fm c_T_Tensor_len (by decide) c_T_Tensor_inj)] at h; first | exact h | (simp_all [Prod.ext_iff]) )) h))))) h
/-! 9: lattice/latticelaw05.TensBytes -/
def d9 : List (Nat × List Nat) := [(0, [0, 8]), (0, [10, 12, 18]), (0, [19]), (0, []), (0, [20, 21, 22, 23, 24]), (0, []), (0, [4, 25, 26, 27, 28, 29]), (0, []), (0, [30, 31, 32, 33, 34, 35, 36]), (0, []), (0, [1, 2, 3, 37, 38, 39, 40, 41, 42, 43]), (0, []), (0, [9, 11, 13, 14, 15, 16, 17, 44, 45, 46, 47, 48, 49, 50, 51, 52, 53, 54, 55, 56, 57, 58, 59, 60, 61, 62, 63, 64, 65, 66, 67]), (0, []), (0, []), (0, []), (0, []), (0, []), (0, [69, 70, 71]), (0, []), (0, [73, 74]), (0, []), (9, [75, 76, 77, 78, 79, 80, 81, 82]), (0, []), (0, []), (0, []), (0, [])]
def d9_at := And.intro (show d9.getD 0 (0, []) = (0, [0, 8]) from rfl) <| And.intro (show d9.getD 1 (0, []) = (0, [10, 12, 18]) from rfl) <| And.intro (show d9.getD 2 (0, []) = (0, [19]) from rfl) <| And.intro (show d9.getD 3 (0, []) = (0, []) from rfl) <| And.intro (show d9.getD 4 (0, []) = (0, [20, 21, 22, 23, 24]) from rfl) <| And.intro (show d9.getD 5 (0, []) = (0, []) from rfl) <| And.intro (show d9.getD 6 (0, []) = (0, [4, 25, 26, 27, 28, 29]) from rfl) <| And.intro (show d9.getD 7 (0, []) = (0, []) from rfl) <| And.intro (show d9.getD 8 (0, []) = (0, [30, 31, 32, 33, 34, 35, 36]) from rfl) <| And.intro (show d9.getD 9 (0, []) = (0, []) from rfl) <| And.intro (show d9.getD 10 (0, []) = (0, [1, 2, 3, 37, 38, 39, 40, 41, 42, 43]) from rfl) <| And.intro (show d9.getD 11 (0, []) = (0, []) from rfl) <| And.intro (show d9.getD 12 (0, []) = (0, [9, 11, 13, 14, 15, 16, 17, 44, 45, 46, 47, 48, 49, 50, 51, 52, 53, 54, 55, 56, 57, 58, 59, 60, 61, 62, 63, 64, 65, 66, 67]) from rfl) <| And.intro (show d9.getD 13 (0, []) = (0, []) from rfl) <| And.intro (show d9.getD 14 (0, []) = (0, []) from rfl) <| And.intro (show d9.getD 15 (0, []) = (0, []) from rfl) <| And.intro (show d9.getD 16 (0, []) = (0, []) from rfl) <| And.intro (show d9.getD 17 (0, []) = (0, []) from rfl) <| And.intro (show d9.getD 18 (0, []) = (0, [69, 70, 71]) from rfl) <| And.intro (show d9.getD 19 (0, []) = (0, []) from rfl) <| And.intro (show d9.getD 20 (0, []) = (0, [73, 74]) from rfl) <| And.intro (show d9.getD 21 (0, []) = (0, []) from rfl) <| And.intro (show d9.getD 22 (0, []) = (9, [75, 76, 77, 78, 79, 80, 81, 82]) from rfl) <| And.intro (show d9.getD 23 (0, []) = (0, []) from rfl) <| And.intro (show d9.getD 24 (0, []) = (0, []) from rfl) <| And.intro (show d9.getD 25 (0, []) = (0, []) from rfl) <| (show d9.getD 26 (0, []) = (0, []) from rfl)
theorem i9 : finfo Try.prog 9 d9 = some ⟨bodyOf Try.f9, [.tmp 8], [4]⟩ := finfo_at Try.func9 rfl (by kernel_rfl) (by kernel_rfl)
def e9 : Bool → AV := fun r => .v (.bool r)
set_option maxHeartbeats 1000000 in
theorem w9 (cp : CallP) (fu : Nat) (x1 : T_Tensor) (x2 : Int) (x3 : List Int) (x4 : List Int) (H29 : cp 29 [] = some (.v (.bool true))) (H41_0 : ∀ (a0 : T_Tensor) r, tens_Bytes fu a0 = some r → cp 41 [.agg (c_T_Tensor a0)] = some (.tuple [.fresh 1 r.1.length (lm (ik .u8) r.1), .v (.int .i64 r.2)])) (H42_0 : ∀ (a0 : T_Tensor) r, ref05_Bytes fu a0 = some r → cp 42 [.agg (c_T_Tensor a0)] = some (.tuple [.fresh 1 r.1.length (lm (ik .u8) r.1), .v (.int .i64 r.2)])) (H43_0 : ∀ (a0 : Int) (a1 : List Int) (a2 : List Int) r, tens_FromBytes fu a0 a1 a2 = some r → cp 43 [.v (.int .i64 a0), .arr a1.length (lm (ik .i64) a1), .arr a2.length (lm (ik .u8) a2)] = some (.tuple [.agg [.v (.int .i64 r.1.fType), .fresh 1 r.1.fDims.length (lm (ik .i64) r.1.fDims), .fresh 1 r.1.fF.length (lm (ik .u32) r.1.fF), .fresh 1 r.1.fI.length (lm (ik .i64) r.1.fI), .fresh 1 r.1.fB.length (lm (bk) r.1.fB)], .v (.int .i64 r.2)])) (H44_0 : ∀ (a0 : Int) (a1 : List Int) (a2 : List Int) r, ref05_FromBytes fu a0 a1 a2 = some r → cp 44 [.v (.int .i64 a0), .arr a1.length (lm (ik .i64) a1), .arr a2.length (lm (ik .u8) a2)] = some (.tuple [.agg [.v (.int .i64 r.1.fType), .fresh 1 r.1.fDims.length (lm (ik .i64) r.1.fDims), .fresh 1 r.1.fF.length (lm (ik .u32) r.1.fF), .fresh 1 r.1.fI.length (lm (ik .i64) r.1.fI), .fresh 1 r.1.fB.length (lm (bk) r.1.fB)], .v (.int .i64 r.2)])) (H32_0 : ∀ (a0 : T_Tensor) (a1 : T_Tensor) r, ref05_Same fu a0 a1 = some r → cp 32 [.agg (c_T_Tensor a0), .agg (c_T_Tensor a1)] = some (.v (.bool r))) : J (go Try.prog noC cp noI 0 [] d9 fu (fin Try.prog [.tmp 8] [4]) (bodyOf Try.f9) (initE 0 [.agg (c_T_Tensor x1), .v (.int .i64 x2), .arr x3.length (lm (ik .i64) x3), .arr x4.length (lm (ik .u8) x4)]) [] []) (law05_TensBytes fu x1 x2 x3 x4) e9 := by
  unfold law05_TensBytes e9
  refine J.bind fun x5 h1 => ?_
  have e_h1 := H41_0 _ _ h1
  try simp only [NN, NT, LN] at e_h1
  refine J.bind fun x6 h2 => ?_
  have e_h2 := H42_0 _ _ h2
  try simp only [NN, NT, LN] at e_h2
  refine J.bind fun x7 h3 => ?_
  have e_h3 := H43_0 _ _ _ _ h3
  try simp only [NN, NT, LN] at e_h3
  refine J.bind fun x8 h4 => ?_
  have e_h4 := H44_0 _ _ _ _ h4
  try simp only [NN, NT, LN] at e_h4
  conv => arg 1; simp (maxSteps := 1000000) (disch := first | assumption | decide | with_unfolding_all rfl | omega | (simp only [LN] <;> omega) | (simp only [RO, OF])) only [bodyOf, Try.f9, RR, RM, LN, TT, d9_at, ↓reduceIte, Nat.reduceEqDiff, Nat.reduceLT, Nat.reduceLeDiff, Nat.reduceAdd, Nat.reduceSub, Nat.reduceMul, Nat.reduceMod, Nat.reduceDiv, Nat.reduceBEq, RH, H29, e_h1, e_h2, e_h3, e_h4]
  refine J.joinS (fun (t : Unit) => ([(10, .own (0, 22, 0) 0 x5.1.length x5.1.length), (12, .own (0, 27, 0) 0 x6.1.length x6.1.length)], [((0, 22, 0), .sl true true 1 x5.1.length (lm (ik .u8) x5.1)), ((0, 27, 0), .sl true true 1 x6.1.length (lm (ik .u8) x6.1))])) (fun t => law05_TensBytes_k1 fu x5 x6) ?_ (fun hj1 => ?_)
  · rintro ⟨⟩
    show J _ (law05_TensBytes_k1 fu x5 x6) _
    unfold law05_TensBytes_k1
    refine J.eq go_seq ?_
    conv => arg 1; simp (maxSteps := 1000000) (disch := first | assumption | decide | with_unfolding_all rfl | omega | (simp only [LN] <;> omega) | (simp only [RO, OF])) only [RR, RM, LN, TT, d9_at, ↓reduceIte, Nat.reduceEqDiff, Nat.reduceLT, Nat.reduceLeDiff, Nat.reduceAdd, Nat.reduceSub, Nat.reduceMul, Nat.reduceMod, Nat.reduceDiv, Nat.reduceBEq, RH, H29, e_h1, e_h2, e_h3, e_h4]
    unfold law05_TensBytes_W1
    refine J.loop (fun (s : Int) => ([(10, .own (0, 22, 0) 0 x5.1.length x5.1.length), (12, .own (0, 27, 0) 0 x6.1.length x6.1.length), (18, .v (.int .i64 s))], [((0, 22, 0), .sl true true 1 x5.1.length (lm (ik .u8) x5.1)), ((0, 27, 0), .sl true true 1 x6.1.length (lm (ik .u8) x6.1))])) (fun next s => law05_TensBytes_L1 fu x5 x6 next s) (s0 := 0) ?_ ?_ ?_
    · first | rfl | (simp only [LN, NN, NT])
    · first | (simp (disch := first | assumption | decide | with_unfolding_all rfl | omega | (simp only [LN] <;> omega) | (simp only [RO, OF])) only [RR, ↓reduceIte, Nat.reduceEqDiff, Nat.reduceLT, Nat.reduceLeDiff, Nat.reduceAdd, Nat.reduceSub, Nat.reduceMul, Nat.reduceMod, Nat.reduceDiv, Nat.reduceBEq, LN, NN, NT]; done) | rfl
    rintro nx1 k1 hn1 x11
    show J _ (law05_TensBytes_L1 fu x5 x6 nx1 x11) _
    unfold law05_TensBytes_L1
    refine J.eq go_seq ?_
    conv => arg 1; simp (maxSteps := 1000000) (disch := first | assumption | decide | with_unfolding_all rfl | omega | (simp only [LN] <;> omega) | (simp only [RO, OF])) only [RR, RM, LN, TT, d9_at, ↓reduceIte, Nat.reduceEqDiff, Nat.reduceLT, Nat.reduceLeDiff, Nat.reduceAdd, Nat.reduceSub, Nat.reduceMul, Nat.reduceMod, Nat.reduceDiv, Nat.reduceBEq, RH, H29, e_h1, e_h2, e_h3, e_h4]
    refine J.ite (fun h5 => ?_) (fun h5 => ?_)
    · have h5' := decide_eq_true h5
      have h5'' : decide (((x5.1.length : Nat) : Int) ≤ x11) = false := decide_eq_false (by omega)
      conv => arg 1; simp (maxSteps := 1000000) (disch := first | assumption | decide | with_unfolding_all rfl | omega | (simp only [LN] <;> omega) | (simp only [RO, OF])) only [RR, RM, LN, TT, d9_at, ↓reduceIte, Nat.reduceEqDiff, Nat.reduceLT, Nat.reduceLeDiff, Nat.reduceAdd, Nat.reduceSub, Nat.reduceMul, Nat.reduceMod, Nat.reduceDiv, Nat.reduceBEq, RH, H29, e_h1, e_h2, e_h3, e_h4, h5'', h5']
      refine J.eq ret_seq ?_
      refine J.eq go_seq ?_
      refine J.at fun x14 h6 h7 h8 => ?_
      refine J.at fun x15 h9 h10 h11 => ?_
      conv => arg 1; simp (maxSteps := 1000000) (disch := first | assumption | decide | with_unfolding_all rfl | omega | (simp only [LN] <;> omega) | (simp only [RO, OF])) only [RR, RM, LN, TT, d9_at, ↓reduceIte, Nat.reduceEqDiff, Nat.reduceLT, Nat.reduceLeDiff, Nat.reduceAdd, Nat.reduceSub, Nat.reduceMul, Nat.reduceMod, Nat.reduceDiv, Nat.reduceBEq, RH, H29, e_h1, e_h2, e_h3, e_h4, h5'', h5', lm_ik h8, lm_ik h11]
      refine J.ite (fun h12 => ?_) (fun h12 => ?_)
      · have h12' := decide_eq_true h12
        conv => arg 1; simp (maxSteps := 1000000) (disch := first | assumption | decide | with_unfolding_all rfl | omega | (simp only [LN] <;> omega) | (simp only [RO, OF])) only [RR, RM, LN, TT, d9_at, ↓reduceIte, Nat.reduceEqDiff, Nat.reduceLT, Nat.reduceLeDiff, Nat.reduceAdd, Nat.reduceSub, Nat.reduceMul, Nat.reduceMod, Nat.reduceDiv, Nat.reduceBEq, RH, H29, e_h1, e_h2, e_h3, e_h4, h5'', h5', lm_ik h8, lm_ik h11, h12']
        refine J.eq ret_seq ?_
        conv => arg 1; simp (maxSteps := 1000000) (disch := first | assumption | decide | with_unfolding_all rfl | omega | (simp only [LN] <;> omega) | (simp only [RO, OF])) only [RR, RM, LN, TT, d9_at, ↓reduceIte, Nat.reduceEqDiff, Nat.reduceLT, Nat.reduceLeDiff, Nat.reduceAdd, Nat.reduceSub, Nat.reduceMul, Nat.reduceMod, Nat.reduceDiv, Nat.reduceBEq, RH, H29, e_h1, e_h2, e_h3, e_h4, h5'', h5', lm_ik h8, lm_ik h11, h12']
        refine J.next (s := wk .i64 (x11 + 1)) hn1 ?_ ?_
        · first | rfl | (simp only [LN, NN, NT])
        · first | (simp (disch := first | assumption | decide | with_unfolding_all rfl | omega | (simp only [LN] <;> omega) | (simp only [RO, OF])) only [RR, ↓reduceIte, Nat.reduceEqDiff, Nat.reduceLT, Nat.reduceLeDiff, Nat.reduceAdd, Nat.reduceSub, Nat.reduceMul, Nat.reduceMod, Nat.reduceDiv, Nat.reduceBEq, LN, NN, NT]; done) | rfl
      · have h12' := decide_eq_false h12
        refine J.some ?_
        simp (disch := first | assumption | decide | with_unfolding_all rfl | omega | (simp only [LN] <;> omega) | (simp only [RO, OF])) only [RR, RM, LN, TT, d9_at, ↓reduceIte, Nat.reduceEqDiff, Nat.reduceLT, Nat.reduceLeDiff, Nat.reduceAdd, Nat.reduceSub, Nat.reduceMul, Nat.reduceMod, Nat.reduceDiv, Nat.reduceBEq, RH, H29, e_h1, e_h2, e_h3, e_h4, h5'', h5', lm_ik h8, lm_ik h11, h12', FF, LN, NN, NT]
    · have h5' := decide_eq_false h5
      have h5'' : decide (((x5.1.length : Nat) : Int) ≤ x11) = true := decide_eq_true (by omega)
      conv => arg 1; simp (maxSteps := 1000000) (disch := first | assumption | decide | with_unfolding_all rfl | omega | (simp only [LN] <;> omega) | (simp only [RO, OF])) only [RR, RM, LN, TT, d9_at, ↓reduceIte, Nat.reduceEqDiff, Nat.reduceLT, Nat.reduceLeDiff, Nat.reduceAdd, Nat.reduceSub, Nat.reduceMul, Nat.reduceMod, Nat.reduceDiv, Nat.reduceBEq, RH, H29, e_h1, e_h2, e_h3, e_h4, h5'', h5']
      refine J.eq ret_seq ?_
      refine J.some ?_
      simp (disch := first | assumption | decide | with_unfolding_all rfl | omega | (simp only [LN] <;> omega) | (simp only [RO, OF])) only [RR, RM, LN, TT, d9_at, ↓reduceIte, Nat.reduceEqDiff, Nat.reduceLT, Nat.reduceLeDiff, Nat.reduceAdd, Nat.reduceSub, Nat.reduceMul, Nat.reduceMod, Nat.reduceDiv, Nat.reduceBEq, RH, H29, e_h1, e_h2, e_h3, e_h4, h5'', h5', FF, LN, NN, NT]
  · refine J.eq go_seq ?_
    conv => arg 1; simp (maxSteps := 1000000) (disch := first | assumption | decide | with_unfolding_all rfl | omega | (simp only [LN] <;> omega) | (simp only [RO, OF])) only [RR, RM, LN, TT, d9_at, ↓reduceIte, Nat.reduceEqDiff, Nat.reduceLT, Nat.reduceLeDiff, Nat.reduceAdd, Nat.reduceSub, Nat.reduceMul, Nat.reduceMod, Nat.reduceDiv, Nat.reduceBEq, RH, H29, e_h1, e_h2, e_h3, e_h4]
    refine J.ite (fun h13 => ?_) (fun h13 => ?_)
    · have h13' := decide_eq_true h13
      conv => arg 1; simp (maxSteps := 1000000) (disch := first | assumption | decide | with_unfolding_all rfl | omega | (simp only [LN] <;> omega) | (simp only [RO, OF])) only [RR, RM, LN, TT, d9_at, ↓reduceIte, Nat.reduceEqDiff, Nat.reduceLT, Nat.reduceLeDiff, Nat.reduceAdd, Nat.reduceSub, Nat.reduceMul, Nat.reduceMod, Nat.reduceDiv, Nat.reduceBEq, RH, H29, e_h1, e_h2, e_h3, e_h4, h13']
      refine J.ite (fun h14 => ?_) (fun h14 => ?_)
      · have h14' := decide_eq_true h14
        conv => arg 1; simp (maxSteps := 1000000) (disch := first | assumption | decide | with_unfolding_all rfl | omega | (simp only [LN] <;> omega) | (simp only [RO, OF])) only [RR, RM, LN, TT, d9_at, ↓reduceIte, Nat.reduceEqDiff, Nat.reduceLT, Nat.reduceLeDiff, Nat.reduceAdd, Nat.reduceSub, Nat.reduceMul, Nat.reduceMod, Nat.reduceDiv, Nat.reduceBEq, RH, H29, e_h1, e_h2, e_h3, e_h4, h13', h14']
        refine J.ite (fun h15 => ?_) (fun h15 => ?_)
        · have h15' := decide_eq_true h15
          refine J.bind fun x16 h16 => ?_
          have e_h16 := H32_0 _ _ _ h16
          try simp only [NN, NT, LN] at e_h16
          conv => arg 1; simp (maxSteps := 1000000) (disch := first | assumption | decide | with_unfolding_all rfl | omega | (simp only [LN] <;> omega) | (simp only [RO, OF])) only [RR, RM, LN, TT, d9_at, ↓reduceIte, Nat.reduceEqDiff, Nat.reduceLT, Nat.reduceLeDiff, Nat.reduceAdd, Nat.reduceSub, Nat.reduceMul, Nat.reduceMod, Nat.reduceDiv, Nat.reduceBEq, RH, H29, e_h1, e_h2, e_h3, e_h4, h13', h14', h15', e_h16]
          refine J.eq ret_seq ?_
          conv => arg 1; simp (maxSteps := 1000000) (disch := first | assumption | decide | with_unfolding_all rfl | omega | (simp only [LN] <;> omega) | (simp only [RO, OF])) only [RR, RM, LN, TT, d9_at, ↓reduceIte, Nat.reduceEqDiff, Nat.reduceLT, Nat.reduceLeDiff, Nat.reduceAdd, Nat.reduceSub, Nat.reduceMul, Nat.reduceMod, Nat.reduceDiv, Nat.reduceBEq, RH, H29, e_h1, e_h2, e_h3, e_h4, h13', h14', h15', e_h16]
          refine J.ite (fun h17 => ?_) (fun h17 => ?_)
          · have h17' : x16 = true := h17
            conv => arg 1; simp (maxSteps := 1000000) (disch := first | assumption | decide | with_unfolding_all rfl | omega | (simp only [LN] <;> omega) | (simp only [RO, OF])) only [RR, RM, LN, TT, d9_at, ↓reduceIte, Nat.reduceEqDiff, Nat.reduceLT, Nat.reduceLeDiff, Nat.reduceAdd, Nat.reduceSub, Nat.reduceMul, Nat.reduceMod, Nat.reduceDiv, Nat.reduceBEq, RH, H29, e_h1, e_h2, e_h3, e_h4, h13', h14', h15', e_h16, h17']
            refine J.jmp (t := ()) hj1 ?_ ?_
            · first | rfl | (simp only [LN, NN, NT])
            · first | (simp (disch := first | assumption | decide | with_unfolding_all rfl | omega | (simp only [LN] <;> omega) | (simp only [RO, OF])) only [RR, ↓reduceIte, Nat.reduceEqDiff, Nat.reduceLT, Nat.reduceLeDiff, Nat.reduceAdd, Nat.reduceSub, Nat.reduceMul, Nat.reduceMod, Nat.reduceDiv, Nat.reduceBEq, LN, NN, NT]; done) | rfl
          · have h17' : x16 = false := Bool.eq_false_iff.2 h17
            refine J.some ?_
            simp (disch := first | assumption | decide | with_unfolding_all rfl | omega | (simp only [LN] <;> omega) | (simp only [RO, OF])) only [RR, RM, LN, TT, d9_at, ↓reduceIte, Nat.reduceEqDiff, Nat.reduceLT, Nat.reduceLeDiff, Nat.reduceAdd, Nat.reduceSub, Nat.reduceMul, Nat.reduceMod, Nat.reduceDiv, Nat.reduceBEq, RH, H29, e_h1, e_h2, e_h3, e_h4, h13', h14', h15', e_h16, h17', FF, LN, NN, NT]
        · have h15' := decide_eq_false h15
          conv => arg 1; simp (maxSteps := 1000000) (disch := first | assumption | decide | with_unfolding_all rfl | omega | (simp only [LN] <;> omega) | (simp only [RO, OF])) only [RR, RM, LN, TT, d9_at, ↓reduceIte, Nat.reduceEqDiff, Nat.reduceLT, Nat.reduceLeDiff, Nat.reduceAdd, Nat.reduceSub, Nat.reduceMul, Nat.reduceMod, Nat.reduceDiv, Nat.reduceBEq, RH, H29, e_h1, e_h2, e_h3, e_h4, h13', h14', h15']
          refine J.eq ret_seq ?_
          refine J.some ?_
          simp (disch := first | assumption | decide | with_unfolding_all rfl | omega | (simp only [LN] <;> omega) | (simp only [RO, OF])) only [RR, RM, LN, TT, d9_at, ↓reduceIte, Nat.reduceEqDiff, Nat.reduceLT, Nat.reduceLeDiff, Nat.reduceAdd, Nat.reduceSub, Nat.reduceMul, Nat.reduceMod, Nat.reduceDiv, Nat.reduceBEq, RH, H29, e_h1, e_h2, e_h3, e_h4, h13', h14', h15', FF, LN, NN, NT]
      · have h14' := decide_eq_false h14
        conv => arg 1; simp (maxSteps := 1000000) (disch := first | assumption | decide | with_unfolding_all rfl | omega | (simp only [LN] <;> omega) | (simp only [RO, OF])) only [RR, RM, LN, TT, d9_at, ↓reduceIte, Nat.reduceEqDiff, Nat.reduceLT, Nat.reduceLeDiff, Nat.reduceAdd, Nat.reduceSub, Nat.reduceMul, Nat.reduceMod, Nat.reduceDiv, Nat.reduceBEq, RH, H29, e_h1, e_h2, e_h3, e_h4, h13', h14']
        refine J.eq ret_seq ?_
        refine J.some ?_
        simp (disch := first | assumption | decide | with_unfolding_all rfl | omega | (simp only [LN] <;> omega) | (simp only [RO, OF])) only [RR, RM, LN, TT, d9_at, ↓reduceIte, Nat.reduceEqDiff, Nat.reduceLT, Nat.reduceLeDiff, Nat.reduceAdd, Nat.reduceSub, Nat.reduceMul, Nat.reduceMod, Nat.reduceDiv, Nat.reduceBEq, RH, H29, e_h1, e_h2, e_h3, e_h4, h13', h14', FF, LN, NN, NT]
    · have h13' := decide_eq_false h13
      conv => arg 1; simp (maxSteps := 1000000) (disch := first | assumption | decide | with_unfolding_all rfl | omega | (simp only [LN] <;> omega) | (simp only [RO, OF])) only [RR, RM, LN, TT, d9_at, ↓reduceIte, Nat.reduceEqDiff, Nat.reduceLT, Nat.reduceLeDiff, Nat.reduceAdd, Nat.reduceSub, Nat.reduceMul, Nat.reduceMod, Nat.reduceDiv, Nat.reduceBEq, RH, H29, e_h1, e_h2, e_h3, e_h4, h13']
      refine J.eq ret_seq ?_
      refine J.some ?_
      simp (disch := first | assumption | decide | with_unfolding_all rfl | omega | (simp only [LN] <;> omega) | (simp only [RO, OF])) only [RR, RM, LN, TT, d9_at, ↓reduceIte, Nat.reduceEqDiff, Nat.reduceLT, Nat.reduceLeDiff, Nat.reduceAdd, Nat.reduceSub, Nat.reduceMul, Nat.reduceMod, Nat.reduceDiv, Nat.reduceBEq, RH, H29, e_h1, e_h2, e_h3, e_h4, h13', FF, LN, NN, NT]
noncomputable def t9 (fu : Nat) : CallP := orE 29 (mkC (fun (_ : Unit) => ([] : List AV)) (fun _ => some true) (fun b => .v (.bool b))) (orE 41 (mkC (fun (t : T_Tensor) => ([.agg (c_T_Tensor t)] : List AV)) (fun t => tens_Bytes fu t) e41) (orE 42 (mkC (fun (t : T_Tensor) => ([.agg (c_T_Tensor t)] : List AV)) (fun t => ref05_Bytes fu t) e42) (orE 43 (mkC (fun (t : Int × (List Int) × (List Int)) => ([.v (.int .i64 t.1), .arr t.2.1.length (lm (ik .i64) t.2.1), .arr t.2.2.length (lm (ik .u8) t.2.2)] : List AV)) (fun t => tens_FromBytes fu t.1 t.2.1 t.2.2) e43) (orE 44 (mkC (fun (t : Int × (List Int) × (List Int)) => ([.v (.int .i64 t.1), .arr t.2.1.length (lm (ik .i64) t.2.1), .arr t.2.2.length (lm (ik .u8) t.2.2)] : List AV)) (fun t => ref05_FromBytes fu t.1 t.2.1 t.2.2) e44) (orE 32 (mkC (fun (t : T_Tensor × T_Tensor) => ([.agg (c_T_Tensor t.1), .agg (c_T_Tensor t.2)] : List AV)) (fun t => ref05_Same fu t.1 t.2) e32) (noP))))))
theorem t9_ok (fu : Nat) : CpOK Try.prog (t9 fu ) := orE_ok (orE_ok (orE_ok (orE_ok (orE_ok (orE_ok (noP_ok) (mkC_ok (fun t b h => ok32 fu t.1 t.2  b h))) (mkC_ok (fun t b h => ok44 fu t.1 t.2.1 t.2.2  b h))) (mkC_ok (fun t b h => ok43 fu t.1 t.2.1 t.2.2  b h))) (mkC_ok (fun t b h => ok42 fu t  b h))) (mkC_ok (fun t b h => ok41 fu t  b h))) (mkC_ok (fun _ b h => by injection h with h; subst h; exact awake29))
theorem ok9 (fu : Nat) (x1 : T_Tensor) (x2 : Int) (x3 : List Int) (x4 : List Int) (r) (h : law05_TensBytes fu x1 x2 x3 x4 = some r) : PureOK Try.prog 9 [.agg (c_T_Tensor x1), .v (.int .i64 x2), .arr x3.length (lm (ik .i64) x3), .arr x4.length (lm (ik .u8) x4)] (e9 r) :=
  pure_J mixed (cp := t9 fu ) (t9_ok fu  ) noI_ok i9 (w9 _ fu x1 x2 x3 x4  (orE_hit (mkC_at (a := ()) (fun _ _ _ => rfl) rfl)) (fun a0 r h => orE_miss (by decide) (orE_hit (mkC_at (a := a0) (by intro a b h; first | (exact rfl) | (simp only [INJ, c_inj_iff c_T_Tensor_inj, lm_inj_iff (inj_avf (inj_fm c_T_Tensor_len (by decide) c_T_Tensor_inj)), fm_inj_iff (inj_fm c_T_Tensor_len (by decide) c_T_Tensor_inj)] at h; first | exact h | (simp_all [Prod.ext_iff]) )) h))) (fun a0 r h => orE_miss (by decide) (orE_miss (by decide) (orE_hit (mkC_at (a := a0) (by intro a b h; first | (exact rfl) | (simp only [INJ, c_inj_iff c_T_Tensor_inj, lm_inj_iff (inj_avf (inj_fm c_T_Tensor_len (by decide) c_T_Tensor_inj)), fm_inj_iff (inj_fm c_T_Tensor_len (by decide) c_T_Tensor_inj)] at h; first | exact h | (simp_all [Prod.ext_iff]) )) h)))) (fun a0 a1 a2 r h => orE_miss (by decide) (orE_miss (by decide) (orE_miss (by decide) (orE_hit (mkC_at (a := (a0, a1, a2)) (by intro a b h; first | (exact rfl) | (simp only [INJ, c_inj_iff c_T_Tensor_inj, lm_inj_iff (inj_avf (inj_fm c_T_Tensor_len (by decide) c_T_Tensor_inj)), fm_inj_iff (inj_fm c_T_Tensor_len (by decide) c_T_Tensor_inj)] at h; first | exact h | (simp_all [Prod.ext_iff]) )) h))))) (fun a0 a1 a2 r h => orE_miss (by decide) (orE_miss (by decide) (orE_miss (by decide) (orE_miss (by decide) (orE_hit (mkC_at (a := (a0, a1, a2)) (by intro a b h; first | (exact rfl) | (simp only [INJ, c_inj_iff c_T_Tensor_inj, lm_inj_iff (inj_avf (inj_fm c_T_Tensor_len (by decide) c_T_Tensor_inj)), fm_inj_iff (inj_fm c_T_Tensor_len (by decide) c_T_Tensor_inj)] at h; first | exact h | (simp_all [Prod.ext_iff]) )) h)))))) (fun a0 a1 r h => orE_miss (by decide) (orE_miss (by decide) (orE_miss (by decide) (orE_miss (by decide) (orE_miss (by decide) (orE_hit (mkC_at (a := (a0, a1)) (by intro a b h; first | (exact rfl) | (simp only [INJ, c_inj_iff c_T_Tensor_inj, lm_inj_iff (inj_avf (inj_fm c_T_Tensor_len (by decide) c_T_Tensor_inj)), fm_inj_iff (inj_fm c_T_Tensor_len (by decide) c_T_Tensor_inj)] at h; first | exact h | (simp_all [Prod.ext_iff]) )) h)))))))) h
end Go.Av
