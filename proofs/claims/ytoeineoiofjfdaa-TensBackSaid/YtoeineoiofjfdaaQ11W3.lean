/- The walks of the plain functions, part 3. Made by a program of mine. Conditions: none. -/
import Derived.Test.YtoeineoiofjfdaaQ11W2
set_option linter.unusedVariables false
set_option linter.unusedSimpArgs false
set_option linter.defProp false
set_option maxRecDepth 4000
open Go Go.Proofs
namespace Go.Av
/-! 77: slices.Equal[[]int64,int64] -/
def d77 : List (Nat × List Nat) := [(0, [4]), (0, [0, 1, 12, 13]), (0, [6, 7, 8, 9]), (0, []), (0, []), (0, []), (0, [11]), (0, []), (0, []), (0, []), (0, [15]), (0, []), (9, [5, 16, 17, 18, 19, 20, 21, 22, 23]), (0, []), (0, []), (0, []), (0, [25]), (0, []), (0, [])]
def d77_at := And.intro (show d77.getD 0 (0, []) = (0, [4]) from rfl) <| And.intro (show d77.getD 1 (0, []) = (0, [0, 1, 12, 13]) from rfl) <| And.intro (show d77.getD 2 (0, []) = (0, [6, 7, 8, 9]) from rfl) <| And.intro (show d77.getD 3 (0, []) = (0, []) from rfl) <| And.intro (show d77.getD 4 (0, []) = (0, []) from rfl) <| And.intro (show d77.getD 5 (0, []) = (0, []) from rfl) <| And.intro (show d77.getD 6 (0, []) = (0, [11]) from rfl) <| And.intro (show d77.getD 7 (0, []) = (0, []) from rfl) <| And.intro (show d77.getD 8 (0, []) = (0, []) from rfl) <| And.intro (show d77.getD 9 (0, []) = (0, []) from rfl) <| And.intro (show d77.getD 10 (0, []) = (0, [15]) from rfl) <| And.intro (show d77.getD 11 (0, []) = (0, []) from rfl) <| And.intro (show d77.getD 12 (0, []) = (9, [5, 16, 17, 18, 19, 20, 21, 22, 23]) from rfl) <| And.intro (show d77.getD 13 (0, []) = (0, []) from rfl) <| And.intro (show d77.getD 14 (0, []) = (0, []) from rfl) <| And.intro (show d77.getD 15 (0, []) = (0, []) from rfl) <| And.intro (show d77.getD 16 (0, []) = (0, [25]) from rfl) <| And.intro (show d77.getD 17 (0, []) = (0, []) from rfl) <| (show d77.getD 18 (0, []) = (0, []) from rfl)
theorem i77 : finfo Try.prog 77 d77 = some ⟨bodyOf Try.f77, [.tmp 4], [4]⟩ := finfo_at Try.func77 rfl (by kernel_rfl) (by kernel_rfl)
def e77 : Bool → AV := fun r => .v (.bool r)
set_option maxHeartbeats 1000000 in
theorem w77 (cp : CallP) (fu : Nat) (x1 : List Int) (x2 : List Int) : J (go Try.prog noC cp noI 0 [] d77 fu (fin Try.prog [.tmp 4] [4]) (bodyOf Try.f77) (initE 0 [.arr x1.length (lm (ik .i64) x1), .arr x2.length (lm (ik .i64) x2)]) [] []) (slices_Equal_int64 fu x1 x2) e77 := by
  unfold slices_Equal_int64 e77
  conv => arg 1; simp (maxSteps := 1000000) (disch := first | assumption | decide | with_unfolding_all rfl | omega | (simp only [LN] <;> omega) | (simp only [RO, OF])) only [bodyOf, Try.f77, RR, RM, LN, TT, d77_at, ↓reduceIte, Nat.reduceEqDiff, Nat.reduceLT, Nat.reduceLeDiff, Nat.reduceAdd, Nat.reduceSub, Nat.reduceMul, Nat.reduceMod, Nat.reduceDiv, Nat.reduceBEq, RH]
  refine J.eq go_seq ?_
  conv => arg 1; simp (maxSteps := 1000000) (disch := first | assumption | decide | with_unfolding_all rfl | omega | (simp only [LN] <;> omega) | (simp only [RO, OF])) only [RR, RM, LN, TT, d77_at, ↓reduceIte, Nat.reduceEqDiff, Nat.reduceLT, Nat.reduceLeDiff, Nat.reduceAdd, Nat.reduceSub, Nat.reduceMul, Nat.reduceMod, Nat.reduceDiv, Nat.reduceBEq, RH]
  refine J.ite (fun h1 => ?_) (fun h1 => ?_)
  · have h1' := decide_eq_true h1
    conv => arg 1; simp (maxSteps := 1000000) (disch := first | assumption | decide | with_unfolding_all rfl | omega | (simp only [LN] <;> omega) | (simp only [RO, OF])) only [RR, RM, LN, TT, d77_at, ↓reduceIte, Nat.reduceEqDiff, Nat.reduceLT, Nat.reduceLeDiff, Nat.reduceAdd, Nat.reduceSub, Nat.reduceMul, Nat.reduceMod, Nat.reduceDiv, Nat.reduceBEq, RH, h1']
    refine J.eq ret_seq ?_
    refine J.eq go_seq ?_
    conv => arg 1; simp (maxSteps := 1000000) (disch := first | assumption | decide | with_unfolding_all rfl | omega | (simp only [LN] <;> omega) | (simp only [RO, OF])) only [RR, RM, LN, TT, d77_at, ↓reduceIte, Nat.reduceEqDiff, Nat.reduceLT, Nat.reduceLeDiff, Nat.reduceAdd, Nat.reduceSub, Nat.reduceMul, Nat.reduceMod, Nat.reduceDiv, Nat.reduceBEq, RH, h1']
    unfold slices_Equal_int64_W1
    refine J.loop (fun (s : Int) => ([(0, .arr x1.length (lm (ik .i64) x1)), (1, .arr x2.length (lm (ik .i64) x2)), (12, .v (.int .i64 (x1.length : Int))), (13, .v (.int .i64 s))], [])) (fun next s => slices_Equal_int64_L1 fu x1 x2 next s) (s0 := 0) ?_ ?_ ?_
    · first | rfl | (simp only [LN, NN, NT])
    · first | (simp (disch := first | assumption | decide | with_unfolding_all rfl | omega | (simp only [LN] <;> omega) | (simp only [RO, OF])) only [RR, ↓reduceIte, Nat.reduceEqDiff, Nat.reduceLT, Nat.reduceLeDiff, Nat.reduceAdd, Nat.reduceSub, Nat.reduceMul, Nat.reduceMod, Nat.reduceDiv, Nat.reduceBEq, LN, NN, NT]; done) | rfl
    rintro nx1 k1 hn1 x5
    show J _ (slices_Equal_int64_L1 fu x1 x2 nx1 x5) _
    unfold slices_Equal_int64_L1
    conv => arg 1; simp (maxSteps := 1000000) (disch := first | assumption | decide | with_unfolding_all rfl | omega | (simp only [LN] <;> omega) | (simp only [RO, OF])) only [RR, RM, LN, TT, d77_at, ↓reduceIte, Nat.reduceEqDiff, Nat.reduceLT, Nat.reduceLeDiff, Nat.reduceAdd, Nat.reduceSub, Nat.reduceMul, Nat.reduceMod, Nat.reduceDiv, Nat.reduceBEq, RH, h1']
    refine J.eq go_seq ?_
    conv => arg 1; simp (maxSteps := 1000000) (disch := first | assumption | decide | with_unfolding_all rfl | omega | (simp only [LN] <;> omega) | (simp only [RO, OF])) only [RR, RM, LN, TT, d77_at, ↓reduceIte, Nat.reduceEqDiff, Nat.reduceLT, Nat.reduceLeDiff, Nat.reduceAdd, Nat.reduceSub, Nat.reduceMul, Nat.reduceMod, Nat.reduceDiv, Nat.reduceBEq, RH, h1']
    refine J.ite (fun h2 => ?_) (fun h2 => ?_)
    · have h2' := decide_eq_true h2
      have h2'' : decide ((x1.length : Int) ≤ x5) = false := decide_eq_false (by omega)
      conv => arg 1; simp (maxSteps := 1000000) (disch := first | assumption | decide | with_unfolding_all rfl | omega | (simp only [LN] <;> omega) | (simp only [RO, OF])) only [RR, RM, LN, TT, d77_at, ↓reduceIte, Nat.reduceEqDiff, Nat.reduceLT, Nat.reduceLeDiff, Nat.reduceAdd, Nat.reduceSub, Nat.reduceMul, Nat.reduceMod, Nat.reduceDiv, Nat.reduceBEq, RH, h1', h2'', h2']
      refine J.eq ret_seq ?_
      refine J.eq go_seq ?_
      refine J.at fun x8 h3 h4 h5 => ?_
      refine J.at fun x9 h6 h7 h8 => ?_
      conv => arg 1; simp (maxSteps := 1000000) (disch := first | assumption | decide | with_unfolding_all rfl | omega | (simp only [LN] <;> omega) | (simp only [RO, OF])) only [RR, RM, LN, TT, d77_at, ↓reduceIte, Nat.reduceEqDiff, Nat.reduceLT, Nat.reduceLeDiff, Nat.reduceAdd, Nat.reduceSub, Nat.reduceMul, Nat.reduceMod, Nat.reduceDiv, Nat.reduceBEq, RH, h1', h2'', h2', lm_ik h5, lm_ik h8]
      refine J.ite (fun h9 => ?_) (fun h9 => ?_)
      · have h9' := decide_eq_true h9
        conv => arg 1; simp (maxSteps := 1000000) (disch := first | assumption | decide | with_unfolding_all rfl | omega | (simp only [LN] <;> omega) | (simp only [RO, OF])) only [RR, RM, LN, TT, d77_at, ↓reduceIte, Nat.reduceEqDiff, Nat.reduceLT, Nat.reduceLeDiff, Nat.reduceAdd, Nat.reduceSub, Nat.reduceMul, Nat.reduceMod, Nat.reduceDiv, Nat.reduceBEq, RH, h1', h2'', h2', lm_ik h5, lm_ik h8, h9']
        refine J.eq ret_seq ?_
        conv => arg 1; simp (maxSteps := 1000000) (disch := first | assumption | decide | with_unfolding_all rfl | omega | (simp only [LN] <;> omega) | (simp only [RO, OF])) only [RR, RM, LN, TT, d77_at, ↓reduceIte, Nat.reduceEqDiff, Nat.reduceLT, Nat.reduceLeDiff, Nat.reduceAdd, Nat.reduceSub, Nat.reduceMul, Nat.reduceMod, Nat.reduceDiv, Nat.reduceBEq, RH, h1', h2'', h2', lm_ik h5, lm_ik h8, h9']
        refine J.next (s := wk .i64 (x5 + 1)) hn1 ?_ ?_
        · first | rfl | (simp only [LN, NN, NT])
        · first | (simp (disch := first | assumption | decide | with_unfolding_all rfl | omega | (simp only [LN] <;> omega) | (simp only [RO, OF])) only [RR, ↓reduceIte, Nat.reduceEqDiff, Nat.reduceLT, Nat.reduceLeDiff, Nat.reduceAdd, Nat.reduceSub, Nat.reduceMul, Nat.reduceMod, Nat.reduceDiv, Nat.reduceBEq, LN, NN, NT]; done) | rfl
      · have h9' := decide_eq_false h9
        refine J.some ?_
        simp (disch := first | assumption | decide | with_unfolding_all rfl | omega | (simp only [LN] <;> omega) | (simp only [RO, OF])) only [RR, RM, LN, TT, d77_at, ↓reduceIte, Nat.reduceEqDiff, Nat.reduceLT, Nat.reduceLeDiff, Nat.reduceAdd, Nat.reduceSub, Nat.reduceMul, Nat.reduceMod, Nat.reduceDiv, Nat.reduceBEq, RH, h1', h2'', h2', lm_ik h5, lm_ik h8, h9', FF, LN, NN, NT]
    · have h2' := decide_eq_false h2
      have h2'' : decide ((x1.length : Int) ≤ x5) = true := decide_eq_true (by omega)
      conv => arg 1; simp (maxSteps := 1000000) (disch := first | assumption | decide | with_unfolding_all rfl | omega | (simp only [LN] <;> omega) | (simp only [RO, OF])) only [RR, RM, LN, TT, d77_at, ↓reduceIte, Nat.reduceEqDiff, Nat.reduceLT, Nat.reduceLeDiff, Nat.reduceAdd, Nat.reduceSub, Nat.reduceMul, Nat.reduceMod, Nat.reduceDiv, Nat.reduceBEq, RH, h1', h2'', h2']
      refine J.eq ret_seq ?_
      refine J.some ?_
      simp (disch := first | assumption | decide | with_unfolding_all rfl | omega | (simp only [LN] <;> omega) | (simp only [RO, OF])) only [RR, RM, LN, TT, d77_at, ↓reduceIte, Nat.reduceEqDiff, Nat.reduceLT, Nat.reduceLeDiff, Nat.reduceAdd, Nat.reduceSub, Nat.reduceMul, Nat.reduceMod, Nat.reduceDiv, Nat.reduceBEq, RH, h1', h2'', h2', FF, LN, NN, NT]
  · have h1' := decide_eq_false h1
    refine J.some ?_
    simp (disch := first | assumption | decide | with_unfolding_all rfl | omega | (simp only [LN] <;> omega) | (simp only [RO, OF])) only [RR, RM, LN, TT, d77_at, ↓reduceIte, Nat.reduceEqDiff, Nat.reduceLT, Nat.reduceLeDiff, Nat.reduceAdd, Nat.reduceSub, Nat.reduceMul, Nat.reduceMod, Nat.reduceDiv, Nat.reduceBEq, RH, h1', FF, LN, NN, NT]
noncomputable def t77 (fu : Nat) : CallP := noP
theorem t77_ok (fu : Nat) : CpOK Try.prog (t77 fu ) := noP_ok
theorem ok77 (fu : Nat) (x1 : List Int) (x2 : List Int) (r) (h : slices_Equal_int64 fu x1 x2 = some r) : PureOK Try.prog 77 [.arr x1.length (lm (ik .i64) x1), .arr x2.length (lm (ik .i64) x2)] (e77 r) :=
  pure_J mixed (cp := t77 fu ) (t77_ok fu  ) noI_ok i77 (w77 _ fu x1 x2  ) h
/-! 78: slices.Equal[[]bool,bool] -/
def d78 : List (Nat × List Nat) := [(0, [4]), (0, [0, 1, 12, 13]), (0, [6, 7, 8, 9]), (0, []), (0, []), (0, []), (0, [11]), (0, []), (0, []), (0, []), (0, [15]), (0, []), (9, [5, 16, 17, 18, 19, 20, 21, 22, 23]), (0, []), (0, []), (0, []), (0, [25]), (0, []), (0, [])]
def d78_at := And.intro (show d78.getD 0 (0, []) = (0, [4]) from rfl) <| And.intro (show d78.getD 1 (0, []) = (0, [0, 1, 12, 13]) from rfl) <| And.intro (show d78.getD 2 (0, []) = (0, [6, 7, 8, 9]) from rfl) <| And.intro (show d78.getD 3 (0, []) = (0, []) from rfl) <| And.intro (show d78.getD 4 (0, []) = (0, []) from rfl) <| And.intro (show d78.getD 5 (0, []) = (0, []) from rfl) <| And.intro (show d78.getD 6 (0, []) = (0, [11]) from rfl) <| And.intro (show d78.getD 7 (0, []) = (0, []) from rfl) <| And.intro (show d78.getD 8 (0, []) = (0, []) from rfl) <| And.intro (show d78.getD 9 (0, []) = (0, []) from rfl) <| And.intro (show d78.getD 10 (0, []) = (0, [15]) from rfl) <| And.intro (show d78.getD 11 (0, []) = (0, []) from rfl) <| And.intro (show d78.getD 12 (0, []) = (9, [5, 16, 17, 18, 19, 20, 21, 22, 23]) from rfl) <| And.intro (show d78.getD 13 (0, []) = (0, []) from rfl) <| And.intro (show d78.getD 14 (0, []) = (0, []) from rfl) <| And.intro (show d78.getD 15 (0, []) = (0, []) from rfl) <| And.intro (show d78.getD 16 (0, []) = (0, [25]) from rfl) <| And.intro (show d78.getD 17 (0, []) = (0, []) from rfl) <| (show d78.getD 18 (0, []) = (0, []) from rfl)
theorem i78 : finfo Try.prog 78 d78 = some ⟨bodyOf Try.f78, [.tmp 4], [4]⟩ := finfo_at Try.func78 rfl (by kernel_rfl) (by kernel_rfl)
def e78 : Bool → AV := fun r => .v (.bool r)
set_option maxHeartbeats 1000000 in
theorem w78 (cp : CallP) (fu : Nat) (x1 : List Bool) (x2 : List Bool) : J (go Try.prog noC cp noI 0 [] d78 fu (fin Try.prog [.tmp 4] [4]) (bodyOf Try.f78) (initE 0 [.arr x1.length (lm (bk) x1), .arr x2.length (lm (bk) x2)]) [] []) (slices_Equal_bool fu x1 x2) e78 := by
  unfold slices_Equal_bool e78
  conv => arg 1; simp (maxSteps := 1000000) (disch := first | assumption | decide | with_unfolding_all rfl | omega | (simp only [LN] <;> omega) | (simp only [RO, OF])) only [bodyOf, Try.f78, RR, RM, LN, TT, d78_at, ↓reduceIte, Nat.reduceEqDiff, Nat.reduceLT, Nat.reduceLeDiff, Nat.reduceAdd, Nat.reduceSub, Nat.reduceMul, Nat.reduceMod, Nat.reduceDiv, Nat.reduceBEq, RH]
  refine J.eq go_seq ?_
  conv => arg 1; simp (maxSteps := 1000000) (disch := first | assumption | decide | with_unfolding_all rfl | omega | (simp only [LN] <;> omega) | (simp only [RO, OF])) only [RR, RM, LN, TT, d78_at, ↓reduceIte, Nat.reduceEqDiff, Nat.reduceLT, Nat.reduceLeDiff, Nat.reduceAdd, Nat.reduceSub, Nat.reduceMul, Nat.reduceMod, Nat.reduceDiv, Nat.reduceBEq, RH]
  refine J.ite (fun h1 => ?_) (fun h1 => ?_)
  · have h1' := decide_eq_true h1
    conv => arg 1; simp (maxSteps := 1000000) (disch := first | assumption | decide | with_unfolding_all rfl | omega | (simp only [LN] <;> omega) | (simp only [RO, OF])) only [RR, RM, LN, TT, d78_at, ↓reduceIte, Nat.reduceEqDiff, Nat.reduceLT, Nat.reduceLeDiff, Nat.reduceAdd, Nat.reduceSub, Nat.reduceMul, Nat.reduceMod, Nat.reduceDiv, Nat.reduceBEq, RH, h1']
    refine J.eq ret_seq ?_
    refine J.eq go_seq ?_
    conv => arg 1; simp (maxSteps := 1000000) (disch := first | assumption | decide | with_unfolding_all rfl | omega | (simp only [LN] <;> omega) | (simp only [RO, OF])) only [RR, RM, LN, TT, d78_at, ↓reduceIte, Nat.reduceEqDiff, Nat.reduceLT, Nat.reduceLeDiff, Nat.reduceAdd, Nat.reduceSub, Nat.reduceMul, Nat.reduceMod, Nat.reduceDiv, Nat.reduceBEq, RH, h1']
    unfold slices_Equal_bool_W1
    refine J.loop (fun (s : Int) => ([(0, .arr x1.length (lm (bk) x1)), (1, .arr x2.length (lm (bk) x2)), (12, .v (.int .i64 (x1.length : Int))), (13, .v (.int .i64 s))], [])) (fun next s => slices_Equal_bool_L1 fu x1 x2 next s) (s0 := 0) ?_ ?_ ?_
    · first | rfl | (simp only [LN, NN, NT])
    · first | (simp (disch := first | assumption | decide | with_unfolding_all rfl | omega | (simp only [LN] <;> omega) | (simp only [RO, OF])) only [RR, ↓reduceIte, Nat.reduceEqDiff, Nat.reduceLT, Nat.reduceLeDiff, Nat.reduceAdd, Nat.reduceSub, Nat.reduceMul, Nat.reduceMod, Nat.reduceDiv, Nat.reduceBEq, LN, NN, NT]; done) | rfl
    rintro nx1 k1 hn1 x5
    show J _ (slices_Equal_bool_L1 fu x1 x2 nx1 x5) _
    unfold slices_Equal_bool_L1
    conv => arg 1; simp (maxSteps := 1000000) (disch := first | assumption | decide | with_unfolding_all rfl | omega | (simp only [LN] <;> omega) | (simp only [RO, OF])) only [RR, RM, LN, TT, d78_at, ↓reduceIte, Nat.reduceEqDiff, Nat.reduceLT, Nat.reduceLeDiff, Nat.reduceAdd, Nat.reduceSub, Nat.reduceMul, Nat.reduceMod, Nat.reduceDiv, Nat.reduceBEq, RH, h1']
    refine J.eq go_seq ?_
    conv => arg 1; simp (maxSteps := 1000000) (disch := first | assumption | decide | with_unfolding_all rfl | omega | (simp only [LN] <;> omega) | (simp only [RO, OF])) only [RR, RM, LN, TT, d78_at, ↓reduceIte, Nat.reduceEqDiff, Nat.reduceLT, Nat.reduceLeDiff, Nat.reduceAdd, Nat.reduceSub, Nat.reduceMul, Nat.reduceMod, Nat.reduceDiv, Nat.reduceBEq, RH, h1']
    refine J.ite (fun h2 => ?_) (fun h2 => ?_)
    · have h2' := decide_eq_true h2
      have h2'' : decide ((x1.length : Int) ≤ x5) = false := decide_eq_false (by omega)
      conv => arg 1; simp (maxSteps := 1000000) (disch := first | assumption | decide | with_unfolding_all rfl | omega | (simp only [LN] <;> omega) | (simp only [RO, OF])) only [RR, RM, LN, TT, d78_at, ↓reduceIte, Nat.reduceEqDiff, Nat.reduceLT, Nat.reduceLeDiff, Nat.reduceAdd, Nat.reduceSub, Nat.reduceMul, Nat.reduceMod, Nat.reduceDiv, Nat.reduceBEq, RH, h1', h2'', h2']
      refine J.eq ret_seq ?_
      refine J.eq go_seq ?_
      refine J.at fun x8 h3 h4 h5 => ?_
      refine J.at fun x9 h6 h7 h8 => ?_
      conv => arg 1; simp (maxSteps := 1000000) (disch := first | assumption | decide | with_unfolding_all rfl | omega | (simp only [LN] <;> omega) | (simp only [RO, OF])) only [RR, RM, LN, TT, d78_at, ↓reduceIte, Nat.reduceEqDiff, Nat.reduceLT, Nat.reduceLeDiff, Nat.reduceAdd, Nat.reduceSub, Nat.reduceMul, Nat.reduceMod, Nat.reduceDiv, Nat.reduceBEq, RH, h1', h2'', h2', lm_bk h5, lm_bk h8]
      refine J.ite (fun h9 => ?_) (fun h9 => ?_)
      · have h9' : (x8 == x9) = true := h9
        conv => arg 1; simp (maxSteps := 1000000) (disch := first | assumption | decide | with_unfolding_all rfl | omega | (simp only [LN] <;> omega) | (simp only [RO, OF])) only [RR, RM, LN, TT, d78_at, ↓reduceIte, Nat.reduceEqDiff, Nat.reduceLT, Nat.reduceLeDiff, Nat.reduceAdd, Nat.reduceSub, Nat.reduceMul, Nat.reduceMod, Nat.reduceDiv, Nat.reduceBEq, RH, h1', h2'', h2', lm_bk h5, lm_bk h8, h9']
        refine J.eq ret_seq ?_
        conv => arg 1; simp (maxSteps := 1000000) (disch := first | assumption | decide | with_unfolding_all rfl | omega | (simp only [LN] <;> omega) | (simp only [RO, OF])) only [RR, RM, LN, TT, d78_at, ↓reduceIte, Nat.reduceEqDiff, Nat.reduceLT, Nat.reduceLeDiff, Nat.reduceAdd, Nat.reduceSub, Nat.reduceMul, Nat.reduceMod, Nat.reduceDiv, Nat.reduceBEq, RH, h1', h2'', h2', lm_bk h5, lm_bk h8, h9']
        refine J.next (s := wk .i64 (x5 + 1)) hn1 ?_ ?_
        · first | rfl | (simp only [LN, NN, NT])
        · first | (simp (disch := first | assumption | decide | with_unfolding_all rfl | omega | (simp only [LN] <;> omega) | (simp only [RO, OF])) only [RR, ↓reduceIte, Nat.reduceEqDiff, Nat.reduceLT, Nat.reduceLeDiff, Nat.reduceAdd, Nat.reduceSub, Nat.reduceMul, Nat.reduceMod, Nat.reduceDiv, Nat.reduceBEq, LN, NN, NT]; done) | rfl
      · have h9' : (x8 == x9) = false := Bool.eq_false_iff.2 h9
        refine J.some ?_
        simp (disch := first | assumption | decide | with_unfolding_all rfl | omega | (simp only [LN] <;> omega) | (simp only [RO, OF])) only [RR, RM, LN, TT, d78_at, ↓reduceIte, Nat.reduceEqDiff, Nat.reduceLT, Nat.reduceLeDiff, Nat.reduceAdd, Nat.reduceSub, Nat.reduceMul, Nat.reduceMod, Nat.reduceDiv, Nat.reduceBEq, RH, h1', h2'', h2', lm_bk h5, lm_bk h8, h9', FF, LN, NN, NT]
    · have h2' := decide_eq_false h2
      have h2'' : decide ((x1.length : Int) ≤ x5) = true := decide_eq_true (by omega)
      conv => arg 1; simp (maxSteps := 1000000) (disch := first | assumption | decide | with_unfolding_all rfl | omega | (simp only [LN] <;> omega) | (simp only [RO, OF])) only [RR, RM, LN, TT, d78_at, ↓reduceIte, Nat.reduceEqDiff, Nat.reduceLT, Nat.reduceLeDiff, Nat.reduceAdd, Nat.reduceSub, Nat.reduceMul, Nat.reduceMod, Nat.reduceDiv, Nat.reduceBEq, RH, h1', h2'', h2']
      refine J.eq ret_seq ?_
      refine J.some ?_
      simp (disch := first | assumption | decide | with_unfolding_all rfl | omega | (simp only [LN] <;> omega) | (simp only [RO, OF])) only [RR, RM, LN, TT, d78_at, ↓reduceIte, Nat.reduceEqDiff, Nat.reduceLT, Nat.reduceLeDiff, Nat.reduceAdd, Nat.reduceSub, Nat.reduceMul, Nat.reduceMod, Nat.reduceDiv, Nat.reduceBEq, RH, h1', h2'', h2', FF, LN, NN, NT]
  · have h1' := decide_eq_false h1
    refine J.some ?_
    simp (disch := first | assumption | decide | with_unfolding_all rfl | omega | (simp only [LN] <;> omega) | (simp only [RO, OF])) only [RR, RM, LN, TT, d78_at, ↓reduceIte, Nat.reduceEqDiff, Nat.reduceLT, Nat.reduceLeDiff, Nat.reduceAdd, Nat.reduceSub, Nat.reduceMul, Nat.reduceMod, Nat.reduceDiv, Nat.reduceBEq, RH, h1', FF, LN, NN, NT]
noncomputable def t78 (fu : Nat) : CallP := noP
theorem t78_ok (fu : Nat) : CpOK Try.prog (t78 fu ) := noP_ok
theorem ok78 (fu : Nat) (x1 : List Bool) (x2 : List Bool) (r) (h : slices_Equal_bool fu x1 x2 = some r) : PureOK Try.prog 78 [.arr x1.length (lm (bk) x1), .arr x2.length (lm (bk) x2)] (e78 r) :=
  pure_J mixed (cp := t78 fu ) (t78_ok fu  ) noI_ok i78 (w78 _ fu x1 x2  ) h
/-! 50: lattice/tens.Same -/
def d50 : List (Nat × List Nat) := [(0, [0, 1, 4]), (0, []), (0, [2, 3, 5, 6, 7, 8, 9, 10, 11, 12, 13, 14, 15, 16, 17, 18, 19, 20, 21, 22, 23, 24, 25, 26, 27, 28, 29, 30, 31, 32, 33, 34, 35, 36, 37])]
def d50_at := And.intro (show d50.getD 0 (0, []) = (0, [0, 1, 4]) from rfl) <| And.intro (show d50.getD 1 (0, []) = (0, []) from rfl) <| (show d50.getD 2 (0, []) = (0, [2, 3, 5, 6, 7, 8, 9, 10, 11, 12, 13, 14, 15, 16, 17, 18, 19, 20, 21, 22, 23, 24, 25, 26, 27, 28, 29, 30, 31, 32, 33, 34, 35, 36, 37]) from rfl)
theorem i50 : finfo Try.prog 50 d50 = some ⟨bodyOf Try.f50, [.tmp 4], [4]⟩ := finfo_at Try.func50 rfl (by kernel_rfl) (by kernel_rfl)
def e50 : Bool → AV := fun r => .v (.bool r)
set_option maxHeartbeats 1000000 in
theorem w50 (cp : CallP) (fu : Nat) (x1 : T_Tensor) (x2 : T_Tensor) (H60_0 : ∀ (a0 : List Int) (a1 : List Int) r, slices_Equal_int fu a0 a1 = some r → cp 60 [.arr a0.length (lm (ik .i64) a0), .arr a1.length (lm (ik .i64) a1)] = some (.v (.bool r))) (H76_0 : ∀ (a0 : List Int) (a1 : List Int) r, slices_Equal_uint32 fu a0 a1 = some r → cp 76 [.arr a0.length (lm (ik .u32) a0), .arr a1.length (lm (ik .u32) a1)] = some (.v (.bool r))) (H77_0 : ∀ (a0 : List Int) (a1 : List Int) r, slices_Equal_int64 fu a0 a1 = some r → cp 77 [.arr a0.length (lm (ik .i64) a0), .arr a1.length (lm (ik .i64) a1)] = some (.v (.bool r))) (H78_0 : ∀ (a0 : List Bool) (a1 : List Bool) r, slices_Equal_bool fu a0 a1 = some r → cp 78 [.arr a0.length (lm (bk) a0), .arr a1.length (lm (bk) a1)] = some (.v (.bool r))) : J (go Try.prog noC cp noI 0 [] d50 fu (fin Try.prog [.tmp 4] [4]) (bodyOf Try.f50) (initE 0 [.agg (c_T_Tensor x1), .agg (c_T_Tensor x2)]) [] []) (tens_Same fu x1 x2) e50 := by
  unfold tens_Same e50
  conv => arg 1; simp (maxSteps := 1000000) (disch := first | assumption | decide | with_unfolding_all rfl | omega | (simp only [LN] <;> omega) | (simp only [RO, OF])) only [bodyOf, Try.f50, RR, RM, LN, TT, d50_at, ↓reduceIte, Nat.reduceEqDiff, Nat.reduceLT, Nat.reduceLeDiff, Nat.reduceAdd, Nat.reduceSub, Nat.reduceMul, Nat.reduceMod, Nat.reduceDiv, Nat.reduceBEq, RH]
  refine J.eq go_seq ?_
  conv => arg 1; simp (maxSteps := 1000000) (disch := first | assumption | decide | with_unfolding_all rfl | omega | (simp only [LN] <;> omega) | (simp only [RO, OF])) only [RR, RM, LN, TT, d50_at, ↓reduceIte, Nat.reduceEqDiff, Nat.reduceLT, Nat.reduceLeDiff, Nat.reduceAdd, Nat.reduceSub, Nat.reduceMul, Nat.reduceMod, Nat.reduceDiv, Nat.reduceBEq, RH]
  refine J.ite (fun h1 => ?_) (fun h1 => ?_)
  · have h1' := decide_eq_true h1
    refine J.bind fun x3 h2 => ?_
    have e_h2 := H60_0 _ _ _ h2
    try simp only [NN, NT, LN] at e_h2
    conv => arg 1; simp (maxSteps := 1000000) (disch := first | assumption | decide | with_unfolding_all rfl | omega | (simp only [LN] <;> omega) | (simp only [RO, OF])) only [RR, RM, LN, TT, d50_at, ↓reduceIte, Nat.reduceEqDiff, Nat.reduceLT, Nat.reduceLeDiff, Nat.reduceAdd, Nat.reduceSub, Nat.reduceMul, Nat.reduceMod, Nat.reduceDiv, Nat.reduceBEq, RH, h1', e_h2]
    refine J.ite (fun h3 => ?_) (fun h3 => ?_)
    · have h3' : x3 = true := h3
      refine J.bind fun x4 h4 => ?_
      have e_h4 := H76_0 _ _ _ h4
      try simp only [NN, NT, LN] at e_h4
      conv => arg 1; simp (maxSteps := 1000000) (disch := first | assumption | decide | with_unfolding_all rfl | omega | (simp only [LN] <;> omega) | (simp only [RO, OF])) only [RR, RM, LN, TT, d50_at, ↓reduceIte, Nat.reduceEqDiff, Nat.reduceLT, Nat.reduceLeDiff, Nat.reduceAdd, Nat.reduceSub, Nat.reduceMul, Nat.reduceMod, Nat.reduceDiv, Nat.reduceBEq, RH, h1', e_h2, h3', e_h4]
      refine J.ite (fun h5 => ?_) (fun h5 => ?_)
      · have h5' : x4 = true := h5
        refine J.bind fun x5 h6 => ?_
        have e_h6 := H77_0 _ _ _ h6
        try simp only [NN, NT, LN] at e_h6
        conv => arg 1; simp (maxSteps := 1000000) (disch := first | assumption | decide | with_unfolding_all rfl | omega | (simp only [LN] <;> omega) | (simp only [RO, OF])) only [RR, RM, LN, TT, d50_at, ↓reduceIte, Nat.reduceEqDiff, Nat.reduceLT, Nat.reduceLeDiff, Nat.reduceAdd, Nat.reduceSub, Nat.reduceMul, Nat.reduceMod, Nat.reduceDiv, Nat.reduceBEq, RH, h1', e_h2, h3', e_h4, h5', e_h6]
        refine J.ite (fun h7 => ?_) (fun h7 => ?_)
        · have h7' : x5 = true := h7
          refine J.bind fun x6 h8 => ?_
          have e_h8 := H78_0 _ _ _ h8
          try simp only [NN, NT, LN] at e_h8
          conv => arg 1; simp (maxSteps := 1000000) (disch := first | assumption | decide | with_unfolding_all rfl | omega | (simp only [LN] <;> omega) | (simp only [RO, OF])) only [RR, RM, LN, TT, d50_at, ↓reduceIte, Nat.reduceEqDiff, Nat.reduceLT, Nat.reduceLeDiff, Nat.reduceAdd, Nat.reduceSub, Nat.reduceMul, Nat.reduceMod, Nat.reduceDiv, Nat.reduceBEq, RH, h1', e_h2, h3', e_h4, h5', e_h6, h7', e_h8]
          refine J.eq ret_seq ?_
          refine J.some ?_
          simp (disch := first | assumption | decide | with_unfolding_all rfl | omega | (simp only [LN] <;> omega) | (simp only [RO, OF])) only [RR, RM, LN, TT, d50_at, ↓reduceIte, Nat.reduceEqDiff, Nat.reduceLT, Nat.reduceLeDiff, Nat.reduceAdd, Nat.reduceSub, Nat.reduceMul, Nat.reduceMod, Nat.reduceDiv, Nat.reduceBEq, RH, h1', e_h2, h3', e_h4, h5', e_h6, h7', e_h8, FF, LN, NN, NT]
        · have h7' : x5 = false := Bool.eq_false_iff.2 h7
          conv => arg 1; simp (maxSteps := 1000000) (disch := first | assumption | decide | with_unfolding_all rfl | omega | (simp only [LN] <;> omega) | (simp only [RO, OF])) only [RR, RM, LN, TT, d50_at, ↓reduceIte, Nat.reduceEqDiff, Nat.reduceLT, Nat.reduceLeDiff, Nat.reduceAdd, Nat.reduceSub, Nat.reduceMul, Nat.reduceMod, Nat.reduceDiv, Nat.reduceBEq, RH, h1', e_h2, h3', e_h4, h5', e_h6, h7']
          refine J.eq ret_seq ?_
          refine J.some ?_
          simp (disch := first | assumption | decide | with_unfolding_all rfl | omega | (simp only [LN] <;> omega) | (simp only [RO, OF])) only [RR, RM, LN, TT, d50_at, ↓reduceIte, Nat.reduceEqDiff, Nat.reduceLT, Nat.reduceLeDiff, Nat.reduceAdd, Nat.reduceSub, Nat.reduceMul, Nat.reduceMod, Nat.reduceDiv, Nat.reduceBEq, RH, h1', e_h2, h3', e_h4, h5', e_h6, h7', FF, LN, NN, NT]
      · have h5' : x4 = false := Bool.eq_false_iff.2 h5
        conv => arg 1; simp (maxSteps := 1000000) (disch := first | assumption | decide | with_unfolding_all rfl | omega | (simp only [LN] <;> omega) | (simp only [RO, OF])) only [RR, RM, LN, TT, d50_at, ↓reduceIte, Nat.reduceEqDiff, Nat.reduceLT, Nat.reduceLeDiff, Nat.reduceAdd, Nat.reduceSub, Nat.reduceMul, Nat.reduceMod, Nat.reduceDiv, Nat.reduceBEq, RH, h1', e_h2, h3', e_h4, h5']
        refine J.eq ret_seq ?_
        refine J.some ?_
        simp (disch := first | assumption | decide | with_unfolding_all rfl | omega | (simp only [LN] <;> omega) | (simp only [RO, OF])) only [RR, RM, LN, TT, d50_at, ↓reduceIte, Nat.reduceEqDiff, Nat.reduceLT, Nat.reduceLeDiff, Nat.reduceAdd, Nat.reduceSub, Nat.reduceMul, Nat.reduceMod, Nat.reduceDiv, Nat.reduceBEq, RH, h1', e_h2, h3', e_h4, h5', FF, LN, NN, NT]
    · have h3' : x3 = false := Bool.eq_false_iff.2 h3
      conv => arg 1; simp (maxSteps := 1000000) (disch := first | assumption | decide | with_unfolding_all rfl | omega | (simp only [LN] <;> omega) | (simp only [RO, OF])) only [RR, RM, LN, TT, d50_at, ↓reduceIte, Nat.reduceEqDiff, Nat.reduceLT, Nat.reduceLeDiff, Nat.reduceAdd, Nat.reduceSub, Nat.reduceMul, Nat.reduceMod, Nat.reduceDiv, Nat.reduceBEq, RH, h1', e_h2, h3']
      refine J.eq ret_seq ?_
      refine J.some ?_
      simp (disch := first | assumption | decide | with_unfolding_all rfl | omega | (simp only [LN] <;> omega) | (simp only [RO, OF])) only [RR, RM, LN, TT, d50_at, ↓reduceIte, Nat.reduceEqDiff, Nat.reduceLT, Nat.reduceLeDiff, Nat.reduceAdd, Nat.reduceSub, Nat.reduceMul, Nat.reduceMod, Nat.reduceDiv, Nat.reduceBEq, RH, h1', e_h2, h3', FF, LN, NN, NT]
  · have h1' := decide_eq_false h1
    conv => arg 1; simp (maxSteps := 1000000) (disch := first | assumption | decide | with_unfolding_all rfl | omega | (simp only [LN] <;> omega) | (simp only [RO, OF])) only [RR, RM, LN, TT, d50_at, ↓reduceIte, Nat.reduceEqDiff, Nat.reduceLT, Nat.reduceLeDiff, Nat.reduceAdd, Nat.reduceSub, Nat.reduceMul, Nat.reduceMod, Nat.reduceDiv, Nat.reduceBEq, RH, h1']
    refine J.eq ret_seq ?_
    refine J.some ?_
    simp (disch := first | assumption | decide | with_unfolding_all rfl | omega | (simp only [LN] <;> omega) | (simp only [RO, OF])) only [RR, RM, LN, TT, d50_at, ↓reduceIte, Nat.reduceEqDiff, Nat.reduceLT, Nat.reduceLeDiff, Nat.reduceAdd, Nat.reduceSub, Nat.reduceMul, Nat.reduceMod, Nat.reduceDiv, Nat.reduceBEq, RH, h1', FF, LN, NN, NT]
noncomputable def t50 (fu : Nat) : CallP := orE 60 (mkC (fun (t : (List Int) × (List Int)) => ([.arr t.1.length (lm (ik .i64) t.1), .arr t.2.length (lm (ik .i64) t.2)] : List AV)) (fun t => slices_Equal_int fu t.1 t.2) e60) (orE 76 (mkC (fun (t : (List Int) × (List Int)) => ([.arr t.1.length (lm (ik .u32) t.1), .arr t.2.length (lm (ik .u32) t.2)] : List AV)) (fun t => slices_Equal_uint32 fu t.1 t.2) e76) (orE 77 (mkC (fun (t : (List Int) × (List Int)) => ([.arr t.1.length (lm (ik .i64) t.1), .arr t.2.length (lm (ik .i64) t.2)] : List AV)) (fun t => slices_Equal_int64 fu t.1 t.2) e77) (orE 78 (mkC (fun (t : (List Bool) × (List Bool)) => ([.arr t.1.length (lm (bk) t.1), .arr t.2.length (lm (bk) t.2)] : List AV)) (fun t => slices_Equal_bool fu t.1 t.2) e78) (noP))))
theorem t50_ok (fu : Nat) : CpOK Try.prog (t50 fu ) := orE_ok (orE_ok (orE_ok (orE_ok (noP_ok) (mkC_ok (fun t b h => ok78 fu t.1 t.2  b h))) (mkC_ok (fun t b h => ok77 fu t.1 t.2  b h))) (mkC_ok (fun t b h => ok76 fu t.1 t.2  b h))) (mkC_ok (fun t b h => ok60 fu t.1 t.2  b h))
theorem ok50 (fu : Nat) (x1 : T_Tensor) (x2 : T_Tensor) (r) (h : tens_Same fu x1 x2 = some r) : PureOK Try.prog 50 [.agg (c_T_Tensor x1), .agg (c_T_Tensor x2)] (e50 r) :=
  pure_J mixed (cp := t50 fu ) (t50_ok fu  ) noI_ok i50 (w50 _ fu x1 x2  (fun a0 a1 r h => orE_hit (mkC_at (a := (a0, a1)) (by intro a b h; first | (exact rfl) | (simp only [INJ, c_inj_iff c_T_Tensor_inj, lm_inj_iff (inj_avf (inj_fm c_T_Tensor_len (by decide) c_T_Tensor_inj)), fm_inj_iff (inj_fm c_T_Tensor_len (by decide) c_T_Tensor_inj)] at h; first | exact h | (simp_all [Prod.ext_iff]) )) h)) (fun a0 a1 r h => orE_miss (by decide) (orE_hit (mkC_at (a := (a0, a1)) (by intro a b h; first | (exact rfl) | (simp only [INJ, c_inj_iff c_T_Tensor_inj, lm_inj_iff (inj_avf (inj_fm c_T_Tensor_len (by decide) c_T_Tensor_inj)), fm_inj_iff (inj_fm c_T_Tensor_len (by decide) c_T_Tensor_inj)] at h; first | exact h | (simp_all [Prod.ext_iff]) )) h))) (fun a0 a1 r h => orE_miss (by decide) (orE_miss (by decide) (orE_hit (mkC_at (a := (a0, a1)) (by intro a b h; first | (exact rfl) | (simp only [INJ, c_inj_iff c_T_Tensor_inj, lm_inj_iff (inj_avf (inj_fm c_T_Tensor_len (by decide) c_T_Tensor_inj)), fm_inj_iff (inj_fm c_T_Tensor_len (by decide) c_T_Tensor_inj)] at h; first | exact h | (simp_all [Prod.ext_iff]) )) h)))) (fun a0 a1 r h => orE_miss (by decide) (orE_miss (by decide) (orE_miss (by decide) (orE_hit (mkC_at (a := (a0, a1)) (by intro a b h; first | (exact rfl) | (simp only [INJ, c_inj_iff c_T_Tensor_inj, lm_inj_iff (inj_avf (inj_fm c_T_Tensor_len (by decide) c_T_Tensor_inj)), fm_inj_iff (inj_fm c_T_Tensor_len (by decide) c_T_Tensor_inj)] at h; first | exact h | (simp_all [Prod.ext_iff]) )) h)))))) h
/-! 11: lattice/latticelaw05.TensBack -/
def d11 : List (Nat × List Nat) := [(0, [0, 2]), (0, []), (0, [10]), (0, []), (0, [11, 12, 13, 14, 15]), (0, []), (0, [16]), (0, []), (0, [18, 19, 20, 21, 22, 23, 24, 25, 26, 27, 28, 29]), (0, []), (0, [5, 30, 31, 32, 33, 34, 35, 36, 37, 38]), (0, []), (0, [39, 40, 41, 42, 43, 44]), (0, []), (0, [1, 3, 4, 6, 7, 8, 9, 45, 46, 47, 48, 49, 50, 51, 52, 53, 54, 55, 56, 57, 58, 59, 60, 61, 62, 63, 64, 65, 66, 67, 68])]
def d11_at := And.intro (show d11.getD 0 (0, []) = (0, [0, 2]) from rfl) <| And.intro (show d11.getD 1 (0, []) = (0, []) from rfl) <| And.intro (show d11.getD 2 (0, []) = (0, [10]) from rfl) <| And.intro (show d11.getD 3 (0, []) = (0, []) from rfl) <| And.intro (show d11.getD 4 (0, []) = (0, [11, 12, 13, 14, 15]) from rfl) <| And.intro (show d11.getD 5 (0, []) = (0, []) from rfl) <| And.intro (show d11.getD 6 (0, []) = (0, [16]) from rfl) <| And.intro (show d11.getD 7 (0, []) = (0, []) from rfl) <| And.intro (show d11.getD 8 (0, []) = (0, [18, 19, 20, 21, 22, 23, 24, 25, 26, 27, 28, 29]) from rfl) <| And.intro (show d11.getD 9 (0, []) = (0, []) from rfl) <| And.intro (show d11.getD 10 (0, []) = (0, [5, 30, 31, 32, 33, 34, 35, 36, 37, 38]) from rfl) <| And.intro (show d11.getD 11 (0, []) = (0, []) from rfl) <| And.intro (show d11.getD 12 (0, []) = (0, [39, 40, 41, 42, 43, 44]) from rfl) <| And.intro (show d11.getD 13 (0, []) = (0, []) from rfl) <| (show d11.getD 14 (0, []) = (0, [1, 3, 4, 6, 7, 8, 9, 45, 46, 47, 48, 49, 50, 51, 52, 53, 54, 55, 56, 57, 58, 59, 60, 61, 62, 63, 64, 65, 66, 67, 68]) from rfl)
theorem i11 : finfo Try.prog 11 d11 = some ⟨bodyOf Try.f11, [.tmp 2], [4]⟩ := finfo_at Try.func11 rfl (by kernel_rfl) (by kernel_rfl)
def e11 : Bool → AV := fun r => .v (.bool r)
set_option maxHeartbeats 1000000 in
theorem w11 (cp : CallP) (fu : Nat) (x1 : T_Tensor) (H29 : cp 29 [] = some (.v (.bool true))) (H41_0 : ∀ (a0 : T_Tensor) r, tens_Bytes fu a0 = some r → cp 41 [.agg (c_T_Tensor a0)] = some (.tuple [.fresh 1 r.1.length (lm (ik .u8) r.1), .v (.int .i64 r.2)])) (H43_0 : ∀ (a0 : Int) (a1 : List Int) (a2 : List Int) r, tens_FromBytes fu a0 a1 a2 = some r → cp 43 [.v (.int .i64 a0), .arr a1.length (lm (ik .i64) a1), .arr a2.length (lm (ik .u8) a2)] = some (.tuple [.agg [.v (.int .i64 r.1.fType), .fresh 1 r.1.fDims.length (lm (ik .i64) r.1.fDims), .fresh 1 r.1.fF.length (lm (ik .u32) r.1.fF), .fresh 1 r.1.fI.length (lm (ik .i64) r.1.fI), .fresh 1 r.1.fB.length (lm (bk) r.1.fB)], .v (.int .i64 r.2)])) (H16_0 : ∀ (a0 : List Int) r, ref04_Size fu a0 = some r → cp 16 [.arr a0.length (lm (ik .i64) a0)] = some (.tuple [.v (.int .i64 r.1), .v (.int .i64 r.2)])) (H50_0 : ∀ (a0 : T_Tensor) (a1 : T_Tensor) r, tens_Same fu a0 a1 = some r → cp 50 [.agg (c_T_Tensor a0), .agg (c_T_Tensor a1)] = some (.v (.bool r))) (H34_0 : ∀ (a0 : Int) r, tens_Width fu a0 = some r → cp 34 [.v (.int .i64 a0)] = some (.v (.int .i64 r))) (H48_0 : ∀ (a0 : T_Tensor) r, tens_Check fu a0 = some r → cp 48 [.agg (c_T_Tensor a0)] = some (.v (.int .i64 r))) : J (go Try.prog noC cp noI 0 [] d11 fu (fin Try.prog [.tmp 2] [4]) (bodyOf Try.f11) (initE 0 [.agg (c_T_Tensor x1)]) [] []) (law05_TensBack fu x1) e11 := by
  unfold law05_TensBack e11
  refine J.bind fun x2 h1 => ?_
  have e_h1 := H41_0 _ _ h1
  try simp only [NN, NT, LN] at e_h1
  conv => arg 1; simp (maxSteps := 1000000) (disch := first | assumption | decide | with_unfolding_all rfl | omega | (simp only [LN] <;> omega) | (simp only [RO, OF])) only [bodyOf, Try.f11, RR, RM, LN, TT, d11_at, ↓reduceIte, Nat.reduceEqDiff, Nat.reduceLT, Nat.reduceLeDiff, Nat.reduceAdd, Nat.reduceSub, Nat.reduceMul, Nat.reduceMod, Nat.reduceDiv, Nat.reduceBEq, RH, H29, e_h1]
  refine J.eq go_seq ?_
  conv => arg 1; simp (maxSteps := 1000000) (disch := first | assumption | decide | with_unfolding_all rfl | omega | (simp only [LN] <;> omega) | (simp only [RO, OF])) only [RR, RM, LN, TT, d11_at, ↓reduceIte, Nat.reduceEqDiff, Nat.reduceLT, Nat.reduceLeDiff, Nat.reduceAdd, Nat.reduceSub, Nat.reduceMul, Nat.reduceMod, Nat.reduceDiv, Nat.reduceBEq, RH, H29, e_h1]
  refine J.ite (fun h2 => ?_) (fun h2 => ?_)
  · have h2' := decide_eq_true h2
    conv => arg 1; simp (maxSteps := 1000000) (disch := first | assumption | decide | with_unfolding_all rfl | omega | (simp only [LN] <;> omega) | (simp only [RO, OF])) only [RR, RM, LN, TT, d11_at, ↓reduceIte, Nat.reduceEqDiff, Nat.reduceLT, Nat.reduceLeDiff, Nat.reduceAdd, Nat.reduceSub, Nat.reduceMul, Nat.reduceMod, Nat.reduceDiv, Nat.reduceBEq, RH, H29, e_h1, h2']
    refine J.eq ret_seq ?_
    refine J.bind fun x3 h3 => ?_
    have e_h3 := H43_0 _ _ _ _ h3
    try simp only [NN, NT, LN] at e_h3
    refine J.bind fun x4 h4 => ?_
    have e_h4 := H16_0 _ _ h4
    try simp only [NN, NT, LN] at e_h4
    conv => arg 1; simp (maxSteps := 1000000) (disch := first | assumption | decide | with_unfolding_all rfl | omega | (simp only [LN] <;> omega) | (simp only [RO, OF])) only [RR, RM, LN, TT, d11_at, ↓reduceIte, Nat.reduceEqDiff, Nat.reduceLT, Nat.reduceLeDiff, Nat.reduceAdd, Nat.reduceSub, Nat.reduceMul, Nat.reduceMod, Nat.reduceDiv, Nat.reduceBEq, RH, H29, e_h1, h2', e_h3, e_h4]
    refine J.eq go_seq ?_
    conv => arg 1; simp (maxSteps := 1000000) (disch := first | assumption | decide | with_unfolding_all rfl | omega | (simp only [LN] <;> omega) | (simp only [RO, OF])) only [RR, RM, LN, TT, d11_at, ↓reduceIte, Nat.reduceEqDiff, Nat.reduceLT, Nat.reduceLeDiff, Nat.reduceAdd, Nat.reduceSub, Nat.reduceMul, Nat.reduceMod, Nat.reduceDiv, Nat.reduceBEq, RH, H29, e_h1, h2', e_h3, e_h4]
    refine J.ite (fun h5 => ?_) (fun h5 => ?_)
    · have h5' := decide_eq_true h5
      conv => arg 1; simp (maxSteps := 1000000) (disch := first | assumption | decide | with_unfolding_all rfl | omega | (simp only [LN] <;> omega) | (simp only [RO, OF])) only [RR, RM, LN, TT, d11_at, ↓reduceIte, Nat.reduceEqDiff, Nat.reduceLT, Nat.reduceLeDiff, Nat.reduceAdd, Nat.reduceSub, Nat.reduceMul, Nat.reduceMod, Nat.reduceDiv, Nat.reduceBEq, RH, H29, e_h1, h2', e_h3, e_h4, h5']
      refine J.ite (fun h6 => ?_) (fun h6 => ?_)
      · have h6' := decide_eq_true h6
        refine J.bind fun x5 h7 => ?_
        have e_h7 := H50_0 _ _ _ h7
        try simp only [NN, NT, LN] at e_h7
        conv => arg 1; simp (maxSteps := 1000000) (disch := first | assumption | decide | with_unfolding_all rfl | omega | (simp only [LN] <;> omega) | (simp only [RO, OF])) only [RR, RM, LN, TT, d11_at, ↓reduceIte, Nat.reduceEqDiff, Nat.reduceLT, Nat.reduceLeDiff, Nat.reduceAdd, Nat.reduceSub, Nat.reduceMul, Nat.reduceMod, Nat.reduceDiv, Nat.reduceBEq, RH, H29, e_h1, h2', e_h3, e_h4, h5', h6', e_h7]
        refine J.ite (fun h8 => ?_) (fun h8 => ?_)
        · have h8' : x5 = true := h8
          refine J.bind fun x6 h9 => ?_
          have e_h9 := H34_0 _ _ h9
          try simp only [NN, NT, LN] at e_h9
          conv => arg 1; simp (maxSteps := 1000000) (disch := first | assumption | decide | with_unfolding_all rfl | omega | (simp only [LN] <;> omega) | (simp only [RO, OF])) only [RR, RM, LN, TT, d11_at, ↓reduceIte, Nat.reduceEqDiff, Nat.reduceLT, Nat.reduceLeDiff, Nat.reduceAdd, Nat.reduceSub, Nat.reduceMul, Nat.reduceMod, Nat.reduceDiv, Nat.reduceBEq, RH, H29, e_h1, h2', e_h3, e_h4, h5', h6', e_h7, h8', e_h9]
          refine J.eq ret_seq ?_
          refine J.some ?_
          simp (disch := first | assumption | decide | with_unfolding_all rfl | omega | (simp only [LN] <;> omega) | (simp only [RO, OF])) only [RR, RM, LN, TT, d11_at, ↓reduceIte, Nat.reduceEqDiff, Nat.reduceLT, Nat.reduceLeDiff, Nat.reduceAdd, Nat.reduceSub, Nat.reduceMul, Nat.reduceMod, Nat.reduceDiv, Nat.reduceBEq, RH, H29, e_h1, h2', e_h3, e_h4, h5', h6', e_h7, h8', e_h9, FF, LN, NN, NT]
        · have h8' : x5 = false := Bool.eq_false_iff.2 h8
          conv => arg 1; simp (maxSteps := 1000000) (disch := first | assumption | decide | with_unfolding_all rfl | omega | (simp only [LN] <;> omega) | (simp only [RO, OF])) only [RR, RM, LN, TT, d11_at, ↓reduceIte, Nat.reduceEqDiff, Nat.reduceLT, Nat.reduceLeDiff, Nat.reduceAdd, Nat.reduceSub, Nat.reduceMul, Nat.reduceMod, Nat.reduceDiv, Nat.reduceBEq, RH, H29, e_h1, h2', e_h3, e_h4, h5', h6', e_h7, h8']
          refine J.eq ret_seq ?_
          refine J.some ?_
          simp (disch := first | assumption | decide | with_unfolding_all rfl | omega | (simp only [LN] <;> omega) | (simp only [RO, OF])) only [RR, RM, LN, TT, d11_at, ↓reduceIte, Nat.reduceEqDiff, Nat.reduceLT, Nat.reduceLeDiff, Nat.reduceAdd, Nat.reduceSub, Nat.reduceMul, Nat.reduceMod, Nat.reduceDiv, Nat.reduceBEq, RH, H29, e_h1, h2', e_h3, e_h4, h5', h6', e_h7, h8', FF, LN, NN, NT]
      · have h6' := decide_eq_false h6
        conv => arg 1; simp (maxSteps := 1000000) (disch := first | assumption | decide | with_unfolding_all rfl | omega | (simp only [LN] <;> omega) | (simp only [RO, OF])) only [RR, RM, LN, TT, d11_at, ↓reduceIte, Nat.reduceEqDiff, Nat.reduceLT, Nat.reduceLeDiff, Nat.reduceAdd, Nat.reduceSub, Nat.reduceMul, Nat.reduceMod, Nat.reduceDiv, Nat.reduceBEq, RH, H29, e_h1, h2', e_h3, e_h4, h5', h6']
        refine J.eq ret_seq ?_
        refine J.some ?_
        simp (disch := first | assumption | decide | with_unfolding_all rfl | omega | (simp only [LN] <;> omega) | (simp only [RO, OF])) only [RR, RM, LN, TT, d11_at, ↓reduceIte, Nat.reduceEqDiff, Nat.reduceLT, Nat.reduceLeDiff, Nat.reduceAdd, Nat.reduceSub, Nat.reduceMul, Nat.reduceMod, Nat.reduceDiv, Nat.reduceBEq, RH, H29, e_h1, h2', e_h3, e_h4, h5', h6', FF, LN, NN, NT]
    · have h5' := decide_eq_false h5
      conv => arg 1; simp (maxSteps := 1000000) (disch := first | assumption | decide | with_unfolding_all rfl | omega | (simp only [LN] <;> omega) | (simp only [RO, OF])) only [RR, RM, LN, TT, d11_at, ↓reduceIte, Nat.reduceEqDiff, Nat.reduceLT, Nat.reduceLeDiff, Nat.reduceAdd, Nat.reduceSub, Nat.reduceMul, Nat.reduceMod, Nat.reduceDiv, Nat.reduceBEq, RH, H29, e_h1, h2', e_h3, e_h4, h5']
      refine J.eq ret_seq ?_
      refine J.some ?_
      simp (disch := first | assumption | decide | with_unfolding_all rfl | omega | (simp only [LN] <;> omega) | (simp only [RO, OF])) only [RR, RM, LN, TT, d11_at, ↓reduceIte, Nat.reduceEqDiff, Nat.reduceLT, Nat.reduceLeDiff, Nat.reduceAdd, Nat.reduceSub, Nat.reduceMul, Nat.reduceMod, Nat.reduceDiv, Nat.reduceBEq, RH, H29, e_h1, h2', e_h3, e_h4, h5', FF, LN, NN, NT]
  · have h2' := decide_eq_false h2
    conv => arg 1; simp (maxSteps := 1000000) (disch := first | assumption | decide | with_unfolding_all rfl | omega | (simp only [LN] <;> omega) | (simp only [RO, OF])) only [RR, RM, LN, TT, d11_at, ↓reduceIte, Nat.reduceEqDiff, Nat.reduceLT, Nat.reduceLeDiff, Nat.reduceAdd, Nat.reduceSub, Nat.reduceMul, Nat.reduceMod, Nat.reduceDiv, Nat.reduceBEq, RH, H29, e_h1, h2']
    refine J.joinS (fun (t : Bool) => ([(1, .ptr (0, 1, 0) 0 0), (2, .v (.bool t)), (3, .v (.bool true)), (4, .own (0, 13, 0) 0 x2.1.length x2.1.length), (5, .v (.int .i64 x2.2))], [((0, 1, 0), .bx true ([.v (.int .i64 x1.fType), .arr x1.fDims.length (lm (ik .i64) x1.fDims), .arr x1.fF.length (lm (ik .u32) x1.fF), .arr x1.fI.length (lm (ik .i64) x1.fI), .arr x1.fB.length (lm (bk) x1.fB)])), ((0, 13, 0), .sl true true 1 x2.1.length (lm (ik .u8) x2.1))])) (fun t => law05_TensBack_k1 fu t) ?_ (fun hj1 => ?_)
    · rintro x7
      show J _ (law05_TensBack_k1 fu x7) _
      unfold law05_TensBack_k1
      refine J.some ?_
      simp (disch := first | assumption | decide | with_unfolding_all rfl | omega | (simp only [LN] <;> omega) | (simp only [RO, OF])) only [RR, RM, LN, TT, d11_at, ↓reduceIte, Nat.reduceEqDiff, Nat.reduceLT, Nat.reduceLeDiff, Nat.reduceAdd, Nat.reduceSub, Nat.reduceMul, Nat.reduceMod, Nat.reduceDiv, Nat.reduceBEq, RH, H29, e_h1, h2', FF, LN, NN, NT]
    · refine J.bind fun x8 h10 => ?_
      have e_h10 := H48_0 _ _ h10
      try simp only [NN, NT, LN] at e_h10
      conv => arg 1; simp (maxSteps := 1000000) (disch := first | assumption | decide | with_unfolding_all rfl | omega | (simp only [LN] <;> omega) | (simp only [RO, OF])) only [RR, RM, LN, TT, d11_at, ↓reduceIte, Nat.reduceEqDiff, Nat.reduceLT, Nat.reduceLeDiff, Nat.reduceAdd, Nat.reduceSub, Nat.reduceMul, Nat.reduceMod, Nat.reduceDiv, Nat.reduceBEq, RH, H29, e_h1, h2', e_h10]
      refine J.ite (fun h11 => ?_) (fun h11 => ?_)
      · have h11' := decide_eq_true h11
        conv => arg 1; simp (maxSteps := 1000000) (disch := first | assumption | decide | with_unfolding_all rfl | omega | (simp only [LN] <;> omega) | (simp only [RO, OF])) only [RR, RM, LN, TT, d11_at, ↓reduceIte, Nat.reduceEqDiff, Nat.reduceLT, Nat.reduceLeDiff, Nat.reduceAdd, Nat.reduceSub, Nat.reduceMul, Nat.reduceMod, Nat.reduceDiv, Nat.reduceBEq, RH, H29, e_h1, h2', e_h10, h11']
        refine J.jmp (t := decide (((x2.1.length : Nat) : Int) = 0)) hj1 ?_ ?_
        · first | rfl | (simp only [LN, NN, NT])
        · first | (simp (disch := first | assumption | decide | with_unfolding_all rfl | omega | (simp only [LN] <;> omega) | (simp only [RO, OF])) only [RR, ↓reduceIte, Nat.reduceEqDiff, Nat.reduceLT, Nat.reduceLeDiff, Nat.reduceAdd, Nat.reduceSub, Nat.reduceMul, Nat.reduceMod, Nat.reduceDiv, Nat.reduceBEq, LN, NN, NT]; done) | rfl
      · have h11' := decide_eq_false h11
        conv => arg 1; simp (maxSteps := 1000000) (disch := first | assumption | decide | with_unfolding_all rfl | omega | (simp only [LN] <;> omega) | (simp only [RO, OF])) only [RR, RM, LN, TT, d11_at, ↓reduceIte, Nat.reduceEqDiff, Nat.reduceLT, Nat.reduceLeDiff, Nat.reduceAdd, Nat.reduceSub, Nat.reduceMul, Nat.reduceMod, Nat.reduceDiv, Nat.reduceBEq, RH, H29, e_h1, h2', e_h10, h11']
        refine J.jmp (t := false) hj1 ?_ ?_
        · first | rfl | (simp only [LN, NN, NT])
        · first | (simp (disch := first | assumption | decide | with_unfolding_all rfl | omega | (simp only [LN] <;> omega) | (simp only [RO, OF])) only [RR, ↓reduceIte, Nat.reduceEqDiff, Nat.reduceLT, Nat.reduceLeDiff, Nat.reduceAdd, Nat.reduceSub, Nat.reduceMul, Nat.reduceMod, Nat.reduceDiv, Nat.reduceBEq, LN, NN, NT]; done) | rfl
noncomputable def t11 (fu : Nat) : CallP := orE 29 (mkC (fun (_ : Unit) => ([] : List AV)) (fun _ => some true) (fun b => .v (.bool b))) (orE 41 (mkC (fun (t : T_Tensor) => ([.agg (c_T_Tensor t)] : List AV)) (fun t => tens_Bytes fu t) e41) (orE 43 (mkC (fun (t : Int × (List Int) × (List Int)) => ([.v (.int .i64 t.1), .arr t.2.1.length (lm (ik .i64) t.2.1), .arr t.2.2.length (lm (ik .u8) t.2.2)] : List AV)) (fun t => tens_FromBytes fu t.1 t.2.1 t.2.2) e43) (orE 16 (mkC (fun (t : List Int) => ([.arr t.length (lm (ik .i64) t)] : List AV)) (fun t => ref04_Size fu t) e16) (orE 50 (mkC (fun (t : T_Tensor × T_Tensor) => ([.agg (c_T_Tensor t.1), .agg (c_T_Tensor t.2)] : List AV)) (fun t => tens_Same fu t.1 t.2) e50) (orE 34 (mkC (fun (t : Int) => ([.v (.int .i64 t)] : List AV)) (fun t => tens_Width fu t) e34) (orE 48 (mkC (fun (t : T_Tensor) => ([.agg (c_T_Tensor t)] : List AV)) (fun t => tens_Check fu t) e48) (noP)))))))
theorem t11_ok (fu : Nat) : CpOK Try.prog (t11 fu ) := orE_ok (orE_ok (orE_ok (orE_ok (orE_ok (orE_ok (orE_ok (noP_ok) (mkC_ok (fun t b h => ok48 fu t  b h))) (mkC_ok (fun t b h => ok34 fu t  b h))) (mkC_ok (fun t b h => ok50 fu t.1 t.2  b h))) (mkC_ok (fun t b h => ok16 fu t  b h))) (mkC_ok (fun t b h => ok43 fu t.1 t.2.1 t.2.2  b h))) (mkC_ok (fun t b h => ok41 fu t  b h))) (mkC_ok (fun _ b h => by injection h with h; subst h; exact awake29))
theorem ok11 (fu : Nat) (x1 : T_Tensor) (r) (h : law05_TensBack fu x1 = some r) : PureOK Try.prog 11 [.agg (c_T_Tensor x1)] (e11 r) :=
  pure_J mixed (cp := t11 fu ) (t11_ok fu  ) noI_ok i11 (w11 _ fu x1  (orE_hit (mkC_at (a := ()) (fun _ _ _ => rfl) rfl)) (fun a0 r h => orE_miss (by decide) (orE_hit (mkC_at (a := a0) (by intro a b h; first | (exact rfl) | (simp only [INJ, c_inj_iff c_T_Tensor_inj, lm_inj_iff (inj_avf (inj_fm c_T_Tensor_len (by decide) c_T_Tensor_inj)), fm_inj_iff (inj_fm c_T_Tensor_len (by decide) c_T_Tensor_inj)] at h; first | exact h | (simp_all [Prod.ext_iff]) )) h))) (fun a0 a1 a2 r h => orE_miss (by decide) (orE_miss (by decide) (orE_hit (mkC_at (a := (a0, a1, a2)) (by intro a b h; first | (exact rfl) | (simp only [INJ, c_inj_iff c_T_Tensor_inj, lm_inj_iff (inj_avf (inj_fm c_T_Tensor_len (by decide) c_T_Tensor_inj)), fm_inj_iff (inj_fm c_T_Tensor_len (by decide) c_T_Tensor_inj)] at h; first | exact h | (simp_all [Prod.ext_iff]) )) h)))) (fun a0 r h => orE_miss (by decide) (orE_miss (by decide) (orE_miss (by decide) (orE_hit (mkC_at (a := a0) (by intro a b h; first | (exact rfl) | (simp only [INJ, c_inj_iff c_T_Tensor_inj, lm_inj_iff (inj_avf (inj_fm c_T_Tensor_len (by decide) c_T_Tensor_inj)), fm_inj_iff (inj_fm c_T_Tensor_len (by decide) c_T_Tensor_inj)] at h; first | exact h | (simp_all [Prod.ext_iff]) )) h))))) (fun a0 a1 r h => orE_miss (by decide) (orE_miss (by decide) (orE_miss (by decide) (orE_miss (by decide) (orE_hit (mkC_at (a := (a0, a1)) (by intro a b h; first | (exact rfl) | (simp only [INJ, c_inj_iff c_T_Tensor_inj, lm_inj_iff (inj_avf (inj_fm c_T_Tensor_len (by decide) c_T_Tensor_inj)), fm_inj_iff (inj_fm c_T_Tensor_len (by decide) c_T_Tensor_inj)] at h; first | exact h | (simp_all [Prod.ext_iff]) )) h)))))) (fun a0 r h => orE_miss (by decide) (orE_miss (by decide) (orE_miss (by decide) (orE_miss (by decide) (orE_miss (by decide) (orE_hit (mkC_at (a := a0) (by intro a b h; first | (exact rfl) | (simp only [INJ, c_inj_iff c_T_Tensor_inj, lm_inj_iff (inj_avf (inj_fm c_T_Tensor_len (by decide) c_T_Tensor_inj)), fm_inj_iff (inj_fm c_T_Tensor_len (by decide) c_T_Tensor_inj)] at h; first | exact h | (simp_all [Prod.ext_iff]) )) h))))))) (fun a0 r h => orE_miss (by decide) (orE_miss (by decide) (orE_miss (by decide) (orE_miss (by decide) (orE_miss (by decide) (orE_miss (by decide) (orE_hit (mkC_at (a := a0) (by intro a b h; first | (exact rfl) | (simp only [INJ, c_inj_iff c_T_Tensor_inj, lm_inj_iff (inj_avf (inj_fm c_T_Tensor_len (by decide) c_T_Tensor_inj)), fm_inj_iff (inj_fm c_T_Tensor_len (by decide) c_T_Tensor_inj)] at h; first | exact h | (simp_all [Prod.ext_iff]) )) h))))))))) h
end Go.Av
