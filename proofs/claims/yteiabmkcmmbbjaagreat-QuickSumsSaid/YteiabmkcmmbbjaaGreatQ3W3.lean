/- The walks of the plain functions, part 3. Made by a program of mine. Conditions: none. -/
import Derived.Test.YteiabmkcmmbbjaaGreatQ3W2
set_option linter.unusedVariables false
set_option linter.unusedSimpArgs false
set_option linter.defProp false
set_option maxRecDepth 4000
open Go Go.Proofs
namespace Go.Av
/-! 38: lattice/soft.MulBy -/
def d38 : List (Nat × List Nat) := [(0, [6]), (0, []), (0, [1, 2, 10, 11, 12, 13]), (0, []), (0, [14, 15, 16, 17, 18]), (0, []), (0, [20, 21, 22, 23, 24, 25, 26, 27, 28, 29, 30, 31, 32, 33, 34, 35, 36, 37, 38, 39, 40, 41, 42, 43, 44, 45, 46, 47, 48, 49, 50, 51, 52, 53]), (0, []), (0, []), (0, []), (0, [55, 56, 57, 58, 59, 60]), (0, []), (0, [61, 62, 63]), (0, []), (0, [0, 7, 8, 9, 64, 65, 66, 67, 68, 69, 70, 71, 72, 73, 74, 75, 76])]
def d38_at := And.intro (show d38.getD 0 (0, []) = (0, [6]) from rfl) <| And.intro (show d38.getD 1 (0, []) = (0, []) from rfl) <| And.intro (show d38.getD 2 (0, []) = (0, [1, 2, 10, 11, 12, 13]) from rfl) <| And.intro (show d38.getD 3 (0, []) = (0, []) from rfl) <| And.intro (show d38.getD 4 (0, []) = (0, [14, 15, 16, 17, 18]) from rfl) <| And.intro (show d38.getD 5 (0, []) = (0, []) from rfl) <| And.intro (show d38.getD 6 (0, []) = (0, [20, 21, 22, 23, 24, 25, 26, 27, 28, 29, 30, 31, 32, 33, 34, 35, 36, 37, 38, 39, 40, 41, 42, 43, 44, 45, 46, 47, 48, 49, 50, 51, 52, 53]) from rfl) <| And.intro (show d38.getD 7 (0, []) = (0, []) from rfl) <| And.intro (show d38.getD 8 (0, []) = (0, []) from rfl) <| And.intro (show d38.getD 9 (0, []) = (0, []) from rfl) <| And.intro (show d38.getD 10 (0, []) = (0, [55, 56, 57, 58, 59, 60]) from rfl) <| And.intro (show d38.getD 11 (0, []) = (0, []) from rfl) <| And.intro (show d38.getD 12 (0, []) = (0, [61, 62, 63]) from rfl) <| And.intro (show d38.getD 13 (0, []) = (0, []) from rfl) <| (show d38.getD 14 (0, []) = (0, [0, 7, 8, 9, 64, 65, 66, 67, 68, 69, 70, 71, 72, 73, 74, 75, 76]) from rfl)
theorem i38 : finfo Tryz.prog 38 d38 = some ⟨bodyOf Tryz.f38, [.tmp 6], [24]⟩ := finfo_at Tryz.func38 rfl (by kernel_rfl) (by kernel_rfl)
def e38 : Int → AV := fun r => .v (.int .u32 r)
set_option maxHeartbeats 20000000 in
theorem w38 (cp : CallP) (fu : Nat) (x1 : Int) (x2 : Int) (x3 : Int) (H68_0 : ∀ (a0 : Int) r, soft_open fu a0 = some r → cp 68 [.v (.int .u32 a0)] = some (.agg [.v (.bool r.fneg), .v (.bool r.fnan), .v (.bool r.finf), .v (.int .i64 r.fexp), .v (.int .u64 r.fsig)])) (H71_0 : ∀ (a0 : Bool) r, soft_sign fu a0 = some r → cp 71 [.v (.bool a0)] = some (.v (.int .u32 r))) (H70_0 : ∀ (a0 : Int) (a1 : Bool) (a2 : Int) (a3 : Int) (a4 : Bool) r, soft_Round fu a0 a1 a2 a3 a4 = some r → cp 70 [.v (.int .i64 a0), .v (.bool a1), .v (.int .i64 a2), .v (.int .u64 a3), .v (.bool a4)] = some (.v (.int .u32 r))) : J (go Tryz.prog noC cp noI 0 [] d38 fu (fin Tryz.prog [.tmp 6] [24]) (bodyOf Tryz.f38) (initE 0 [.v (.int .i64 x1), .v (.int .u32 x2), .v (.int .u32 x3)]) [] []) (soft_MulBy fu x1 x2 x3) e38 := by
  unfold soft_MulBy e38
  refine J.bind fun x4 h1 => ?_
  have e_h1 := H68_0 _ _ h1
  try simp only [NN, NT, LN] at e_h1
  refine J.bind fun x5 h2 => ?_
  have e_h2 := H68_0 _ _ h2
  try simp only [NN, NT, LN] at e_h2
  conv => arg 1; simp (maxSteps := 1000000) (disch := first | assumption | decide | with_unfolding_all rfl | omega | (simp only [LN] <;> omega) | (simp only [RO, OF])) only [bodyOf, Tryz.f38, RR, RM, LN, TT, d38_at, ↓reduceIte, Nat.reduceEqDiff, Nat.reduceLT, Nat.reduceLeDiff, Nat.reduceAdd, Nat.reduceSub, Nat.reduceMul, Nat.reduceMod, Nat.reduceDiv, Nat.reduceBEq, RH, e_h1, e_h2]
  refine J.joinS (fun (t : Unit) => ([(0, .v (.int .i64 x1)), (7, .ptr (0, 7, 0) 0 0), (8, .ptr (0, 8, 0) 0 0), (9, .v (.bool (!(x4.fneg == x5.fneg))))], [((0, 7, 0), .bx true ([.v (.bool x4.fneg), .v (.bool false), .v (.bool false), .v (.int .i64 x4.fexp), .v (.int .u64 x4.fsig)])), ((0, 8, 0), .bx true ([.v (.bool x5.fneg), .v (.bool false), .v (.bool false), .v (.int .i64 x5.fexp), .v (.int .u64 x5.fsig)]))])) (fun t => soft_MulBy_k1 fu x1 x4 x5) ?_ (fun hj1 => ?_)
  · rintro ⟨⟩
    show J _ (soft_MulBy_k1 fu x1 x4 x5) _
    unfold soft_MulBy_k1
    refine J.bind fun x6 h3 => ?_
    have e_h3 := H70_0 _ _ _ _ _ _ h3
    try simp only [NN, NT, LN] at e_h3
    refine J.some ?_
    simp (maxSteps := 20000000) (disch := first | assumption | decide | with_unfolding_all rfl | omega | (simp only [LN] <;> omega) | (simp only [RO, OF])) only [RR, RM, LN, TT, d38_at, ↓reduceIte, Nat.reduceEqDiff, Nat.reduceLT, Nat.reduceLeDiff, Nat.reduceAdd, Nat.reduceSub, Nat.reduceMul, Nat.reduceMod, Nat.reduceDiv, Nat.reduceBEq, RH, e_h1, e_h2, e_h3, FF, LN, NN, NT]
  · conv => arg 1; simp (maxSteps := 1000000) (disch := first | assumption | decide | with_unfolding_all rfl | omega | (simp only [LN] <;> omega) | (simp only [RO, OF])) only [RR, RM, LN, TT, d38_at, ↓reduceIte, Nat.reduceEqDiff, Nat.reduceLT, Nat.reduceLeDiff, Nat.reduceAdd, Nat.reduceSub, Nat.reduceMul, Nat.reduceMod, Nat.reduceDiv, Nat.reduceBEq, RH, e_h1, e_h2]
    refine J.eq go_seq ?_
    conv => arg 1; simp (maxSteps := 1000000) (disch := first | assumption | decide | with_unfolding_all rfl | omega | (simp only [LN] <;> omega) | (simp only [RO, OF])) only [RR, RM, LN, TT, d38_at, ↓reduceIte, Nat.reduceEqDiff, Nat.reduceLT, Nat.reduceLeDiff, Nat.reduceAdd, Nat.reduceSub, Nat.reduceMul, Nat.reduceMod, Nat.reduceDiv, Nat.reduceBEq, RH, e_h1, e_h2]
    refine J.ite (fun h4 => ?_) (fun h4 => ?_)
    · have h4' : x4.fnan = true := h4
      conv => arg 1; simp (maxSteps := 1000000) (disch := first | assumption | decide | with_unfolding_all rfl | omega | (simp only [LN] <;> omega) | (simp only [RO, OF])) only [RR, RM, LN, TT, d38_at, ↓reduceIte, Nat.reduceEqDiff, Nat.reduceLT, Nat.reduceLeDiff, Nat.reduceAdd, Nat.reduceSub, Nat.reduceMul, Nat.reduceMod, Nat.reduceDiv, Nat.reduceBEq, RH, e_h1, e_h2, h4']
      refine J.eq ret_seq ?_
      refine J.some ?_
      simp (maxSteps := 20000000) (disch := first | assumption | decide | with_unfolding_all rfl | omega | (simp only [LN] <;> omega) | (simp only [RO, OF])) only [RR, RM, LN, TT, d38_at, ↓reduceIte, Nat.reduceEqDiff, Nat.reduceLT, Nat.reduceLeDiff, Nat.reduceAdd, Nat.reduceSub, Nat.reduceMul, Nat.reduceMod, Nat.reduceDiv, Nat.reduceBEq, RH, e_h1, e_h2, h4', FF, LN, NN, NT]
    · have h4' : x4.fnan = false := Bool.eq_false_iff.2 h4
      conv => arg 1; simp (maxSteps := 1000000) (disch := first | assumption | decide | with_unfolding_all rfl | omega | (simp only [LN] <;> omega) | (simp only [RO, OF])) only [RR, RM, LN, TT, d38_at, ↓reduceIte, Nat.reduceEqDiff, Nat.reduceLT, Nat.reduceLeDiff, Nat.reduceAdd, Nat.reduceSub, Nat.reduceMul, Nat.reduceMod, Nat.reduceDiv, Nat.reduceBEq, RH, e_h1, e_h2, h4']
      refine J.ite (fun h5 => ?_) (fun h5 => ?_)
      · have h5' : x5.fnan = true := h5
        conv => arg 1; simp (maxSteps := 1000000) (disch := first | assumption | decide | with_unfolding_all rfl | omega | (simp only [LN] <;> omega) | (simp only [RO, OF])) only [RR, RM, LN, TT, d38_at, ↓reduceIte, Nat.reduceEqDiff, Nat.reduceLT, Nat.reduceLeDiff, Nat.reduceAdd, Nat.reduceSub, Nat.reduceMul, Nat.reduceMod, Nat.reduceDiv, Nat.reduceBEq, RH, e_h1, e_h2, h4', h5']
        refine J.eq ret_seq ?_
        refine J.some ?_
        simp (maxSteps := 20000000) (disch := first | assumption | decide | with_unfolding_all rfl | omega | (simp only [LN] <;> omega) | (simp only [RO, OF])) only [RR, RM, LN, TT, d38_at, ↓reduceIte, Nat.reduceEqDiff, Nat.reduceLT, Nat.reduceLeDiff, Nat.reduceAdd, Nat.reduceSub, Nat.reduceMul, Nat.reduceMod, Nat.reduceDiv, Nat.reduceBEq, RH, e_h1, e_h2, h4', h5', FF, LN, NN, NT]
      · have h5' : x5.fnan = false := Bool.eq_false_iff.2 h5
        conv => arg 1; simp (maxSteps := 1000000) (disch := first | assumption | decide | with_unfolding_all rfl | omega | (simp only [LN] <;> omega) | (simp only [RO, OF])) only [RR, RM, LN, TT, d38_at, ↓reduceIte, Nat.reduceEqDiff, Nat.reduceLT, Nat.reduceLeDiff, Nat.reduceAdd, Nat.reduceSub, Nat.reduceMul, Nat.reduceMod, Nat.reduceDiv, Nat.reduceBEq, RH, e_h1, e_h2, h4', h5']
        refine J.ite (fun h6 => ?_) (fun h6 => ?_)
        · have h6' : x4.finf = true := h6
          conv => arg 1; simp (maxSteps := 1000000) (disch := first | assumption | decide | with_unfolding_all rfl | omega | (simp only [LN] <;> omega) | (simp only [RO, OF])) only [RR, RM, LN, TT, d38_at, ↓reduceIte, Nat.reduceEqDiff, Nat.reduceLT, Nat.reduceLeDiff, Nat.reduceAdd, Nat.reduceSub, Nat.reduceMul, Nat.reduceMod, Nat.reduceDiv, Nat.reduceBEq, RH, e_h1, e_h2, h4', h5', h6']
          refine J.ite (fun h7 => ?_) (fun h7 => ?_)
          · have h7' : x5.finf = true := h7
            conv => arg 1; simp (maxSteps := 1000000) (disch := first | assumption | decide | with_unfolding_all rfl | omega | (simp only [LN] <;> omega) | (simp only [RO, OF])) only [RR, RM, LN, TT, d38_at, ↓reduceIte, Nat.reduceEqDiff, Nat.reduceLT, Nat.reduceLeDiff, Nat.reduceAdd, Nat.reduceSub, Nat.reduceMul, Nat.reduceMod, Nat.reduceDiv, Nat.reduceBEq, RH, e_h1, e_h2, h4', h5', h6', h7']
            refine J.eq ret_seq ?_
            conv => arg 1; simp (maxSteps := 1000000) (disch := first | assumption | decide | with_unfolding_all rfl | omega | (simp only [LN] <;> omega) | (simp only [RO, OF])) only [RR, RM, LN, TT, d38_at, ↓reduceIte, Nat.reduceEqDiff, Nat.reduceLT, Nat.reduceLeDiff, Nat.reduceAdd, Nat.reduceSub, Nat.reduceMul, Nat.reduceMod, Nat.reduceDiv, Nat.reduceBEq, RH, e_h1, e_h2, h4', h5', h6', h7']
            refine J.eq go_seq ?_
            conv => arg 1; simp (maxSteps := 1000000) (disch := first | assumption | decide | with_unfolding_all rfl | omega | (simp only [LN] <;> omega) | (simp only [RO, OF])) only [RR, RM, LN, TT, d38_at, ↓reduceIte, Nat.reduceEqDiff, Nat.reduceLT, Nat.reduceLeDiff, Nat.reduceAdd, Nat.reduceSub, Nat.reduceMul, Nat.reduceMod, Nat.reduceDiv, Nat.reduceBEq, RH, e_h1, e_h2, h4', h5', h6', h7']
            refine J.eq ret_seq ?_
            refine J.bind fun x7 h8 => ?_
            have e_h8 := H71_0 _ _ h8
            try simp only [NN, NT, LN] at e_h8
            refine J.some ?_
            simp (maxSteps := 20000000) (disch := first | assumption | decide | with_unfolding_all rfl | omega | (simp only [LN] <;> omega) | (simp only [RO, OF])) only [RR, RM, LN, TT, d38_at, ↓reduceIte, Nat.reduceEqDiff, Nat.reduceLT, Nat.reduceLeDiff, Nat.reduceAdd, Nat.reduceSub, Nat.reduceMul, Nat.reduceMod, Nat.reduceDiv, Nat.reduceBEq, RH, e_h1, e_h2, h4', h5', h6', h7', e_h8, FF, LN, NN, NT]
          · have h7' : x5.finf = false := Bool.eq_false_iff.2 h7
            conv => arg 1; simp (maxSteps := 1000000) (disch := first | assumption | decide | with_unfolding_all rfl | omega | (simp only [LN] <;> omega) | (simp only [RO, OF])) only [RR, RM, LN, TT, d38_at, ↓reduceIte, Nat.reduceEqDiff, Nat.reduceLT, Nat.reduceLeDiff, Nat.reduceAdd, Nat.reduceSub, Nat.reduceMul, Nat.reduceMod, Nat.reduceDiv, Nat.reduceBEq, RH, e_h1, e_h2, h4', h5', h6', h7']
            refine J.ite (fun h9 => ?_) (fun h9 => ?_)
            · have h9' := decide_eq_true h9
              conv => arg 1; simp (maxSteps := 1000000) (disch := first | assumption | decide | with_unfolding_all rfl | omega | (simp only [LN] <;> omega) | (simp only [RO, OF])) only [RR, RM, LN, TT, d38_at, ↓reduceIte, Nat.reduceEqDiff, Nat.reduceLT, Nat.reduceLeDiff, Nat.reduceAdd, Nat.reduceSub, Nat.reduceMul, Nat.reduceMod, Nat.reduceDiv, Nat.reduceBEq, RH, e_h1, e_h2, h4', h5', h6', h7', h9']
              refine J.eq ret_seq ?_
              refine J.some ?_
              simp (maxSteps := 20000000) (disch := first | assumption | decide | with_unfolding_all rfl | omega | (simp only [LN] <;> omega) | (simp only [RO, OF])) only [RR, RM, LN, TT, d38_at, ↓reduceIte, Nat.reduceEqDiff, Nat.reduceLT, Nat.reduceLeDiff, Nat.reduceAdd, Nat.reduceSub, Nat.reduceMul, Nat.reduceMod, Nat.reduceDiv, Nat.reduceBEq, RH, e_h1, e_h2, h4', h5', h6', h7', h9', FF, LN, NN, NT]
            · have h9' := decide_eq_false h9
              conv => arg 1; simp (maxSteps := 1000000) (disch := first | assumption | decide | with_unfolding_all rfl | omega | (simp only [LN] <;> omega) | (simp only [RO, OF])) only [RR, RM, LN, TT, d38_at, ↓reduceIte, Nat.reduceEqDiff, Nat.reduceLT, Nat.reduceLeDiff, Nat.reduceAdd, Nat.reduceSub, Nat.reduceMul, Nat.reduceMod, Nat.reduceDiv, Nat.reduceBEq, RH, e_h1, e_h2, h4', h5', h6', h7', h9']
              refine J.eq ret_seq ?_
              conv => arg 1; simp (maxSteps := 1000000) (disch := first | assumption | decide | with_unfolding_all rfl | omega | (simp only [LN] <;> omega) | (simp only [RO, OF])) only [RR, RM, LN, TT, d38_at, ↓reduceIte, Nat.reduceEqDiff, Nat.reduceLT, Nat.reduceLeDiff, Nat.reduceAdd, Nat.reduceSub, Nat.reduceMul, Nat.reduceMod, Nat.reduceDiv, Nat.reduceBEq, RH, e_h1, e_h2, h4', h5', h6', h7', h9']
              refine J.eq go_seq ?_
              conv => arg 1; simp (maxSteps := 1000000) (disch := first | assumption | decide | with_unfolding_all rfl | omega | (simp only [LN] <;> omega) | (simp only [RO, OF])) only [RR, RM, LN, TT, d38_at, ↓reduceIte, Nat.reduceEqDiff, Nat.reduceLT, Nat.reduceLeDiff, Nat.reduceAdd, Nat.reduceSub, Nat.reduceMul, Nat.reduceMod, Nat.reduceDiv, Nat.reduceBEq, RH, e_h1, e_h2, h4', h5', h6', h7', h9']
              refine J.eq ret_seq ?_
              refine J.bind fun x8 h10 => ?_
              have e_h10 := H71_0 _ _ h10
              try simp only [NN, NT, LN] at e_h10
              refine J.some ?_
              simp (maxSteps := 20000000) (disch := first | assumption | decide | with_unfolding_all rfl | omega | (simp only [LN] <;> omega) | (simp only [RO, OF])) only [RR, RM, LN, TT, d38_at, ↓reduceIte, Nat.reduceEqDiff, Nat.reduceLT, Nat.reduceLeDiff, Nat.reduceAdd, Nat.reduceSub, Nat.reduceMul, Nat.reduceMod, Nat.reduceDiv, Nat.reduceBEq, RH, e_h1, e_h2, h4', h5', h6', h7', h9', e_h10, FF, LN, NN, NT]
        · have h6' : x4.finf = false := Bool.eq_false_iff.2 h6
          conv => arg 1; simp (maxSteps := 1000000) (disch := first | assumption | decide | with_unfolding_all rfl | omega | (simp only [LN] <;> omega) | (simp only [RO, OF])) only [RR, RM, LN, TT, d38_at, ↓reduceIte, Nat.reduceEqDiff, Nat.reduceLT, Nat.reduceLeDiff, Nat.reduceAdd, Nat.reduceSub, Nat.reduceMul, Nat.reduceMod, Nat.reduceDiv, Nat.reduceBEq, RH, e_h1, e_h2, h4', h5', h6']
          refine J.ite (fun h11 => ?_) (fun h11 => ?_)
          · have h11' : x5.finf = true := h11
            conv => arg 1; simp (maxSteps := 1000000) (disch := first | assumption | decide | with_unfolding_all rfl | omega | (simp only [LN] <;> omega) | (simp only [RO, OF])) only [RR, RM, LN, TT, d38_at, ↓reduceIte, Nat.reduceEqDiff, Nat.reduceLT, Nat.reduceLeDiff, Nat.reduceAdd, Nat.reduceSub, Nat.reduceMul, Nat.reduceMod, Nat.reduceDiv, Nat.reduceBEq, RH, e_h1, e_h2, h4', h5', h6', h11']
            refine J.eq ret_seq ?_
            conv => arg 1; simp (maxSteps := 1000000) (disch := first | assumption | decide | with_unfolding_all rfl | omega | (simp only [LN] <;> omega) | (simp only [RO, OF])) only [RR, RM, LN, TT, d38_at, ↓reduceIte, Nat.reduceEqDiff, Nat.reduceLT, Nat.reduceLeDiff, Nat.reduceAdd, Nat.reduceSub, Nat.reduceMul, Nat.reduceMod, Nat.reduceDiv, Nat.reduceBEq, RH, e_h1, e_h2, h4', h5', h6', h11']
            refine J.ite (fun h12 => ?_) (fun h12 => ?_)
            · have h12' := decide_eq_true h12
              refine J.some ?_
              simp (maxSteps := 20000000) (disch := first | assumption | decide | with_unfolding_all rfl | omega | (simp only [LN] <;> omega) | (simp only [RO, OF])) only [RR, RM, LN, TT, d38_at, ↓reduceIte, Nat.reduceEqDiff, Nat.reduceLT, Nat.reduceLeDiff, Nat.reduceAdd, Nat.reduceSub, Nat.reduceMul, Nat.reduceMod, Nat.reduceDiv, Nat.reduceBEq, RH, e_h1, e_h2, h4', h5', h6', h11', h12', FF, LN, NN, NT]
            · have h12' := decide_eq_false h12
              conv => arg 1; simp (maxSteps := 1000000) (disch := first | assumption | decide | with_unfolding_all rfl | omega | (simp only [LN] <;> omega) | (simp only [RO, OF])) only [RR, RM, LN, TT, d38_at, ↓reduceIte, Nat.reduceEqDiff, Nat.reduceLT, Nat.reduceLeDiff, Nat.reduceAdd, Nat.reduceSub, Nat.reduceMul, Nat.reduceMod, Nat.reduceDiv, Nat.reduceBEq, RH, e_h1, e_h2, h4', h5', h6', h11', h12']
              refine J.eq go_seq ?_
              conv => arg 1; simp (maxSteps := 1000000) (disch := first | assumption | decide | with_unfolding_all rfl | omega | (simp only [LN] <;> omega) | (simp only [RO, OF])) only [RR, RM, LN, TT, d38_at, ↓reduceIte, Nat.reduceEqDiff, Nat.reduceLT, Nat.reduceLeDiff, Nat.reduceAdd, Nat.reduceSub, Nat.reduceMul, Nat.reduceMod, Nat.reduceDiv, Nat.reduceBEq, RH, e_h1, e_h2, h4', h5', h6', h11', h12']
              refine J.eq ret_seq ?_
              refine J.bind fun x9 h13 => ?_
              have e_h13 := H71_0 _ _ h13
              try simp only [NN, NT, LN] at e_h13
              refine J.some ?_
              simp (maxSteps := 20000000) (disch := first | assumption | decide | with_unfolding_all rfl | omega | (simp only [LN] <;> omega) | (simp only [RO, OF])) only [RR, RM, LN, TT, d38_at, ↓reduceIte, Nat.reduceEqDiff, Nat.reduceLT, Nat.reduceLeDiff, Nat.reduceAdd, Nat.reduceSub, Nat.reduceMul, Nat.reduceMod, Nat.reduceDiv, Nat.reduceBEq, RH, e_h1, e_h2, h4', h5', h6', h11', h12', e_h13, FF, LN, NN, NT]
          · have h11' : x5.finf = false := Bool.eq_false_iff.2 h11
            conv => arg 1; simp (maxSteps := 1000000) (disch := first | assumption | decide | with_unfolding_all rfl | omega | (simp only [LN] <;> omega) | (simp only [RO, OF])) only [RR, RM, LN, TT, d38_at, ↓reduceIte, Nat.reduceEqDiff, Nat.reduceLT, Nat.reduceLeDiff, Nat.reduceAdd, Nat.reduceSub, Nat.reduceMul, Nat.reduceMod, Nat.reduceDiv, Nat.reduceBEq, RH, e_h1, e_h2, h4', h5', h6', h11']
            refine J.eq ret_seq ?_
            conv => arg 1; simp (maxSteps := 1000000) (disch := first | assumption | decide | with_unfolding_all rfl | omega | (simp only [LN] <;> omega) | (simp only [RO, OF])) only [RR, RM, LN, TT, d38_at, ↓reduceIte, Nat.reduceEqDiff, Nat.reduceLT, Nat.reduceLeDiff, Nat.reduceAdd, Nat.reduceSub, Nat.reduceMul, Nat.reduceMod, Nat.reduceDiv, Nat.reduceBEq, RH, e_h1, e_h2, h4', h5', h6', h11']
            refine J.eq go_seq ?_
            conv => arg 1; simp (maxSteps := 1000000) (disch := first | assumption | decide | with_unfolding_all rfl | omega | (simp only [LN] <;> omega) | (simp only [RO, OF])) only [RR, RM, LN, TT, d38_at, ↓reduceIte, Nat.reduceEqDiff, Nat.reduceLT, Nat.reduceLeDiff, Nat.reduceAdd, Nat.reduceSub, Nat.reduceMul, Nat.reduceMod, Nat.reduceDiv, Nat.reduceBEq, RH, e_h1, e_h2, h4', h5', h6', h11']
            refine J.eq ret_seq ?_
            conv => arg 1; simp (maxSteps := 1000000) (disch := first | assumption | decide | with_unfolding_all rfl | omega | (simp only [LN] <;> omega) | (simp only [RO, OF])) only [RR, RM, LN, TT, d38_at, ↓reduceIte, Nat.reduceEqDiff, Nat.reduceLT, Nat.reduceLeDiff, Nat.reduceAdd, Nat.reduceSub, Nat.reduceMul, Nat.reduceMod, Nat.reduceDiv, Nat.reduceBEq, RH, e_h1, e_h2, h4', h5', h6', h11']
            refine J.jmp (t := ()) hj1 ?_ ?_
            · first | rfl | (simp only [LN, NN, NT])
            · first | (simp (disch := first | assumption | decide | with_unfolding_all rfl | omega | (simp only [LN] <;> omega) | (simp only [RO, OF])) only [RR, ↓reduceIte, Nat.reduceEqDiff, Nat.reduceLT, Nat.reduceLeDiff, Nat.reduceAdd, Nat.reduceSub, Nat.reduceMul, Nat.reduceMod, Nat.reduceDiv, Nat.reduceBEq, LN, NN, NT]; done) | (simp (disch := first | assumption | decide | with_unfolding_all rfl | omega | (simp only [LN] <;> omega) | (simp only [RO, OF])) only [RR, ↓reduceIte, Nat.reduceEqDiff, Nat.reduceLT, Nat.reduceLeDiff, Nat.reduceAdd, Nat.reduceSub, Nat.reduceMul, Nat.reduceMod, Nat.reduceDiv, Nat.reduceBEq, LN, fm_app, NN, NT]; done) | rfl
noncomputable def t38 (fu : Nat) : CallP := orE 68 (mkC (fun (t : Int) => ([.v (.int .u32 t)] : List AV)) (fun t => soft_open fu t) e68) (orE 71 (mkC (fun (t : Bool) => ([.v (.bool t)] : List AV)) (fun t => soft_sign fu t) e71) (orE 70 (mkC (fun (t : Int × Bool × Int × Int × Bool) => ([.v (.int .i64 t.1), .v (.bool t.2.1), .v (.int .i64 t.2.2.1), .v (.int .u64 t.2.2.2.1), .v (.bool t.2.2.2.2)] : List AV)) (fun t => soft_Round fu t.1 t.2.1 t.2.2.1 t.2.2.2.1 t.2.2.2.2) e70) (noP)))
theorem t38_ok (fu : Nat) : CpOK Tryz.prog (t38 fu ) := orE_ok (orE_ok (orE_ok (noP_ok) (mkC_ok (fun t b h => ok70 fu t.1 t.2.1 t.2.2.1 t.2.2.2.1 t.2.2.2.2  b h))) (mkC_ok (fun t b h => ok71 fu t  b h))) (mkC_ok (fun t b h => ok68 fu t  b h))
theorem ok38 (fu : Nat) (x1 : Int) (x2 : Int) (x3 : Int) (r) (h : soft_MulBy fu x1 x2 x3 = some r) : PureOK Tryz.prog 38 [.v (.int .i64 x1), .v (.int .u32 x2), .v (.int .u32 x3)] (e38 r) :=
  pure_J mixed (cp := t38 fu ) (t38_ok fu  ) noI_ok i38 (w38 _ fu x1 x2 x3  (fun a0 r h => orE_hit (mkC_at (a := a0) (by intro a b h; first | (exact rfl) | (simp only [INJ, IJ] at h; first | exact h | (simp_all [Prod.ext_iff]) )) h)) (fun a0 r h => orE_miss (by decide) (orE_hit (mkC_at (a := a0) (by intro a b h; first | (exact rfl) | (simp only [INJ, IJ] at h; first | exact h | (simp_all [Prod.ext_iff]) )) h))) (fun a0 a1 a2 a3 a4 r h => orE_miss (by decide) (orE_miss (by decide) (orE_hit (mkC_at (a := (a0, a1, a2, a3, a4)) (by intro a b h; first | (exact rfl) | (simp only [INJ, IJ] at h; first | exact h | (simp_all [Prod.ext_iff]) )) h))))) h
/-! 20: lattice/soft.Mul -/
def d20 : List (Nat × List Nat) := [(0, [4]), (0, []), (0, [0, 1, 5, 6, 7])]
def d20_at := And.intro (show d20.getD 0 (0, []) = (0, [4]) from rfl) <| And.intro (show d20.getD 1 (0, []) = (0, []) from rfl) <| (show d20.getD 2 (0, []) = (0, [0, 1, 5, 6, 7]) from rfl)
theorem i20 : finfo Tryz.prog 20 d20 = some ⟨bodyOf Tryz.f20, [.tmp 4], [24]⟩ := finfo_at Tryz.func20 rfl (by kernel_rfl) (by kernel_rfl)
def e20 : Int → AV := fun r => .v (.int .u32 r)
set_option maxHeartbeats 20000000 in
theorem w20 (cp : CallP) (fu : Nat) (x1 : Int) (x2 : Int) (H38_0 : ∀ (a0 : Int) (a1 : Int) (a2 : Int) r, soft_MulBy fu a0 a1 a2 = some r → cp 38 [.v (.int .i64 a0), .v (.int .u32 a1), .v (.int .u32 a2)] = some (.v (.int .u32 r))) : J (go Tryz.prog noC cp noI 0 [] d20 fu (fin Tryz.prog [.tmp 4] [24]) (bodyOf Tryz.f20) (initE 0 [.v (.int .u32 x1), .v (.int .u32 x2)]) [] []) (soft_Mul fu x1 x2) e20 := by
  unfold soft_Mul e20
  refine J.bind fun x3 h1 => ?_
  have e_h1 := H38_0 _ _ _ _ h1
  try simp only [NN, NT, LN] at e_h1
  refine J.some ?_
  simp (maxSteps := 20000000) (disch := first | assumption | decide | with_unfolding_all rfl | omega | (simp only [LN] <;> omega) | (simp only [RO, OF])) only [bodyOf, Tryz.f20, RR, RM, LN, TT, d20_at, ↓reduceIte, Nat.reduceEqDiff, Nat.reduceLT, Nat.reduceLeDiff, Nat.reduceAdd, Nat.reduceSub, Nat.reduceMul, Nat.reduceMod, Nat.reduceDiv, Nat.reduceBEq, RH, e_h1, FF, LN, NN, NT]
noncomputable def t20 (fu : Nat) : CallP := orE 38 (mkC (fun (t : Int × Int × Int) => ([.v (.int .i64 t.1), .v (.int .u32 t.2.1), .v (.int .u32 t.2.2)] : List AV)) (fun t => soft_MulBy fu t.1 t.2.1 t.2.2) e38) (noP)
theorem t20_ok (fu : Nat) : CpOK Tryz.prog (t20 fu ) := orE_ok (noP_ok) (mkC_ok (fun t b h => ok38 fu t.1 t.2.1 t.2.2  b h))
theorem ok20 (fu : Nat) (x1 : Int) (x2 : Int) (r) (h : soft_Mul fu x1 x2 = some r) : PureOK Tryz.prog 20 [.v (.int .u32 x1), .v (.int .u32 x2)] (e20 r) :=
  pure_J mixed (cp := t20 fu ) (t20_ok fu  ) noI_ok i20 (w20 _ fu x1 x2  (fun a0 a1 a2 r h => orE_hit (mkC_at (a := (a0, a1, a2)) (by intro a b h; first | (exact rfl) | (simp only [INJ, IJ] at h; first | exact h | (simp_all [Prod.ext_iff]) )) h))) h
/-! 8: lattice/quick.Dot -/
def d8 : List (Nat × List Nat) := [(0, [4]), (0, [0, 1, 11, 12]), (0, []), (0, []), (0, [7, 8, 9, 10]), (0, []), (0, []), (0, []), (0, [14]), (0, []), (17, [6, 15, 16, 17, 18, 19, 20, 21, 22, 23, 24, 25, 26, 27, 28, 29, 30, 31]), (0, []), (0, [32]), (0, []), (0, [5, 33, 34])]
def d8_at := And.intro (show d8.getD 0 (0, []) = (0, [4]) from rfl) <| And.intro (show d8.getD 1 (0, []) = (0, [0, 1, 11, 12]) from rfl) <| And.intro (show d8.getD 2 (0, []) = (0, []) from rfl) <| And.intro (show d8.getD 3 (0, []) = (0, []) from rfl) <| And.intro (show d8.getD 4 (0, []) = (0, [7, 8, 9, 10]) from rfl) <| And.intro (show d8.getD 5 (0, []) = (0, []) from rfl) <| And.intro (show d8.getD 6 (0, []) = (0, []) from rfl) <| And.intro (show d8.getD 7 (0, []) = (0, []) from rfl) <| And.intro (show d8.getD 8 (0, []) = (0, [14]) from rfl) <| And.intro (show d8.getD 9 (0, []) = (0, []) from rfl) <| And.intro (show d8.getD 10 (0, []) = (17, [6, 15, 16, 17, 18, 19, 20, 21, 22, 23, 24, 25, 26, 27, 28, 29, 30, 31]) from rfl) <| And.intro (show d8.getD 11 (0, []) = (0, []) from rfl) <| And.intro (show d8.getD 12 (0, []) = (0, [32]) from rfl) <| And.intro (show d8.getD 13 (0, []) = (0, []) from rfl) <| (show d8.getD 14 (0, []) = (0, [5, 33, 34]) from rfl)
theorem i8 : finfo Tryz.prog 8 d8 = some ⟨bodyOf Tryz.f8, [.tmp 4], [24]⟩ := finfo_at Tryz.func8 rfl (by kernel_rfl) (by kernel_rfl)
def e8 : Int → AV := fun r => .v (.int .u32 r)
set_option maxHeartbeats 20000000 in
theorem w8 (cp : CallP) (fu : Nat) (x1 : List Int) (x2 : List Int) (H20_0 : ∀ (a0 : Int) (a1 : Int) r, soft_Mul fu a0 a1 = some r → cp 20 [.v (.int .u32 a0), .v (.int .u32 a1)] = some (.v (.int .u32 r))) (H17_0 : ∀ (a0 : Int) (a1 : Int) r, soft_Add fu a0 a1 = some r → cp 17 [.v (.int .u32 a0), .v (.int .u32 a1)] = some (.v (.int .u32 r))) : J (go Tryz.prog (inlC [18]) cp (ciE Tryz.prog (inlC [18]) cp noI fu 18 d18 ⟨b18, [.tmp 2], [24]⟩ noI) 0 [] d8 fu (fin Tryz.prog [.tmp 4] [24]) (bodyOf Tryz.f8) (initE 0 [.arr x1.length (lm (ik .u32) x1), .arr x2.length (lm (ik .u32) x2)]) [] []) (quick_Dot fu x1 x2) e8 := by
  unfold quick_Dot e8
  conv => arg 1; simp (maxSteps := 1000000) (disch := first | assumption | decide | with_unfolding_all rfl | omega | (simp only [LN] <;> omega) | (simp only [RO, OF])) only [bodyOf, Tryz.f8, RR, RM, LN, TT, d8_at, ↓reduceIte, Nat.reduceEqDiff, Nat.reduceLT, Nat.reduceLeDiff, Nat.reduceAdd, Nat.reduceSub, Nat.reduceMul, Nat.reduceMod, Nat.reduceDiv, Nat.reduceBEq, RI, RIk, initE, RH]
  refine J.joinS (fun (t : Int × Int × Int × Int) => ([(5, .ptr (0, 5, 0) 0 0)], [((0, 5, 0), .bx true ([.v (.int .u32 t.1), .v (.int .u32 t.2.1), .v (.int .u32 t.2.2.1), .v (.int .u32 t.2.2.2)]))])) (fun t => quick_Dot_k1 fu t.1 t.2.1 t.2.2.1 t.2.2.2) ?_ (fun hj1 => ?_)
  · rintro ⟨x3, x4, x5, x6⟩
    show J _ (quick_Dot_k1 fu x3 x4 x5 x6) _
    unfold quick_Dot_k1
    refine J.bind fun x7 h1 => ?_
    have e_h1 := H17_0 _ _ _ h1
    try simp only [NN, NT, LN] at e_h1
    refine J.bind fun x8 h2 => ?_
    have e_h2 := H17_0 _ _ _ h2
    try simp only [NN, NT, LN] at e_h2
    refine J.bind fun x9 h3 => ?_
    have e_h3 := H17_0 _ _ _ h3
    try simp only [NN, NT, LN] at e_h3
    refine J.some ?_
    simp (maxSteps := 20000000) (disch := first | assumption | decide | with_unfolding_all rfl | omega | (simp only [LN] <;> omega) | (simp only [RO, OF])) only [RR, RM, LN, TT, d8_at, ↓reduceIte, Nat.reduceEqDiff, Nat.reduceLT, Nat.reduceLeDiff, Nat.reduceAdd, Nat.reduceSub, Nat.reduceMul, Nat.reduceMod, Nat.reduceDiv, Nat.reduceBEq, go_b18, bodyOf, Tryz.f18, d18_at, RI, RIk, initE, RH, e_h1, e_h2, e_h3, FF, LN, NN, NT]
  · conv => arg 1; simp (maxSteps := 1000000) (disch := first | assumption | decide | with_unfolding_all rfl | omega | (simp only [LN] <;> omega) | (simp only [RO, OF])) only [RR, RM, LN, TT, d8_at, ↓reduceIte, Nat.reduceEqDiff, Nat.reduceLT, Nat.reduceLeDiff, Nat.reduceAdd, Nat.reduceSub, Nat.reduceMul, Nat.reduceMod, Nat.reduceDiv, Nat.reduceBEq, go_b18, bodyOf, Tryz.f18, d18_at, RI, RIk, initE, RH]
    unfold quick_Dot_W1
    refine J.loop (fun (s : Int × Int × Int × Int × Int) => ([(0, .arr x1.length (lm (ik .u32) x1)), (1, .arr x2.length (lm (ik .u32) x2)), (5, .ptr (0, 5, 0) 0 0), (11, .v (.int .i64 (imin (x1.length : Int) (x2.length : Int)))), (12, .v (.int .i64 s.2.2.2.2))], [((0, 5, 0), .bx true ([.v (.int .u32 s.1), .v (.int .u32 s.2.1), .v (.int .u32 s.2.2.1), .v (.int .u32 s.2.2.2.1)]))])) (fun next s => quick_Dot_L1 fu x1 x2 (fun x26 x27 x28 x29 x30 => next (x26, x27, x28, x29, x30)) s.1 s.2.1 s.2.2.1 s.2.2.2.1 s.2.2.2.2) (s0 := (0, 0, 0, 0, 0)) ?_ ?_ ?_
    · first | rfl | (simp only [LN, NN, NT])
    · first | (simp (disch := first | assumption | decide | with_unfolding_all rfl | omega | (simp only [LN] <;> omega) | (simp only [RO, OF])) only [RR, ↓reduceIte, Nat.reduceEqDiff, Nat.reduceLT, Nat.reduceLeDiff, Nat.reduceAdd, Nat.reduceSub, Nat.reduceMul, Nat.reduceMod, Nat.reduceDiv, Nat.reduceBEq, LN, NN, NT]; done) | (simp (disch := first | assumption | decide | with_unfolding_all rfl | omega | (simp only [LN] <;> omega) | (simp only [RO, OF])) only [RR, ↓reduceIte, Nat.reduceEqDiff, Nat.reduceLT, Nat.reduceLeDiff, Nat.reduceAdd, Nat.reduceSub, Nat.reduceMul, Nat.reduceMod, Nat.reduceDiv, Nat.reduceBEq, LN, fm_app, NN, NT]; done) | rfl
    rintro next k1 hn1 ⟨x26, x27, x28, x29, x30⟩
    let nx1 : Int → Int → Int → Int → Int → Option Int := (fun x26 x27 x28 x29 x30 => next (x26, x27, x28, x29, x30))
    show J _ (quick_Dot_L1 fu x1 x2 nx1 x26 x27 x28 x29 x30) _
    unfold quick_Dot_L1
    conv => arg 1; simp (maxSteps := 1000000) (disch := first | assumption | decide | with_unfolding_all rfl | omega | (simp only [LN] <;> omega) | (simp only [RO, OF])) only [RR, RM, LN, TT, d8_at, ↓reduceIte, Nat.reduceEqDiff, Nat.reduceLT, Nat.reduceLeDiff, Nat.reduceAdd, Nat.reduceSub, Nat.reduceMul, Nat.reduceMod, Nat.reduceDiv, Nat.reduceBEq, go_b18, bodyOf, Tryz.f18, d18_at, RI, RIk, initE, RH]
    refine J.eq go_seq ?_
    conv => arg 1; simp (maxSteps := 1000000) (disch := first | assumption | decide | with_unfolding_all rfl | omega | (simp only [LN] <;> omega) | (simp only [RO, OF])) only [RR, RM, LN, TT, d8_at, ↓reduceIte, Nat.reduceEqDiff, Nat.reduceLT, Nat.reduceLeDiff, Nat.reduceAdd, Nat.reduceSub, Nat.reduceMul, Nat.reduceMod, Nat.reduceDiv, Nat.reduceBEq, go_b18, bodyOf, Tryz.f18, d18_at, RI, RIk, initE, RH]
    refine J.ite (fun h4 => ?_) (fun h4 => ?_)
    · have h4' := decide_eq_true h4
      have h4'' : decide ((imin (x1.length : Int) (x2.length : Int)) ≤ x30) = false := decide_eq_false (by omega)
      conv => arg 1; simp (maxSteps := 1000000) (disch := first | assumption | decide | with_unfolding_all rfl | omega | (simp only [LN] <;> omega) | (simp only [RO, OF])) only [RR, RM, LN, TT, d8_at, ↓reduceIte, Nat.reduceEqDiff, Nat.reduceLT, Nat.reduceLeDiff, Nat.reduceAdd, Nat.reduceSub, Nat.reduceMul, Nat.reduceMod, Nat.reduceDiv, Nat.reduceBEq, go_b18, bodyOf, Tryz.f18, d18_at, RI, RIk, initE, RH, h4'', h4']
      refine J.eq ret_seq ?_
      refine J.eq go_seq ?_
      conv => arg 1; simp (maxSteps := 1000000) (disch := first | assumption | decide | with_unfolding_all rfl | omega | (simp only [LN] <;> omega) | (simp only [RO, OF])) only [RR, RM, LN, TT, d8_at, ↓reduceIte, Nat.reduceEqDiff, Nat.reduceLT, Nat.reduceLeDiff, Nat.reduceAdd, Nat.reduceSub, Nat.reduceMul, Nat.reduceMod, Nat.reduceDiv, Nat.reduceBEq, go_b18, bodyOf, Tryz.f18, d18_at, RI, RIk, initE, RH, h4'', h4']
      refine J.ite (fun h5 => ?_) (fun h5 => ?_)
      · have h5' := decide_eq_true h5
        refine J.at fun x47 h6 h7 h8 => ?_
        refine J.at fun x48 h9 h10 h11 => ?_
        refine J.bind fun x49 h12 => ?_
        have e_h12 := H20_0 _ _ _ h12
        try simp only [NN, NT, LN] at e_h12
        refine J.bind fun x50 h13 => ?_
        have e_h13 := H17_0 _ _ _ h13
        try simp only [NN, NT, LN] at e_h13
        conv => arg 1; simp (maxSteps := 1000000) (disch := first | assumption | decide | with_unfolding_all rfl | omega | (simp only [LN] <;> omega) | (simp only [RO, OF])) only [RR, RM, LN, TT, d8_at, ↓reduceIte, Nat.reduceEqDiff, Nat.reduceLT, Nat.reduceLeDiff, Nat.reduceAdd, Nat.reduceSub, Nat.reduceMul, Nat.reduceMod, Nat.reduceDiv, Nat.reduceBEq, go_b18, bodyOf, Tryz.f18, d18_at, RI, RIk, initE, RH, h4'', h4', h5', h5, lm_ik h8, lm_ik h11, e_h12, e_h13]
        refine J.eq ret_seq ?_
        conv => arg 1; simp (maxSteps := 1000000) (disch := first | assumption | decide | with_unfolding_all rfl | omega | (simp only [LN] <;> omega) | (simp only [RO, OF])) only [RR, RM, LN, TT, d8_at, ↓reduceIte, Nat.reduceEqDiff, Nat.reduceLT, Nat.reduceLeDiff, Nat.reduceAdd, Nat.reduceSub, Nat.reduceMul, Nat.reduceMod, Nat.reduceDiv, Nat.reduceBEq, go_b18, bodyOf, Tryz.f18, d18_at, RI, RIk, initE, RH, h4'', h4', h5', h5, lm_ik h8, lm_ik h11, e_h12, e_h13]
        refine J.next (s := (x50, x27, x28, x29, wk .i64 (x30 + 1))) hn1 ?_ ?_
        · first | rfl | (simp only [LN, NN, NT])
        · first | (simp (disch := first | assumption | decide | with_unfolding_all rfl | omega | (simp only [LN] <;> omega) | (simp only [RO, OF])) only [RR, ↓reduceIte, Nat.reduceEqDiff, Nat.reduceLT, Nat.reduceLeDiff, Nat.reduceAdd, Nat.reduceSub, Nat.reduceMul, Nat.reduceMod, Nat.reduceDiv, Nat.reduceBEq, LN, NN, NT]; done) | (simp (disch := first | assumption | decide | with_unfolding_all rfl | omega | (simp only [LN] <;> omega) | (simp only [RO, OF])) only [RR, ↓reduceIte, Nat.reduceEqDiff, Nat.reduceLT, Nat.reduceLeDiff, Nat.reduceAdd, Nat.reduceSub, Nat.reduceMul, Nat.reduceMod, Nat.reduceDiv, Nat.reduceBEq, LN, fm_app, NN, NT]; done) | rfl
      · have h5' := decide_eq_false h5
        conv => arg 1; simp (maxSteps := 1000000) (disch := first | assumption | decide | with_unfolding_all rfl | omega | (simp only [LN] <;> omega) | (simp only [RO, OF])) only [RR, RM, LN, TT, d8_at, ↓reduceIte, Nat.reduceEqDiff, Nat.reduceLT, Nat.reduceLeDiff, Nat.reduceAdd, Nat.reduceSub, Nat.reduceMul, Nat.reduceMod, Nat.reduceDiv, Nat.reduceBEq, go_b18, bodyOf, Tryz.f18, d18_at, RI, RIk, initE, RH, h4'', h4', h5']
        refine J.ite (fun h14 => ?_) (fun h14 => ?_)
        · have h14' := decide_eq_true h14
          refine J.at fun x51 h15 h16 h17 => ?_
          refine J.at fun x52 h18 h19 h20 => ?_
          refine J.bind fun x53 h21 => ?_
          have e_h21 := H20_0 _ _ _ h21
          try simp only [NN, NT, LN] at e_h21
          refine J.bind fun x54 h22 => ?_
          have e_h22 := H17_0 _ _ _ h22
          try simp only [NN, NT, LN] at e_h22
          conv => arg 1; simp (maxSteps := 1000000) (disch := first | assumption | decide | with_unfolding_all rfl | omega | (simp only [LN] <;> omega) | (simp only [RO, OF])) only [RR, RM, LN, TT, d8_at, ↓reduceIte, Nat.reduceEqDiff, Nat.reduceLT, Nat.reduceLeDiff, Nat.reduceAdd, Nat.reduceSub, Nat.reduceMul, Nat.reduceMod, Nat.reduceDiv, Nat.reduceBEq, go_b18, bodyOf, Tryz.f18, d18_at, RI, RIk, initE, RH, h4'', h4', h5', h14', h14, lm_ik h17, lm_ik h20, e_h21, e_h22]
          refine J.eq ret_seq ?_
          conv => arg 1; simp (maxSteps := 1000000) (disch := first | assumption | decide | with_unfolding_all rfl | omega | (simp only [LN] <;> omega) | (simp only [RO, OF])) only [RR, RM, LN, TT, d8_at, ↓reduceIte, Nat.reduceEqDiff, Nat.reduceLT, Nat.reduceLeDiff, Nat.reduceAdd, Nat.reduceSub, Nat.reduceMul, Nat.reduceMod, Nat.reduceDiv, Nat.reduceBEq, go_b18, bodyOf, Tryz.f18, d18_at, RI, RIk, initE, RH, h4'', h4', h5', h14', h14, lm_ik h17, lm_ik h20, e_h21, e_h22]
          refine J.next (s := (x26, x54, x28, x29, wk .i64 (x30 + 1))) hn1 ?_ ?_
          · first | rfl | (simp only [LN, NN, NT])
          · first | (simp (disch := first | assumption | decide | with_unfolding_all rfl | omega | (simp only [LN] <;> omega) | (simp only [RO, OF])) only [RR, ↓reduceIte, Nat.reduceEqDiff, Nat.reduceLT, Nat.reduceLeDiff, Nat.reduceAdd, Nat.reduceSub, Nat.reduceMul, Nat.reduceMod, Nat.reduceDiv, Nat.reduceBEq, LN, NN, NT]; done) | (simp (disch := first | assumption | decide | with_unfolding_all rfl | omega | (simp only [LN] <;> omega) | (simp only [RO, OF])) only [RR, ↓reduceIte, Nat.reduceEqDiff, Nat.reduceLT, Nat.reduceLeDiff, Nat.reduceAdd, Nat.reduceSub, Nat.reduceMul, Nat.reduceMod, Nat.reduceDiv, Nat.reduceBEq, LN, fm_app, NN, NT]; done) | rfl
        · have h14' := decide_eq_false h14
          conv => arg 1; simp (maxSteps := 1000000) (disch := first | assumption | decide | with_unfolding_all rfl | omega | (simp only [LN] <;> omega) | (simp only [RO, OF])) only [RR, RM, LN, TT, d8_at, ↓reduceIte, Nat.reduceEqDiff, Nat.reduceLT, Nat.reduceLeDiff, Nat.reduceAdd, Nat.reduceSub, Nat.reduceMul, Nat.reduceMod, Nat.reduceDiv, Nat.reduceBEq, go_b18, bodyOf, Tryz.f18, d18_at, RI, RIk, initE, RH, h4'', h4', h5', h14']
          refine J.ite (fun h23 => ?_) (fun h23 => ?_)
          · have h23' := decide_eq_true h23
            refine J.at fun x55 h24 h25 h26 => ?_
            refine J.at fun x56 h27 h28 h29 => ?_
            refine J.bind fun x57 h30 => ?_
            have e_h30 := H20_0 _ _ _ h30
            try simp only [NN, NT, LN] at e_h30
            refine J.bind fun x58 h31 => ?_
            have e_h31 := H17_0 _ _ _ h31
            try simp only [NN, NT, LN] at e_h31
            conv => arg 1; simp (maxSteps := 1000000) (disch := first | assumption | decide | with_unfolding_all rfl | omega | (simp only [LN] <;> omega) | (simp only [RO, OF])) only [RR, RM, LN, TT, d8_at, ↓reduceIte, Nat.reduceEqDiff, Nat.reduceLT, Nat.reduceLeDiff, Nat.reduceAdd, Nat.reduceSub, Nat.reduceMul, Nat.reduceMod, Nat.reduceDiv, Nat.reduceBEq, go_b18, bodyOf, Tryz.f18, d18_at, RI, RIk, initE, RH, h4'', h4', h5', h14', h23', h23, lm_ik h26, lm_ik h29, e_h30, e_h31]
            refine J.eq ret_seq ?_
            conv => arg 1; simp (maxSteps := 1000000) (disch := first | assumption | decide | with_unfolding_all rfl | omega | (simp only [LN] <;> omega) | (simp only [RO, OF])) only [RR, RM, LN, TT, d8_at, ↓reduceIte, Nat.reduceEqDiff, Nat.reduceLT, Nat.reduceLeDiff, Nat.reduceAdd, Nat.reduceSub, Nat.reduceMul, Nat.reduceMod, Nat.reduceDiv, Nat.reduceBEq, go_b18, bodyOf, Tryz.f18, d18_at, RI, RIk, initE, RH, h4'', h4', h5', h14', h23', h23, lm_ik h26, lm_ik h29, e_h30, e_h31]
            refine J.next (s := (x26, x27, x58, x29, wk .i64 (x30 + 1))) hn1 ?_ ?_
            · first | rfl | (simp only [LN, NN, NT])
            · first | (simp (disch := first | assumption | decide | with_unfolding_all rfl | omega | (simp only [LN] <;> omega) | (simp only [RO, OF])) only [RR, ↓reduceIte, Nat.reduceEqDiff, Nat.reduceLT, Nat.reduceLeDiff, Nat.reduceAdd, Nat.reduceSub, Nat.reduceMul, Nat.reduceMod, Nat.reduceDiv, Nat.reduceBEq, LN, NN, NT]; done) | (simp (disch := first | assumption | decide | with_unfolding_all rfl | omega | (simp only [LN] <;> omega) | (simp only [RO, OF])) only [RR, ↓reduceIte, Nat.reduceEqDiff, Nat.reduceLT, Nat.reduceLeDiff, Nat.reduceAdd, Nat.reduceSub, Nat.reduceMul, Nat.reduceMod, Nat.reduceDiv, Nat.reduceBEq, LN, fm_app, NN, NT]; done) | rfl
          · have h23' := decide_eq_false h23
            conv => arg 1; simp (maxSteps := 1000000) (disch := first | assumption | decide | with_unfolding_all rfl | omega | (simp only [LN] <;> omega) | (simp only [RO, OF])) only [RR, RM, LN, TT, d8_at, ↓reduceIte, Nat.reduceEqDiff, Nat.reduceLT, Nat.reduceLeDiff, Nat.reduceAdd, Nat.reduceSub, Nat.reduceMul, Nat.reduceMod, Nat.reduceDiv, Nat.reduceBEq, go_b18, bodyOf, Tryz.f18, d18_at, RI, RIk, initE, RH, h4'', h4', h5', h14', h23']
            refine J.ite (fun h32 => ?_) (fun h32 => ?_)
            · have h32' := decide_eq_true h32
              refine J.at fun x59 h33 h34 h35 => ?_
              refine J.at fun x60 h36 h37 h38 => ?_
              refine J.bind fun x61 h39 => ?_
              have e_h39 := H20_0 _ _ _ h39
              try simp only [NN, NT, LN] at e_h39
              refine J.bind fun x62 h40 => ?_
              have e_h40 := H17_0 _ _ _ h40
              try simp only [NN, NT, LN] at e_h40
              conv => arg 1; simp (maxSteps := 1000000) (disch := first | assumption | decide | with_unfolding_all rfl | omega | (simp only [LN] <;> omega) | (simp only [RO, OF])) only [RR, RM, LN, TT, d8_at, ↓reduceIte, Nat.reduceEqDiff, Nat.reduceLT, Nat.reduceLeDiff, Nat.reduceAdd, Nat.reduceSub, Nat.reduceMul, Nat.reduceMod, Nat.reduceDiv, Nat.reduceBEq, go_b18, bodyOf, Tryz.f18, d18_at, RI, RIk, initE, RH, h4'', h4', h5', h14', h23', h32', h32, lm_ik h35, lm_ik h38, e_h39, e_h40]
              refine J.eq ret_seq ?_
              conv => arg 1; simp (maxSteps := 1000000) (disch := first | assumption | decide | with_unfolding_all rfl | omega | (simp only [LN] <;> omega) | (simp only [RO, OF])) only [RR, RM, LN, TT, d8_at, ↓reduceIte, Nat.reduceEqDiff, Nat.reduceLT, Nat.reduceLeDiff, Nat.reduceAdd, Nat.reduceSub, Nat.reduceMul, Nat.reduceMod, Nat.reduceDiv, Nat.reduceBEq, go_b18, bodyOf, Tryz.f18, d18_at, RI, RIk, initE, RH, h4'', h4', h5', h14', h23', h32', h32, lm_ik h35, lm_ik h38, e_h39, e_h40]
              refine J.next (s := (x26, x27, x28, x62, wk .i64 (x30 + 1))) hn1 ?_ ?_
              · first | rfl | (simp only [LN, NN, NT])
              · first | (simp (disch := first | assumption | decide | with_unfolding_all rfl | omega | (simp only [LN] <;> omega) | (simp only [RO, OF])) only [RR, ↓reduceIte, Nat.reduceEqDiff, Nat.reduceLT, Nat.reduceLeDiff, Nat.reduceAdd, Nat.reduceSub, Nat.reduceMul, Nat.reduceMod, Nat.reduceDiv, Nat.reduceBEq, LN, NN, NT]; done) | (simp (disch := first | assumption | decide | with_unfolding_all rfl | omega | (simp only [LN] <;> omega) | (simp only [RO, OF])) only [RR, ↓reduceIte, Nat.reduceEqDiff, Nat.reduceLT, Nat.reduceLeDiff, Nat.reduceAdd, Nat.reduceSub, Nat.reduceMul, Nat.reduceMod, Nat.reduceDiv, Nat.reduceBEq, LN, fm_app, NN, NT]; done) | rfl
            · have h32' := decide_eq_false h32
              exact J.none
    · have h4' := decide_eq_false h4
      have h4'' : decide ((imin (x1.length : Int) (x2.length : Int)) ≤ x30) = true := decide_eq_true (by omega)
      conv => arg 1; simp (maxSteps := 1000000) (disch := first | assumption | decide | with_unfolding_all rfl | omega | (simp only [LN] <;> omega) | (simp only [RO, OF])) only [RR, RM, LN, TT, d8_at, ↓reduceIte, Nat.reduceEqDiff, Nat.reduceLT, Nat.reduceLeDiff, Nat.reduceAdd, Nat.reduceSub, Nat.reduceMul, Nat.reduceMod, Nat.reduceDiv, Nat.reduceBEq, go_b18, bodyOf, Tryz.f18, d18_at, RI, RIk, initE, RH, h4'', h4']
      refine J.jmp (t := (x26, x27, x28, x29)) hj1 ?_ ?_
      · first | rfl | (simp only [LN, NN, NT])
      · first | (simp (disch := first | assumption | decide | with_unfolding_all rfl | omega | (simp only [LN] <;> omega) | (simp only [RO, OF])) only [RR, ↓reduceIte, Nat.reduceEqDiff, Nat.reduceLT, Nat.reduceLeDiff, Nat.reduceAdd, Nat.reduceSub, Nat.reduceMul, Nat.reduceMod, Nat.reduceDiv, Nat.reduceBEq, LN, NN, NT]; done) | (simp (disch := first | assumption | decide | with_unfolding_all rfl | omega | (simp only [LN] <;> omega) | (simp only [RO, OF])) only [RR, ↓reduceIte, Nat.reduceEqDiff, Nat.reduceLT, Nat.reduceLeDiff, Nat.reduceAdd, Nat.reduceSub, Nat.reduceMul, Nat.reduceMod, Nat.reduceDiv, Nat.reduceBEq, LN, fm_app, NN, NT]; done) | rfl
noncomputable def t8 (fu : Nat) : CallP := orE 20 (mkC (fun (t : Int × Int) => ([.v (.int .u32 t.1), .v (.int .u32 t.2)] : List AV)) (fun t => soft_Mul fu t.1 t.2) e20) (orE 17 (mkC (fun (t : Int × Int) => ([.v (.int .u32 t.1), .v (.int .u32 t.2)] : List AV)) (fun t => soft_Add fu t.1 t.2) e17) (noP))
theorem t8_ok (fu : Nat) : CpOK Tryz.prog (t8 fu ) := orE_ok (orE_ok (noP_ok) (mkC_ok (fun t b h => ok17 fu t.1 t.2  b h))) (mkC_ok (fun t b h => ok20 fu t.1 t.2  b h))
theorem ok8 (fu : Nat) (x1 : List Int) (x2 : List Int) (r) (h : quick_Dot fu x1 x2 = some r) : PureOK Tryz.prog 8 [.arr x1.length (lm (ik .u32) x1), .arr x2.length (lm (ik .u32) x2)] (e8 r) :=
  pure_J mixed (cp := t8 fu ) (t8_ok fu  ) (ciE_ok mixed (t8_ok fu  ) noI_ok i18 noI_ok) i8 (w8 _ fu x1 x2  (fun a0 a1 r h => orE_hit (mkC_at (a := (a0, a1)) (by intro a b h; first | (exact rfl) | (simp only [INJ, IJ] at h; first | exact h | (simp_all [Prod.ext_iff]) )) h)) (fun a0 a1 r h => orE_miss (by decide) (orE_hit (mkC_at (a := (a0, a1)) (by intro a b h; first | (exact rfl) | (simp only [INJ, IJ] at h; first | exact h | (simp_all [Prod.ext_iff]) )) h)))) h
/-! 135: lattice/latticeref01.signed -/
def d135 : List (Nat × List Nat) := [(0, [4]), (0, []), (0, [0]), (0, []), (0, [6, 7]), (0, []), (0, [1, 8])]
def d135_at := And.intro (show d135.getD 0 (0, []) = (0, [4]) from rfl) <| And.intro (show d135.getD 1 (0, []) = (0, []) from rfl) <| And.intro (show d135.getD 2 (0, []) = (0, [0]) from rfl) <| And.intro (show d135.getD 3 (0, []) = (0, []) from rfl) <| And.intro (show d135.getD 4 (0, []) = (0, [6, 7]) from rfl) <| And.intro (show d135.getD 5 (0, []) = (0, []) from rfl) <| (show d135.getD 6 (0, []) = (0, [1, 8]) from rfl)
theorem i135 : finfo Tryz.prog 135 d135 = some ⟨bodyOf Tryz.f135, [.tmp 4], [24]⟩ := finfo_at Tryz.func135 rfl (by kernel_rfl) (by kernel_rfl)
def e135 : Int → AV := fun r => .v (.int .u32 r)
set_option maxHeartbeats 20000000 in
theorem w135 (cp : CallP) (fu : Nat) (x1 : Bool) (x2 : Int) : J (go Tryz.prog noC cp noI 0 [] d135 fu (fin Tryz.prog [.tmp 4] [24]) (bodyOf Tryz.f135) (initE 0 [.v (.bool x1), .v (.int .u32 x2)]) [] []) (ref01_signed fu x1 x2) e135 := by
  unfold ref01_signed e135
  conv => arg 1; simp (maxSteps := 1000000) (disch := first | assumption | decide | with_unfolding_all rfl | omega | (simp only [LN] <;> omega) | (simp only [RO, OF])) only [bodyOf, Tryz.f135, RR, RM, LN, TT, d135_at, ↓reduceIte, Nat.reduceEqDiff, Nat.reduceLT, Nat.reduceLeDiff, Nat.reduceAdd, Nat.reduceSub, Nat.reduceMul, Nat.reduceMod, Nat.reduceDiv, Nat.reduceBEq, RH]
  refine J.eq go_seq ?_
  conv => arg 1; simp (maxSteps := 1000000) (disch := first | assumption | decide | with_unfolding_all rfl | omega | (simp only [LN] <;> omega) | (simp only [RO, OF])) only [RR, RM, LN, TT, d135_at, ↓reduceIte, Nat.reduceEqDiff, Nat.reduceLT, Nat.reduceLeDiff, Nat.reduceAdd, Nat.reduceSub, Nat.reduceMul, Nat.reduceMod, Nat.reduceDiv, Nat.reduceBEq, RH]
  refine J.ite (fun h1 => ?_) (fun h1 => ?_)
  · have h1' : x1 = true := h1
    refine J.some ?_
    simp (maxSteps := 20000000) (disch := first | assumption | decide | with_unfolding_all rfl | omega | (simp only [LN] <;> omega) | (simp only [RO, OF])) only [RR, RM, LN, TT, d135_at, ↓reduceIte, Nat.reduceEqDiff, Nat.reduceLT, Nat.reduceLeDiff, Nat.reduceAdd, Nat.reduceSub, Nat.reduceMul, Nat.reduceMod, Nat.reduceDiv, Nat.reduceBEq, RH, h1', FF, LN, NN, NT]
  · have h1' : x1 = false := Bool.eq_false_iff.2 h1
    conv => arg 1; simp (maxSteps := 1000000) (disch := first | assumption | decide | with_unfolding_all rfl | omega | (simp only [LN] <;> omega) | (simp only [RO, OF])) only [RR, RM, LN, TT, d135_at, ↓reduceIte, Nat.reduceEqDiff, Nat.reduceLT, Nat.reduceLeDiff, Nat.reduceAdd, Nat.reduceSub, Nat.reduceMul, Nat.reduceMod, Nat.reduceDiv, Nat.reduceBEq, RH, h1']
    refine J.eq ret_seq ?_
    refine J.some ?_
    simp (maxSteps := 20000000) (disch := first | assumption | decide | with_unfolding_all rfl | omega | (simp only [LN] <;> omega) | (simp only [RO, OF])) only [RR, RM, LN, TT, d135_at, ↓reduceIte, Nat.reduceEqDiff, Nat.reduceLT, Nat.reduceLeDiff, Nat.reduceAdd, Nat.reduceSub, Nat.reduceMul, Nat.reduceMod, Nat.reduceDiv, Nat.reduceBEq, RH, h1', FF, LN, NN, NT]
noncomputable def t135 (fu : Nat) : CallP := noP
theorem t135_ok (fu : Nat) : CpOK Tryz.prog (t135 fu ) := noP_ok
theorem ok135 (fu : Nat) (x1 : Bool) (x2 : Int) (r) (h : ref01_signed fu x1 x2 = some r) : PureOK Tryz.prog 135 [.v (.bool x1), .v (.int .u32 x2)] (e135 r) :=
  pure_J mixed (cp := t135 fu ) (t135_ok fu  ) noI_ok i135 (w135 _ fu x1 x2  ) h
/-! 72: lattice/latticeref01.MulBy -/
def d72 : List (Nat × List Nat) := [(0, [6]), (0, []), (0, [8, 9, 10, 11, 12]), (0, []), (0, [14, 15, 16, 17, 18, 19]), (0, []), (0, []), (0, []), (0, [21, 22, 23, 24, 25, 26, 27, 28]), (0, []), (0, [29, 30, 31, 32, 33, 34, 35]), (0, []), (0, []), (0, []), (0, [37, 38]), (0, []), (0, [0, 1, 2, 7, 39, 40, 41, 42, 43, 44, 45, 46, 47, 48, 49, 50])]
def d72_at := And.intro (show d72.getD 0 (0, []) = (0, [6]) from rfl) <| And.intro (show d72.getD 1 (0, []) = (0, []) from rfl) <| And.intro (show d72.getD 2 (0, []) = (0, [8, 9, 10, 11, 12]) from rfl) <| And.intro (show d72.getD 3 (0, []) = (0, []) from rfl) <| And.intro (show d72.getD 4 (0, []) = (0, [14, 15, 16, 17, 18, 19]) from rfl) <| And.intro (show d72.getD 5 (0, []) = (0, []) from rfl) <| And.intro (show d72.getD 6 (0, []) = (0, []) from rfl) <| And.intro (show d72.getD 7 (0, []) = (0, []) from rfl) <| And.intro (show d72.getD 8 (0, []) = (0, [21, 22, 23, 24, 25, 26, 27, 28]) from rfl) <| And.intro (show d72.getD 9 (0, []) = (0, []) from rfl) <| And.intro (show d72.getD 10 (0, []) = (0, [29, 30, 31, 32, 33, 34, 35]) from rfl) <| And.intro (show d72.getD 11 (0, []) = (0, []) from rfl) <| And.intro (show d72.getD 12 (0, []) = (0, []) from rfl) <| And.intro (show d72.getD 13 (0, []) = (0, []) from rfl) <| And.intro (show d72.getD 14 (0, []) = (0, [37, 38]) from rfl) <| And.intro (show d72.getD 15 (0, []) = (0, []) from rfl) <| (show d72.getD 16 (0, []) = (0, [0, 1, 2, 7, 39, 40, 41, 42, 43, 44, 45, 46, 47, 48, 49, 50]) from rfl)
theorem i72 : finfo Tryz.prog 72 d72 = some ⟨bodyOf Tryz.f72, [.tmp 6], [24]⟩ := finfo_at Tryz.func72 rfl (by kernel_rfl) (by kernel_rfl)
def e72 : Int → AV := fun r => .v (.int .u32 r)
set_option maxHeartbeats 20000000 in
theorem w72 (cp : CallP) (fu : Nat) (x1 : Int) (x2 : Int) (x3 : Int) (H93_0 : ∀ (a0 : Int) r, ref01_Below fu a0 = some r → cp 93 [.v (.int .u32 a0)] = some (.v (.bool r))) (H90_0 : ∀ (a0 : Int) r, ref01_IsNone fu a0 = some r → cp 90 [.v (.int .u32 a0)] = some (.v (.bool r))) (H91_0 : ∀ (a0 : Int) r, ref01_Abs fu a0 = some r → cp 91 [.v (.int .u32 a0)] = some (.v (.int .u32 r))) (H135_0 : ∀ (a0 : Bool) (a1 : Int) r, ref01_signed fu a0 a1 = some r → cp 135 [.v (.bool a0), .v (.int .u32 a1)] = some (.v (.int .u32 r))) (H92_0 : ∀ (a0 : Int) r, ref01_Amount fu a0 = some r → cp 92 [.v (.int .u32 a0)] = some (.arr r.length (lm (ik .u32) r))) (H136_0 : ∀ (a0 : List Int) (a1 : List Int) r, ref01_Times fu a0 a1 = some r → cp 136 [.arr a0.length (lm (ik .u32) a0), .arr a1.length (lm (ik .u32) a1)] = some (.arr r.length (lm (ik .u32) r))) (H96_0 : ∀ (a0 : Int) r, ref01_Of fu a0 = some r → cp 96 [.v (.int .u64 a0)] = some (.arr r.length (lm (ik .u32) r))) (H137_0 : ∀ (a0 : List Int) (a1 : Int) r, ref01_Twice fu a0 a1 = some r → cp 137 [.arr a0.length (lm (ik .u32) a0), .v (.int .i64 a1)] = some (.arr r.length (lm (ik .u32) r))) (H94_0 : ∀ (a0 : Int) (a1 : Bool) (a2 : List Int) (a3 : List Int) r, ref01_Rounded fu a0 a1 a2 a3 = some r → cp 94 [.v (.int .i64 a0), .v (.bool a1), .arr a2.length (lm (ik .u32) a2), .arr a3.length (lm (ik .u32) a3)] = some (.v (.int .u32 r))) : J (go Tryz.prog noC cp noI 0 [] d72 fu (fin Tryz.prog [.tmp 6] [24]) (bodyOf Tryz.f72) (initE 0 [.v (.int .i64 x1), .v (.int .u32 x2), .v (.int .u32 x3)]) [] []) (ref01_MulBy fu x1 x2 x3) e72 := by
  unfold ref01_MulBy e72
  refine J.bind fun x4 h1 => ?_
  have e_h1 := H93_0 _ _ h1
  try simp only [NN, NT, LN] at e_h1
  refine J.bind fun x5 h2 => ?_
  have e_h2 := H93_0 _ _ h2
  try simp only [NN, NT, LN] at e_h2
  conv => arg 1; simp (maxSteps := 1000000) (disch := first | assumption | decide | with_unfolding_all rfl | omega | (simp only [LN] <;> omega) | (simp only [RO, OF])) only [bodyOf, Tryz.f72, RR, RM, LN, TT, d72_at, ↓reduceIte, Nat.reduceEqDiff, Nat.reduceLT, Nat.reduceLeDiff, Nat.reduceAdd, Nat.reduceSub, Nat.reduceMul, Nat.reduceMod, Nat.reduceDiv, Nat.reduceBEq, RH, e_h1, e_h2]
  refine J.joinS (fun (t : Unit) => ([(0, .v (.int .i64 x1)), (1, .v (.int .u32 x2)), (2, .v (.int .u32 x3)), (7, .v (.bool (!(x4 == x5))))], [])) (fun t => ref01_MulBy_k1 fu x1 x2 x3 x4 x5) ?_ (fun hj1 => ?_)
  · rintro ⟨⟩
    show J _ (ref01_MulBy_k1 fu x1 x2 x3 x4 x5) _
    unfold ref01_MulBy_k1
    refine J.bind fun x6 h3 => ?_
    have e_h3 := H91_0 _ _ h3
    try simp only [NN, NT, LN] at e_h3
    refine J.bind fun x7 h4 => ?_
    have e_h4 := H92_0 _ _ h4
    try simp only [NN, NT, LN] at e_h4
    refine J.bind fun x8 h5 => ?_
    have e_h5 := H91_0 _ _ h5
    try simp only [NN, NT, LN] at e_h5
    refine J.bind fun x9 h6 => ?_
    have e_h6 := H92_0 _ _ h6
    try simp only [NN, NT, LN] at e_h6
    refine J.bind fun x10 h7 => ?_
    have e_h7 := H136_0 _ _ _ h7
    try simp only [NN, NT, LN] at e_h7
    refine J.bind fun x11 h8 => ?_
    have e_h8 := H96_0 _ _ h8
    try simp only [NN, NT, LN] at e_h8
    refine J.bind fun x12 h9 => ?_
    have e_h9 := H137_0 _ _ _ h9
    try simp only [NN, NT, LN] at e_h9
    refine J.bind fun x13 h10 => ?_
    have e_h10 := H94_0 _ _ _ _ _ h10
    try simp only [NN, NT, LN] at e_h10
    refine J.some ?_
    simp (maxSteps := 20000000) (disch := first | assumption | decide | with_unfolding_all rfl | omega | (simp only [LN] <;> omega) | (simp only [RO, OF])) only [RR, RM, LN, TT, d72_at, ↓reduceIte, Nat.reduceEqDiff, Nat.reduceLT, Nat.reduceLeDiff, Nat.reduceAdd, Nat.reduceSub, Nat.reduceMul, Nat.reduceMod, Nat.reduceDiv, Nat.reduceBEq, RH, e_h1, e_h2, e_h3, e_h4, e_h5, e_h6, e_h7, e_h8, e_h9, e_h10, FF, LN, NN, NT]
  · conv => arg 1; simp (maxSteps := 1000000) (disch := first | assumption | decide | with_unfolding_all rfl | omega | (simp only [LN] <;> omega) | (simp only [RO, OF])) only [RR, RM, LN, TT, d72_at, ↓reduceIte, Nat.reduceEqDiff, Nat.reduceLT, Nat.reduceLeDiff, Nat.reduceAdd, Nat.reduceSub, Nat.reduceMul, Nat.reduceMod, Nat.reduceDiv, Nat.reduceBEq, RH, e_h1, e_h2]
    refine J.eq go_seq ?_
    refine J.bind fun x14 h11 => ?_
    have e_h11 := H90_0 _ _ h11
    try simp only [NN, NT, LN] at e_h11
    conv => arg 1; simp (maxSteps := 1000000) (disch := first | assumption | decide | with_unfolding_all rfl | omega | (simp only [LN] <;> omega) | (simp only [RO, OF])) only [RR, RM, LN, TT, d72_at, ↓reduceIte, Nat.reduceEqDiff, Nat.reduceLT, Nat.reduceLeDiff, Nat.reduceAdd, Nat.reduceSub, Nat.reduceMul, Nat.reduceMod, Nat.reduceDiv, Nat.reduceBEq, RH, e_h1, e_h2, e_h11]
    refine J.ite (fun h12 => ?_) (fun h12 => ?_)
    · have h12' : x14 = true := h12
      conv => arg 1; simp (maxSteps := 1000000) (disch := first | assumption | decide | with_unfolding_all rfl | omega | (simp only [LN] <;> omega) | (simp only [RO, OF])) only [RR, RM, LN, TT, d72_at, ↓reduceIte, Nat.reduceEqDiff, Nat.reduceLT, Nat.reduceLeDiff, Nat.reduceAdd, Nat.reduceSub, Nat.reduceMul, Nat.reduceMod, Nat.reduceDiv, Nat.reduceBEq, RH, e_h1, e_h2, e_h11, h12']
      refine J.eq ret_seq ?_
      refine J.some ?_
      simp (maxSteps := 20000000) (disch := first | assumption | decide | with_unfolding_all rfl | omega | (simp only [LN] <;> omega) | (simp only [RO, OF])) only [RR, RM, LN, TT, d72_at, ↓reduceIte, Nat.reduceEqDiff, Nat.reduceLT, Nat.reduceLeDiff, Nat.reduceAdd, Nat.reduceSub, Nat.reduceMul, Nat.reduceMod, Nat.reduceDiv, Nat.reduceBEq, RH, e_h1, e_h2, e_h11, h12', FF, LN, NN, NT]
    · have h12' : x14 = false := Bool.eq_false_iff.2 h12
      refine J.bind fun x15 h13 => ?_
      have e_h13 := H90_0 _ _ h13
      try simp only [NN, NT, LN] at e_h13
      conv => arg 1; simp (maxSteps := 1000000) (disch := first | assumption | decide | with_unfolding_all rfl | omega | (simp only [LN] <;> omega) | (simp only [RO, OF])) only [RR, RM, LN, TT, d72_at, ↓reduceIte, Nat.reduceEqDiff, Nat.reduceLT, Nat.reduceLeDiff, Nat.reduceAdd, Nat.reduceSub, Nat.reduceMul, Nat.reduceMod, Nat.reduceDiv, Nat.reduceBEq, RH, e_h1, e_h2, e_h11, h12', e_h13]
      refine J.eq ret_seq ?_
      conv => arg 1; simp (maxSteps := 1000000) (disch := first | assumption | decide | with_unfolding_all rfl | omega | (simp only [LN] <;> omega) | (simp only [RO, OF])) only [RR, RM, LN, TT, d72_at, ↓reduceIte, Nat.reduceEqDiff, Nat.reduceLT, Nat.reduceLeDiff, Nat.reduceAdd, Nat.reduceSub, Nat.reduceMul, Nat.reduceMod, Nat.reduceDiv, Nat.reduceBEq, RH, e_h1, e_h2, e_h11, h12', e_h13]
      refine J.ite (fun h14 => ?_) (fun h14 => ?_)
      · have h14' : x15 = true := h14
        refine J.some ?_
        simp (maxSteps := 20000000) (disch := first | assumption | decide | with_unfolding_all rfl | omega | (simp only [LN] <;> omega) | (simp only [RO, OF])) only [RR, RM, LN, TT, d72_at, ↓reduceIte, Nat.reduceEqDiff, Nat.reduceLT, Nat.reduceLeDiff, Nat.reduceAdd, Nat.reduceSub, Nat.reduceMul, Nat.reduceMod, Nat.reduceDiv, Nat.reduceBEq, RH, e_h1, e_h2, e_h11, h12', e_h13, h14', FF, LN, NN, NT]
      · have h14' : x15 = false := Bool.eq_false_iff.2 h14
        conv => arg 1; simp (maxSteps := 1000000) (disch := first | assumption | decide | with_unfolding_all rfl | omega | (simp only [LN] <;> omega) | (simp only [RO, OF])) only [RR, RM, LN, TT, d72_at, ↓reduceIte, Nat.reduceEqDiff, Nat.reduceLT, Nat.reduceLeDiff, Nat.reduceAdd, Nat.reduceSub, Nat.reduceMul, Nat.reduceMod, Nat.reduceDiv, Nat.reduceBEq, RH, e_h1, e_h2, e_h11, h12', e_h13, h14']
        refine J.eq go_seq ?_
        refine J.bind fun x16 h15 => ?_
        have e_h15 := H91_0 _ _ h15
        try simp only [NN, NT, LN] at e_h15
        conv => arg 1; simp (maxSteps := 1000000) (disch := first | assumption | decide | with_unfolding_all rfl | omega | (simp only [LN] <;> omega) | (simp only [RO, OF])) only [RR, RM, LN, TT, d72_at, ↓reduceIte, Nat.reduceEqDiff, Nat.reduceLT, Nat.reduceLeDiff, Nat.reduceAdd, Nat.reduceSub, Nat.reduceMul, Nat.reduceMod, Nat.reduceDiv, Nat.reduceBEq, RH, e_h1, e_h2, e_h11, h12', e_h13, h14', e_h15]
        refine J.ite (fun h16 => ?_) (fun h16 => ?_)
        · have h16' := decide_eq_true h16
          conv => arg 1; simp (maxSteps := 1000000) (disch := first | assumption | decide | with_unfolding_all rfl | omega | (simp only [LN] <;> omega) | (simp only [RO, OF])) only [RR, RM, LN, TT, d72_at, ↓reduceIte, Nat.reduceEqDiff, Nat.reduceLT, Nat.reduceLeDiff, Nat.reduceAdd, Nat.reduceSub, Nat.reduceMul, Nat.reduceMod, Nat.reduceDiv, Nat.reduceBEq, RH, e_h1, e_h2, e_h11, h12', e_h13, h14', e_h15, h16']
          refine J.eq ret_seq ?_
          conv => arg 1; simp (maxSteps := 1000000) (disch := first | assumption | decide | with_unfolding_all rfl | omega | (simp only [LN] <;> omega) | (simp only [RO, OF])) only [RR, RM, LN, TT, d72_at, ↓reduceIte, Nat.reduceEqDiff, Nat.reduceLT, Nat.reduceLeDiff, Nat.reduceAdd, Nat.reduceSub, Nat.reduceMul, Nat.reduceMod, Nat.reduceDiv, Nat.reduceBEq, RH, e_h1, e_h2, e_h11, h12', e_h13, h14', e_h15, h16']
          refine J.joinS (fun (t : Unit) => ([(0, .v (.int .i64 x1)), (1, .v (.int .u32 x2)), (2, .v (.int .u32 x3)), (7, .v (.bool (!(x4 == x5))))], [])) (fun t => ref01_MulBy_k2 fu x4 x5) ?_ (fun hj2 => ?_)
          · rintro ⟨⟩
            show J _ (ref01_MulBy_k2 fu x4 x5) _
            unfold ref01_MulBy_k2
            refine J.bind fun x17 h17 => ?_
            have e_h17 := H135_0 _ _ _ h17
            try simp only [NN, NT, LN] at e_h17
            refine J.some ?_
            simp (maxSteps := 20000000) (disch := first | assumption | decide | with_unfolding_all rfl | omega | (simp only [LN] <;> omega) | (simp only [RO, OF])) only [RR, RM, LN, TT, d72_at, ↓reduceIte, Nat.reduceEqDiff, Nat.reduceLT, Nat.reduceLeDiff, Nat.reduceAdd, Nat.reduceSub, Nat.reduceMul, Nat.reduceMod, Nat.reduceDiv, Nat.reduceBEq, RH, e_h1, e_h2, e_h11, h12', e_h13, h14', e_h15, h16', e_h17, FF, LN, NN, NT]
          · refine J.eq go_seq ?_
            conv => arg 1; simp (maxSteps := 1000000) (disch := first | assumption | decide | with_unfolding_all rfl | omega | (simp only [LN] <;> omega) | (simp only [RO, OF])) only [RR, RM, LN, TT, d72_at, ↓reduceIte, Nat.reduceEqDiff, Nat.reduceLT, Nat.reduceLeDiff, Nat.reduceAdd, Nat.reduceSub, Nat.reduceMul, Nat.reduceMod, Nat.reduceDiv, Nat.reduceBEq, RH, e_h1, e_h2, e_h11, h12', e_h13, h14', e_h15, h16']
            refine J.ite (fun h18 => ?_) (fun h18 => ?_)
            · exact J.none
            · have h18' := decide_eq_false h18
              refine J.bind fun x18 h19 => ?_
              have e_h19 := H91_0 _ _ h19
              try simp only [NN, NT, LN] at e_h19
              conv => arg 1; simp (maxSteps := 1000000) (disch := first | assumption | decide | with_unfolding_all rfl | omega | (simp only [LN] <;> omega) | (simp only [RO, OF])) only [RR, RM, LN, TT, d72_at, ↓reduceIte, Nat.reduceEqDiff, Nat.reduceLT, Nat.reduceLeDiff, Nat.reduceAdd, Nat.reduceSub, Nat.reduceMul, Nat.reduceMod, Nat.reduceDiv, Nat.reduceBEq, RH, e_h1, e_h2, e_h11, h12', e_h13, h14', e_h15, h16', h18', e_h19]
              refine J.eq ret_seq ?_
              conv => arg 1; simp (maxSteps := 1000000) (disch := first | assumption | decide | with_unfolding_all rfl | omega | (simp only [LN] <;> omega) | (simp only [RO, OF])) only [RR, RM, LN, TT, d72_at, ↓reduceIte, Nat.reduceEqDiff, Nat.reduceLT, Nat.reduceLeDiff, Nat.reduceAdd, Nat.reduceSub, Nat.reduceMul, Nat.reduceMod, Nat.reduceDiv, Nat.reduceBEq, RH, e_h1, e_h2, e_h11, h12', e_h13, h14', e_h15, h16', h18', e_h19]
              refine J.ite (fun h20 => ?_) (fun h20 => ?_)
              · have h20' := decide_eq_true h20
                refine J.some ?_
                simp (maxSteps := 20000000) (disch := first | assumption | decide | with_unfolding_all rfl | omega | (simp only [LN] <;> omega) | (simp only [RO, OF])) only [RR, RM, LN, TT, d72_at, ↓reduceIte, Nat.reduceEqDiff, Nat.reduceLT, Nat.reduceLeDiff, Nat.reduceAdd, Nat.reduceSub, Nat.reduceMul, Nat.reduceMod, Nat.reduceDiv, Nat.reduceBEq, RH, e_h1, e_h2, e_h11, h12', e_h13, h14', e_h15, h16', h18', e_h19, h20', FF, LN, NN, NT]
              · have h20' := decide_eq_false h20
                conv => arg 1; simp (maxSteps := 1000000) (disch := first | assumption | decide | with_unfolding_all rfl | omega | (simp only [LN] <;> omega) | (simp only [RO, OF])) only [RR, RM, LN, TT, d72_at, ↓reduceIte, Nat.reduceEqDiff, Nat.reduceLT, Nat.reduceLeDiff, Nat.reduceAdd, Nat.reduceSub, Nat.reduceMul, Nat.reduceMod, Nat.reduceDiv, Nat.reduceBEq, RH, e_h1, e_h2, e_h11, h12', e_h13, h14', e_h15, h16', h18', e_h19, h20']
                refine J.jmp (t := ()) hj2 ?_ ?_
                · first | rfl | (simp only [LN, NN, NT])
                · first | (simp (disch := first | assumption | decide | with_unfolding_all rfl | omega | (simp only [LN] <;> omega) | (simp only [RO, OF])) only [RR, ↓reduceIte, Nat.reduceEqDiff, Nat.reduceLT, Nat.reduceLeDiff, Nat.reduceAdd, Nat.reduceSub, Nat.reduceMul, Nat.reduceMod, Nat.reduceDiv, Nat.reduceBEq, LN, NN, NT]; done) | (simp (disch := first | assumption | decide | with_unfolding_all rfl | omega | (simp only [LN] <;> omega) | (simp only [RO, OF])) only [RR, ↓reduceIte, Nat.reduceEqDiff, Nat.reduceLT, Nat.reduceLeDiff, Nat.reduceAdd, Nat.reduceSub, Nat.reduceMul, Nat.reduceMod, Nat.reduceDiv, Nat.reduceBEq, LN, fm_app, NN, NT]; done) | rfl
        · have h16' := decide_eq_false h16
          refine J.bind fun x19 h21 => ?_
          have e_h21 := H91_0 _ _ h21
          try simp only [NN, NT, LN] at e_h21
          conv => arg 1; simp (maxSteps := 1000000) (disch := first | assumption | decide | with_unfolding_all rfl | omega | (simp only [LN] <;> omega) | (simp only [RO, OF])) only [RR, RM, LN, TT, d72_at, ↓reduceIte, Nat.reduceEqDiff, Nat.reduceLT, Nat.reduceLeDiff, Nat.reduceAdd, Nat.reduceSub, Nat.reduceMul, Nat.reduceMod, Nat.reduceDiv, Nat.reduceBEq, RH, e_h1, e_h2, e_h11, h12', e_h13, h14', e_h15, h16', e_h21]
          refine J.eq ret_seq ?_
          conv => arg 1; simp (maxSteps := 1000000) (disch := first | assumption | decide | with_unfolding_all rfl | omega | (simp only [LN] <;> omega) | (simp only [RO, OF])) only [RR, RM, LN, TT, d72_at, ↓reduceIte, Nat.reduceEqDiff, Nat.reduceLT, Nat.reduceLeDiff, Nat.reduceAdd, Nat.reduceSub, Nat.reduceMul, Nat.reduceMod, Nat.reduceDiv, Nat.reduceBEq, RH, e_h1, e_h2, e_h11, h12', e_h13, h14', e_h15, h16', e_h21]
          refine J.ite (fun h22 => ?_) (fun h22 => ?_)
          · have h22' := decide_eq_true h22
            conv => arg 1; simp (maxSteps := 1000000) (disch := first | assumption | decide | with_unfolding_all rfl | omega | (simp only [LN] <;> omega) | (simp only [RO, OF])) only [RR, RM, LN, TT, d72_at, ↓reduceIte, Nat.reduceEqDiff, Nat.reduceLT, Nat.reduceLeDiff, Nat.reduceAdd, Nat.reduceSub, Nat.reduceMul, Nat.reduceMod, Nat.reduceDiv, Nat.reduceBEq, RH, e_h1, e_h2, e_h11, h12', e_h13, h14', e_h15, h16', e_h21, h22']
            refine J.joinS (fun (t : Unit) => ([(0, .v (.int .i64 x1)), (1, .v (.int .u32 x2)), (2, .v (.int .u32 x3)), (7, .v (.bool (!(x4 == x5))))], [])) (fun t => ref01_MulBy_k3 fu x4 x5) ?_ (fun hj3 => ?_)
            · rintro ⟨⟩
              show J _ (ref01_MulBy_k3 fu x4 x5) _
              unfold ref01_MulBy_k3
              refine J.bind fun x20 h23 => ?_
              have e_h23 := H135_0 _ _ _ h23
              try simp only [NN, NT, LN] at e_h23
              refine J.some ?_
              simp (maxSteps := 20000000) (disch := first | assumption | decide | with_unfolding_all rfl | omega | (simp only [LN] <;> omega) | (simp only [RO, OF])) only [RR, RM, LN, TT, d72_at, ↓reduceIte, Nat.reduceEqDiff, Nat.reduceLT, Nat.reduceLeDiff, Nat.reduceAdd, Nat.reduceSub, Nat.reduceMul, Nat.reduceMod, Nat.reduceDiv, Nat.reduceBEq, RH, e_h1, e_h2, e_h11, h12', e_h13, h14', e_h15, h16', e_h21, h22', e_h23, FF, LN, NN, NT]
            · refine J.eq go_seq ?_
              conv => arg 1; simp (maxSteps := 1000000) (disch := first | assumption | decide | with_unfolding_all rfl | omega | (simp only [LN] <;> omega) | (simp only [RO, OF])) only [RR, RM, LN, TT, d72_at, ↓reduceIte, Nat.reduceEqDiff, Nat.reduceLT, Nat.reduceLeDiff, Nat.reduceAdd, Nat.reduceSub, Nat.reduceMul, Nat.reduceMod, Nat.reduceDiv, Nat.reduceBEq, RH, e_h1, e_h2, e_h11, h12', e_h13, h14', e_h15, h16', e_h21, h22']
              refine J.ite (fun h24 => ?_) (fun h24 => ?_)
              · have h24' := decide_eq_true h24
                conv => arg 1; simp (maxSteps := 1000000) (disch := first | assumption | decide | with_unfolding_all rfl | omega | (simp only [LN] <;> omega) | (simp only [RO, OF])) only [RR, RM, LN, TT, d72_at, ↓reduceIte, Nat.reduceEqDiff, Nat.reduceLT, Nat.reduceLeDiff, Nat.reduceAdd, Nat.reduceSub, Nat.reduceMul, Nat.reduceMod, Nat.reduceDiv, Nat.reduceBEq, RH, e_h1, e_h2, e_h11, h12', e_h13, h14', e_h15, h16', e_h21, h22', h24']
                refine J.eq ret_seq ?_
                refine J.some ?_
                simp (maxSteps := 20000000) (disch := first | assumption | decide | with_unfolding_all rfl | omega | (simp only [LN] <;> omega) | (simp only [RO, OF])) only [RR, RM, LN, TT, d72_at, ↓reduceIte, Nat.reduceEqDiff, Nat.reduceLT, Nat.reduceLeDiff, Nat.reduceAdd, Nat.reduceSub, Nat.reduceMul, Nat.reduceMod, Nat.reduceDiv, Nat.reduceBEq, RH, e_h1, e_h2, e_h11, h12', e_h13, h14', e_h15, h16', e_h21, h22', h24', FF, LN, NN, NT]
              · have h24' := decide_eq_false h24
                conv => arg 1; simp (maxSteps := 1000000) (disch := first | assumption | decide | with_unfolding_all rfl | omega | (simp only [LN] <;> omega) | (simp only [RO, OF])) only [RR, RM, LN, TT, d72_at, ↓reduceIte, Nat.reduceEqDiff, Nat.reduceLT, Nat.reduceLeDiff, Nat.reduceAdd, Nat.reduceSub, Nat.reduceMul, Nat.reduceMod, Nat.reduceDiv, Nat.reduceBEq, RH, e_h1, e_h2, e_h11, h12', e_h13, h14', e_h15, h16', e_h21, h22', h24']
                refine J.eq ret_seq ?_
                conv => arg 1; simp (maxSteps := 1000000) (disch := first | assumption | decide | with_unfolding_all rfl | omega | (simp only [LN] <;> omega) | (simp only [RO, OF])) only [RR, RM, LN, TT, d72_at, ↓reduceIte, Nat.reduceEqDiff, Nat.reduceLT, Nat.reduceLeDiff, Nat.reduceAdd, Nat.reduceSub, Nat.reduceMul, Nat.reduceMod, Nat.reduceDiv, Nat.reduceBEq, RH, e_h1, e_h2, e_h11, h12', e_h13, h14', e_h15, h16', e_h21, h22', h24']
                refine J.ite (fun h25 => ?_) (fun h25 => ?_)
                · exact J.none
                · have h25' := decide_eq_false h25
                  conv => arg 1; simp (maxSteps := 1000000) (disch := first | assumption | decide | with_unfolding_all rfl | omega | (simp only [LN] <;> omega) | (simp only [RO, OF])) only [RR, RM, LN, TT, d72_at, ↓reduceIte, Nat.reduceEqDiff, Nat.reduceLT, Nat.reduceLeDiff, Nat.reduceAdd, Nat.reduceSub, Nat.reduceMul, Nat.reduceMod, Nat.reduceDiv, Nat.reduceBEq, RH, e_h1, e_h2, e_h11, h12', e_h13, h14', e_h15, h16', e_h21, h22', h24', h25']
                  refine J.jmp (t := ()) hj3 ?_ ?_
                  · first | rfl | (simp only [LN, NN, NT])
                  · first | (simp (disch := first | assumption | decide | with_unfolding_all rfl | omega | (simp only [LN] <;> omega) | (simp only [RO, OF])) only [RR, ↓reduceIte, Nat.reduceEqDiff, Nat.reduceLT, Nat.reduceLeDiff, Nat.reduceAdd, Nat.reduceSub, Nat.reduceMul, Nat.reduceMod, Nat.reduceDiv, Nat.reduceBEq, LN, NN, NT]; done) | (simp (disch := first | assumption | decide | with_unfolding_all rfl | omega | (simp only [LN] <;> omega) | (simp only [RO, OF])) only [RR, ↓reduceIte, Nat.reduceEqDiff, Nat.reduceLT, Nat.reduceLeDiff, Nat.reduceAdd, Nat.reduceSub, Nat.reduceMul, Nat.reduceMod, Nat.reduceDiv, Nat.reduceBEq, LN, fm_app, NN, NT]; done) | rfl
          · have h22' := decide_eq_false h22
            conv => arg 1; simp (maxSteps := 1000000) (disch := first | assumption | decide | with_unfolding_all rfl | omega | (simp only [LN] <;> omega) | (simp only [RO, OF])) only [RR, RM, LN, TT, d72_at, ↓reduceIte, Nat.reduceEqDiff, Nat.reduceLT, Nat.reduceLeDiff, Nat.reduceAdd, Nat.reduceSub, Nat.reduceMul, Nat.reduceMod, Nat.reduceDiv, Nat.reduceBEq, RH, e_h1, e_h2, e_h11, h12', e_h13, h14', e_h15, h16', e_h21, h22']
            refine J.jmp (t := ()) hj1 ?_ ?_
            · first | rfl | (simp only [LN, NN, NT])
            · first | (simp (disch := first | assumption | decide | with_unfolding_all rfl | omega | (simp only [LN] <;> omega) | (simp only [RO, OF])) only [RR, ↓reduceIte, Nat.reduceEqDiff, Nat.reduceLT, Nat.reduceLeDiff, Nat.reduceAdd, Nat.reduceSub, Nat.reduceMul, Nat.reduceMod, Nat.reduceDiv, Nat.reduceBEq, LN, NN, NT]; done) | (simp (disch := first | assumption | decide | with_unfolding_all rfl | omega | (simp only [LN] <;> omega) | (simp only [RO, OF])) only [RR, ↓reduceIte, Nat.reduceEqDiff, Nat.reduceLT, Nat.reduceLeDiff, Nat.reduceAdd, Nat.reduceSub, Nat.reduceMul, Nat.reduceMod, Nat.reduceDiv, Nat.reduceBEq, LN, fm_app, NN, NT]; done) | rfl
noncomputable def t72 (fu : Nat) : CallP := orE 93 (mkC (fun (t : Int) => ([.v (.int .u32 t)] : List AV)) (fun t => ref01_Below fu t) e93) (orE 90 (mkC (fun (t : Int) => ([.v (.int .u32 t)] : List AV)) (fun t => ref01_IsNone fu t) e90) (orE 91 (mkC (fun (t : Int) => ([.v (.int .u32 t)] : List AV)) (fun t => ref01_Abs fu t) e91) (orE 135 (mkC (fun (t : Bool × Int) => ([.v (.bool t.1), .v (.int .u32 t.2)] : List AV)) (fun t => ref01_signed fu t.1 t.2) e135) (orE 92 (mkC (fun (t : Int) => ([.v (.int .u32 t)] : List AV)) (fun t => ref01_Amount fu t) e92) (orE 136 (mkC (fun (t : (List Int) × (List Int)) => ([.arr t.1.length (lm (ik .u32) t.1), .arr t.2.length (lm (ik .u32) t.2)] : List AV)) (fun t => ref01_Times fu t.1 t.2) e136) (orE 96 (mkC (fun (t : Int) => ([.v (.int .u64 t)] : List AV)) (fun t => ref01_Of fu t) e96) (orE 137 (mkC (fun (t : (List Int) × Int) => ([.arr t.1.length (lm (ik .u32) t.1), .v (.int .i64 t.2)] : List AV)) (fun t => ref01_Twice fu t.1 t.2) e137) (orE 94 (mkC (fun (t : Int × Bool × (List Int) × (List Int)) => ([.v (.int .i64 t.1), .v (.bool t.2.1), .arr t.2.2.1.length (lm (ik .u32) t.2.2.1), .arr t.2.2.2.length (lm (ik .u32) t.2.2.2)] : List AV)) (fun t => ref01_Rounded fu t.1 t.2.1 t.2.2.1 t.2.2.2) e94) (noP)))))))))
theorem t72_ok (fu : Nat) : CpOK Tryz.prog (t72 fu ) := orE_ok (orE_ok (orE_ok (orE_ok (orE_ok (orE_ok (orE_ok (orE_ok (orE_ok (noP_ok) (mkC_ok (fun t b h => ok94 fu t.1 t.2.1 t.2.2.1 t.2.2.2  b h))) (mkC_ok (fun t b h => ok137 fu t.1 t.2  b h))) (mkC_ok (fun t b h => ok96 fu t  b h))) (mkC_ok (fun t b h => ok136 fu t.1 t.2  b h))) (mkC_ok (fun t b h => ok92 fu t  b h))) (mkC_ok (fun t b h => ok135 fu t.1 t.2  b h))) (mkC_ok (fun t b h => ok91 fu t  b h))) (mkC_ok (fun t b h => ok90 fu t  b h))) (mkC_ok (fun t b h => ok93 fu t  b h))
theorem ok72 (fu : Nat) (x1 : Int) (x2 : Int) (x3 : Int) (r) (h : ref01_MulBy fu x1 x2 x3 = some r) : PureOK Tryz.prog 72 [.v (.int .i64 x1), .v (.int .u32 x2), .v (.int .u32 x3)] (e72 r) :=
  pure_J mixed (cp := t72 fu ) (t72_ok fu  ) noI_ok i72 (w72 _ fu x1 x2 x3  (fun a0 r h => orE_hit (mkC_at (a := a0) (by intro a b h; first | (exact rfl) | (simp only [INJ, IJ] at h; first | exact h | (simp_all [Prod.ext_iff]) )) h)) (fun a0 r h => orE_miss (by decide) (orE_hit (mkC_at (a := a0) (by intro a b h; first | (exact rfl) | (simp only [INJ, IJ] at h; first | exact h | (simp_all [Prod.ext_iff]) )) h))) (fun a0 r h => orE_miss (by decide) (orE_miss (by decide) (orE_hit (mkC_at (a := a0) (by intro a b h; first | (exact rfl) | (simp only [INJ, IJ] at h; first | exact h | (simp_all [Prod.ext_iff]) )) h)))) (fun a0 a1 r h => orE_miss (by decide) (orE_miss (by decide) (orE_miss (by decide) (orE_hit (mkC_at (a := (a0, a1)) (by intro a b h; first | (exact rfl) | (simp only [INJ, IJ] at h; first | exact h | (simp_all [Prod.ext_iff]) )) h))))) (fun a0 r h => orE_miss (by decide) (orE_miss (by decide) (orE_miss (by decide) (orE_miss (by decide) (orE_hit (mkC_at (a := a0) (by intro a b h; first | (exact rfl) | (simp only [INJ, IJ] at h; first | exact h | (simp_all [Prod.ext_iff]) )) h)))))) (fun a0 a1 r h => orE_miss (by decide) (orE_miss (by decide) (orE_miss (by decide) (orE_miss (by decide) (orE_miss (by decide) (orE_hit (mkC_at (a := (a0, a1)) (by intro a b h; first | (exact rfl) | (simp only [INJ, IJ] at h; first | exact h | (simp_all [Prod.ext_iff]) )) h))))))) (fun a0 r h => orE_miss (by decide) (orE_miss (by decide) (orE_miss (by decide) (orE_miss (by decide) (orE_miss (by decide) (orE_miss (by decide) (orE_hit (mkC_at (a := a0) (by intro a b h; first | (exact rfl) | (simp only [INJ, IJ] at h; first | exact h | (simp_all [Prod.ext_iff]) )) h)))))))) (fun a0 a1 r h => orE_miss (by decide) (orE_miss (by decide) (orE_miss (by decide) (orE_miss (by decide) (orE_miss (by decide) (orE_miss (by decide) (orE_miss (by decide) (orE_hit (mkC_at (a := (a0, a1)) (by intro a b h; first | (exact rfl) | (simp only [INJ, IJ] at h; first | exact h | (simp_all [Prod.ext_iff]) )) h))))))))) (fun a0 a1 a2 a3 r h => orE_miss (by decide) (orE_miss (by decide) (orE_miss (by decide) (orE_miss (by decide) (orE_miss (by decide) (orE_miss (by decide) (orE_miss (by decide) (orE_miss (by decide) (orE_hit (mkC_at (a := (a0, a1, a2, a3)) (by intro a b h; first | (exact rfl) | (simp only [INJ, IJ] at h; first | exact h | (simp_all [Prod.ext_iff]) )) h))))))))))) h
/-! 39: lattice/latticeref01.Mul -/
def d39 : List (Nat × List Nat) := [(0, [4]), (0, []), (0, [0, 1, 5, 6, 7])]
def d39_at := And.intro (show d39.getD 0 (0, []) = (0, [4]) from rfl) <| And.intro (show d39.getD 1 (0, []) = (0, []) from rfl) <| (show d39.getD 2 (0, []) = (0, [0, 1, 5, 6, 7]) from rfl)
theorem i39 : finfo Tryz.prog 39 d39 = some ⟨bodyOf Tryz.f39, [.tmp 4], [24]⟩ := finfo_at Tryz.func39 rfl (by kernel_rfl) (by kernel_rfl)
def e39 : Int → AV := fun r => .v (.int .u32 r)
set_option maxHeartbeats 20000000 in
theorem w39 (cp : CallP) (fu : Nat) (x1 : Int) (x2 : Int) (H72_0 : ∀ (a0 : Int) (a1 : Int) (a2 : Int) r, ref01_MulBy fu a0 a1 a2 = some r → cp 72 [.v (.int .i64 a0), .v (.int .u32 a1), .v (.int .u32 a2)] = some (.v (.int .u32 r))) : J (go Tryz.prog noC cp noI 0 [] d39 fu (fin Tryz.prog [.tmp 4] [24]) (bodyOf Tryz.f39) (initE 0 [.v (.int .u32 x1), .v (.int .u32 x2)]) [] []) (ref01_Mul fu x1 x2) e39 := by
  unfold ref01_Mul e39
  refine J.bind fun x3 h1 => ?_
  have e_h1 := H72_0 _ _ _ _ h1
  try simp only [NN, NT, LN] at e_h1
  refine J.some ?_
  simp (maxSteps := 20000000) (disch := first | assumption | decide | with_unfolding_all rfl | omega | (simp only [LN] <;> omega) | (simp only [RO, OF])) only [bodyOf, Tryz.f39, RR, RM, LN, TT, d39_at, ↓reduceIte, Nat.reduceEqDiff, Nat.reduceLT, Nat.reduceLeDiff, Nat.reduceAdd, Nat.reduceSub, Nat.reduceMul, Nat.reduceMod, Nat.reduceDiv, Nat.reduceBEq, RH, e_h1, FF, LN, NN, NT]
noncomputable def t39 (fu : Nat) : CallP := orE 72 (mkC (fun (t : Int × Int × Int) => ([.v (.int .i64 t.1), .v (.int .u32 t.2.1), .v (.int .u32 t.2.2)] : List AV)) (fun t => ref01_MulBy fu t.1 t.2.1 t.2.2) e72) (noP)
theorem t39_ok (fu : Nat) : CpOK Tryz.prog (t39 fu ) := orE_ok (noP_ok) (mkC_ok (fun t b h => ok72 fu t.1 t.2.1 t.2.2  b h))
theorem ok39 (fu : Nat) (x1 : Int) (x2 : Int) (r) (h : ref01_Mul fu x1 x2 = some r) : PureOK Tryz.prog 39 [.v (.int .u32 x1), .v (.int .u32 x2)] (e39 r) :=
  pure_J mixed (cp := t39 fu ) (t39_ok fu  ) noI_ok i39 (w39 _ fu x1 x2  (fun a0 a1 a2 r h => orE_hit (mkC_at (a := (a0, a1, a2)) (by intro a b h; first | (exact rfl) | (simp only [INJ, IJ] at h; first | exact h | (simp_all [Prod.ext_iff]) )) h))) h
/-! 21: lattice/latticeref18.mul -/
def d21 : List (Nat × List Nat) := [(0, [4]), (0, []), (0, [0, 1, 5, 6, 7])]
def d21_at := And.intro (show d21.getD 0 (0, []) = (0, [4]) from rfl) <| And.intro (show d21.getD 1 (0, []) = (0, []) from rfl) <| (show d21.getD 2 (0, []) = (0, [0, 1, 5, 6, 7]) from rfl)
theorem i21 : finfo Tryz.prog 21 d21 = some ⟨bodyOf Tryz.f21, [.tmp 4], [24]⟩ := finfo_at Tryz.func21 rfl (by kernel_rfl) (by kernel_rfl)
def e21 : Int → AV := fun r => .v (.int .u32 r)
set_option maxHeartbeats 20000000 in
theorem w21 (cp : CallP) (fu : Nat) (x1 : Int) (x2 : Int) (H39_0 : ∀ (a0 : Int) (a1 : Int) r, ref01_Mul fu a0 a1 = some r → cp 39 [.v (.int .u32 a0), .v (.int .u32 a1)] = some (.v (.int .u32 r))) : J (go Tryz.prog noC cp noI 0 [] d21 fu (fin Tryz.prog [.tmp 4] [24]) (bodyOf Tryz.f21) (initE 0 [.v (.int .u32 x1), .v (.int .u32 x2)]) [] []) (ref18_mul fu x1 x2) e21 := by
  unfold ref18_mul e21
  refine J.bind fun x3 h1 => ?_
  have e_h1 := H39_0 _ _ _ h1
  try simp only [NN, NT, LN] at e_h1
  refine J.some ?_
  simp (maxSteps := 20000000) (disch := first | assumption | decide | with_unfolding_all rfl | omega | (simp only [LN] <;> omega) | (simp only [RO, OF])) only [bodyOf, Tryz.f21, RR, RM, LN, TT, d21_at, ↓reduceIte, Nat.reduceEqDiff, Nat.reduceLT, Nat.reduceLeDiff, Nat.reduceAdd, Nat.reduceSub, Nat.reduceMul, Nat.reduceMod, Nat.reduceDiv, Nat.reduceBEq, RH, e_h1, FF, LN, NN, NT]
noncomputable def t21 (fu : Nat) : CallP := orE 39 (mkC (fun (t : Int × Int) => ([.v (.int .u32 t.1), .v (.int .u32 t.2)] : List AV)) (fun t => ref01_Mul fu t.1 t.2) e39) (noP)
theorem t21_ok (fu : Nat) : CpOK Tryz.prog (t21 fu ) := orE_ok (noP_ok) (mkC_ok (fun t b h => ok39 fu t.1 t.2  b h))
theorem ok21 (fu : Nat) (x1 : Int) (x2 : Int) (r) (h : ref18_mul fu x1 x2 = some r) : PureOK Tryz.prog 21 [.v (.int .u32 x1), .v (.int .u32 x2)] (e21 r) :=
  pure_J mixed (cp := t21 fu ) (t21_ok fu  ) noI_ok i21 (w21 _ fu x1 x2  (fun a0 a1 r h => orE_hit (mkC_at (a := (a0, a1)) (by intro a b h; first | (exact rfl) | (simp only [INJ, IJ] at h; first | exact h | (simp_all [Prod.ext_iff]) )) h))) h
/-! 9: lattice/latticeref18.Dot -/
def d9 : List (Nat × List Nat) := [(0, [4]), (0, [0, 1, 6]), (0, [1000005]), (0, []), (0, []), (0, []), (0, [7, 8, 9, 10, 11, 12, 13, 14, 15]), (0, []), (0, [17, 18]), (0, []), (11, [19, 20, 21, 22, 23, 24, 25, 26, 27, 28, 29, 30]), (0, []), (0, [5, 31, 32])]
def d9_at := And.intro (show d9.getD 0 (0, []) = (0, [4]) from rfl) <| And.intro (show d9.getD 1 (0, []) = (0, [0, 1, 6]) from rfl) <| And.intro (show d9.getD 2 (0, []) = (0, [1000005]) from rfl) <| And.intro (show d9.getD 3 (0, []) = (0, []) from rfl) <| And.intro (show d9.getD 4 (0, []) = (0, []) from rfl) <| And.intro (show d9.getD 5 (0, []) = (0, []) from rfl) <| And.intro (show d9.getD 6 (0, []) = (0, [7, 8, 9, 10, 11, 12, 13, 14, 15]) from rfl) <| And.intro (show d9.getD 7 (0, []) = (0, []) from rfl) <| And.intro (show d9.getD 8 (0, []) = (0, [17, 18]) from rfl) <| And.intro (show d9.getD 9 (0, []) = (0, []) from rfl) <| And.intro (show d9.getD 10 (0, []) = (11, [19, 20, 21, 22, 23, 24, 25, 26, 27, 28, 29, 30]) from rfl) <| And.intro (show d9.getD 11 (0, []) = (0, []) from rfl) <| (show d9.getD 12 (0, []) = (0, [5, 31, 32]) from rfl)
theorem i9 : finfo Tryz.prog 9 d9 = some ⟨bodyOf Tryz.f9, [.tmp 4], [24]⟩ := finfo_at Tryz.func9 rfl (by kernel_rfl) (by kernel_rfl)
def e9 : Int → AV := fun r => .v (.int .u32 r)
set_option maxHeartbeats 20000000 in
theorem w9 (cp : CallP) (fu : Nat) (x1 : List Int) (x2 : List Int) (H21_0 : ∀ (a0 : Int) (a1 : Int) r, ref18_mul fu a0 a1 = some r → cp 21 [.v (.int .u32 a0), .v (.int .u32 a1)] = some (.v (.int .u32 r))) (H7_0 : ∀ (a0 : List Int) r, ref18_Sum fu a0 = some r → cp 7 [.arr a0.length (lm (ik .u32) a0)] = some (.v (.int .u32 r))) : J (go Tryz.prog noC cp noI 0 [] d9 fu (fin Tryz.prog [.tmp 4] [24]) (bodyOf Tryz.f9) (initE 0 [.arr x1.length (lm (ik .u32) x1), .arr x2.length (lm (ik .u32) x2)]) [] []) (ref18_Dot fu x1 x2) e9 := by
  unfold ref18_Dot e9
  conv => arg 1; simp (maxSteps := 1000000) (disch := first | assumption | decide | with_unfolding_all rfl | omega | (simp only [LN] <;> omega) | (simp only [RO, OF])) only [bodyOf, Tryz.f9, RR, RM, LN, TT, d9_at, ↓reduceIte, Nat.reduceEqDiff, Nat.reduceLT, Nat.reduceLeDiff, Nat.reduceAdd, Nat.reduceSub, Nat.reduceMul, Nat.reduceMod, Nat.reduceDiv, Nat.reduceBEq, RH]
  refine J.joinS (fun (t : List Int) => ([(5, .own (0, 5, 77) 0 t.length t.length)], [((0, 5, 77), .sl true true 1 t.length (lm (ik .u32) t))])) (fun t => ref18_Dot_k1 fu t) ?_ (fun hj1 => ?_)
  · rintro x3
    show J _ (ref18_Dot_k1 fu x3) _
    unfold ref18_Dot_k1
    refine J.bind fun x4 h1 => ?_
    have e_h1 := H7_0 _ _ h1
    try simp only [NN, NT, LN] at e_h1
    refine J.some ?_
    simp (maxSteps := 20000000) (disch := first | assumption | decide | with_unfolding_all rfl | omega | (simp only [LN] <;> omega) | (simp only [RO, OF])) only [RR, RM, LN, TT, d9_at, ↓reduceIte, Nat.reduceEqDiff, Nat.reduceLT, Nat.reduceLeDiff, Nat.reduceAdd, Nat.reduceSub, Nat.reduceMul, Nat.reduceMod, Nat.reduceDiv, Nat.reduceBEq, RH, e_h1, FF, LN, NN, NT]
  · conv => arg 1; simp (maxSteps := 1000000) (disch := first | assumption | decide | with_unfolding_all rfl | omega | (simp only [LN] <;> omega) | (simp only [RO, OF])) only [RR, RM, LN, TT, d9_at, ↓reduceIte, Nat.reduceEqDiff, Nat.reduceLT, Nat.reduceLeDiff, Nat.reduceAdd, Nat.reduceSub, Nat.reduceMul, Nat.reduceMod, Nat.reduceDiv, Nat.reduceBEq, RH]
    unfold ref18_Dot_W1
    refine J.loop (fun (s : (List Int) × Int) => ([(0, .arr x1.length (lm (ik .u32) x1)), (1, .arr x2.length (lm (ik .u32) x2)), (5, .own (0, 5, 77) 0 s.1.length s.1.length), (6, .v (.int .i64 s.2))], [((0, 5, 77), .sl true true 1 s.1.length (lm (ik .u32) s.1))])) (fun next s => ref18_Dot_L1 fu x1 x2 (fun x8 x9 => next (x8, x9)) s.1 s.2) (s0 := (([] : List Int), 0)) ?_ ?_ ?_
    · first | rfl | (simp only [LN, NN, NT])
    · first | (simp (disch := first | assumption | decide | with_unfolding_all rfl | omega | (simp only [LN] <;> omega) | (simp only [RO, OF])) only [RR, ↓reduceIte, Nat.reduceEqDiff, Nat.reduceLT, Nat.reduceLeDiff, Nat.reduceAdd, Nat.reduceSub, Nat.reduceMul, Nat.reduceMod, Nat.reduceDiv, Nat.reduceBEq, LN, NN, NT]; done) | (simp (disch := first | assumption | decide | with_unfolding_all rfl | omega | (simp only [LN] <;> omega) | (simp only [RO, OF])) only [RR, ↓reduceIte, Nat.reduceEqDiff, Nat.reduceLT, Nat.reduceLeDiff, Nat.reduceAdd, Nat.reduceSub, Nat.reduceMul, Nat.reduceMod, Nat.reduceDiv, Nat.reduceBEq, LN, fm_app, NN, NT]; done) | rfl
    rintro next k1 hn1 ⟨x8, x9⟩
    let nx1 : (List Int) → Int → Option Int := (fun x8 x9 => next (x8, x9))
    show J _ (ref18_Dot_L1 fu x1 x2 nx1 x8 x9) _
    unfold ref18_Dot_L1
    refine J.joinS (fun (t : Unit) => ([(0, .arr x1.length (lm (ik .u32) x1)), (1, .arr x2.length (lm (ik .u32) x2)), (5, .own (0, 5, 77) 0 x8.length x8.length), (6, .v (.int .i64 x9))], [((0, 5, 77), .sl true true 1 x8.length (lm (ik .u32) x8))])) (fun t => ref18_Dot_k2 fu nx1 x1 x2 x8 x9) ?_ (fun hj2 => ?_)
    · rintro ⟨⟩
      show J _ (ref18_Dot_k2 fu nx1 x1 x2 x8 x9) _
      unfold ref18_Dot_k2
      refine J.eq go_seq ?_
      refine J.at fun x13 h2 h3 h4 => ?_
      refine J.at fun x14 h5 h6 h7 => ?_
      refine J.bind fun x15 h8 => ?_
      have e_h8 := H21_0 _ _ _ h8
      try simp only [NN, NT, LN] at e_h8
      refine J.chk fun h9 => ?_
      conv => arg 1; simp (maxSteps := 1000000) (disch := first | assumption | decide | with_unfolding_all rfl | omega | (simp only [LN] <;> omega) | (simp only [RO, OF])) only [RR, RM, LN, TT, d9_at, ↓reduceIte, Nat.reduceEqDiff, Nat.reduceLT, Nat.reduceLeDiff, Nat.reduceAdd, Nat.reduceSub, Nat.reduceMul, Nat.reduceMod, Nat.reduceDiv, Nat.reduceBEq, RH, lm_ik h4, lm_ik h7, e_h8]
      refine J.eq ret_seq ?_
      conv => arg 1; simp (maxSteps := 1000000) (disch := first | assumption | decide | with_unfolding_all rfl | omega | (simp only [LN] <;> omega) | (simp only [RO, OF])) only [RR, RM, LN, TT, d9_at, ↓reduceIte, Nat.reduceEqDiff, Nat.reduceLT, Nat.reduceLeDiff, Nat.reduceAdd, Nat.reduceSub, Nat.reduceMul, Nat.reduceMod, Nat.reduceDiv, Nat.reduceBEq, RH, lm_ik h4, lm_ik h7, e_h8]
      refine J.next (s := (x8 ++ ([x15]), wk .i64 (x9 + 1))) hn1 ?_ ?_
      · first | rfl | (simp only [LN, NN, NT])
      · first | (simp (disch := first | assumption | decide | with_unfolding_all rfl | omega | (simp only [LN] <;> omega) | (simp only [RO, OF])) only [RR, ↓reduceIte, Nat.reduceEqDiff, Nat.reduceLT, Nat.reduceLeDiff, Nat.reduceAdd, Nat.reduceSub, Nat.reduceMul, Nat.reduceMod, Nat.reduceDiv, Nat.reduceBEq, LN, NN, NT]; done) | (simp (disch := first | assumption | decide | with_unfolding_all rfl | omega | (simp only [LN] <;> omega) | (simp only [RO, OF])) only [RR, ↓reduceIte, Nat.reduceEqDiff, Nat.reduceLT, Nat.reduceLeDiff, Nat.reduceAdd, Nat.reduceSub, Nat.reduceMul, Nat.reduceMod, Nat.reduceDiv, Nat.reduceBEq, LN, fm_app, NN, NT]; done) | rfl
    · refine J.eq go_seq ?_
      conv => arg 1; simp (maxSteps := 1000000) (disch := first | assumption | decide | with_unfolding_all rfl | omega | (simp only [LN] <;> omega) | (simp only [RO, OF])) only [RR, RM, LN, TT, d9_at, ↓reduceIte, Nat.reduceEqDiff, Nat.reduceLT, Nat.reduceLeDiff, Nat.reduceAdd, Nat.reduceSub, Nat.reduceMul, Nat.reduceMod, Nat.reduceDiv, Nat.reduceBEq, RH]
      refine J.ite (fun h10 => ?_) (fun h10 => ?_)
      · have h10' := decide_eq_true h10
        have h10'' : decide ((x1.length : Int) ≤ x9) = false := decide_eq_false (by omega)
        conv => arg 1; simp (maxSteps := 1000000) (disch := first | assumption | decide | with_unfolding_all rfl | omega | (simp only [LN] <;> omega) | (simp only [RO, OF])) only [RR, RM, LN, TT, d9_at, ↓reduceIte, Nat.reduceEqDiff, Nat.reduceLT, Nat.reduceLeDiff, Nat.reduceAdd, Nat.reduceSub, Nat.reduceMul, Nat.reduceMod, Nat.reduceDiv, Nat.reduceBEq, RH, h10'', h10']
        refine J.eq ret_seq ?_
        conv => arg 1; simp (maxSteps := 1000000) (disch := first | assumption | decide | with_unfolding_all rfl | omega | (simp only [LN] <;> omega) | (simp only [RO, OF])) only [RR, RM, LN, TT, d9_at, ↓reduceIte, Nat.reduceEqDiff, Nat.reduceLT, Nat.reduceLeDiff, Nat.reduceAdd, Nat.reduceSub, Nat.reduceMul, Nat.reduceMod, Nat.reduceDiv, Nat.reduceBEq, RH, h10'', h10']
        refine J.ite (fun h11 => ?_) (fun h11 => ?_)
        · have h11' := decide_eq_true h11
          have h11'' : decide ((x2.length : Int) ≤ x9) = false := decide_eq_false (by omega)
          conv => arg 1; simp (maxSteps := 1000000) (disch := first | assumption | decide | with_unfolding_all rfl | omega | (simp only [LN] <;> omega) | (simp only [RO, OF])) only [RR, RM, LN, TT, d9_at, ↓reduceIte, Nat.reduceEqDiff, Nat.reduceLT, Nat.reduceLeDiff, Nat.reduceAdd, Nat.reduceSub, Nat.reduceMul, Nat.reduceMod, Nat.reduceDiv, Nat.reduceBEq, RH, h10'', h10', h11'', h11']
          refine J.jmp (t := ()) hj2 ?_ ?_
          · first | rfl | (simp only [LN, NN, NT])
          · first | (simp (disch := first | assumption | decide | with_unfolding_all rfl | omega | (simp only [LN] <;> omega) | (simp only [RO, OF])) only [RR, ↓reduceIte, Nat.reduceEqDiff, Nat.reduceLT, Nat.reduceLeDiff, Nat.reduceAdd, Nat.reduceSub, Nat.reduceMul, Nat.reduceMod, Nat.reduceDiv, Nat.reduceBEq, LN, NN, NT]; done) | (simp (disch := first | assumption | decide | with_unfolding_all rfl | omega | (simp only [LN] <;> omega) | (simp only [RO, OF])) only [RR, ↓reduceIte, Nat.reduceEqDiff, Nat.reduceLT, Nat.reduceLeDiff, Nat.reduceAdd, Nat.reduceSub, Nat.reduceMul, Nat.reduceMod, Nat.reduceDiv, Nat.reduceBEq, LN, fm_app, NN, NT]; done) | rfl
        · have h11' := decide_eq_false h11
          have h11'' : decide ((x2.length : Int) ≤ x9) = true := decide_eq_true (by omega)
          conv => arg 1; simp (maxSteps := 1000000) (disch := first | assumption | decide | with_unfolding_all rfl | omega | (simp only [LN] <;> omega) | (simp only [RO, OF])) only [RR, RM, LN, TT, d9_at, ↓reduceIte, Nat.reduceEqDiff, Nat.reduceLT, Nat.reduceLeDiff, Nat.reduceAdd, Nat.reduceSub, Nat.reduceMul, Nat.reduceMod, Nat.reduceDiv, Nat.reduceBEq, RH, h10'', h10', h11'', h11']
          refine J.jmp (t := x8) hj1 ?_ ?_
          · first | rfl | (simp only [LN, NN, NT])
          · first | (simp (disch := first | assumption | decide | with_unfolding_all rfl | omega | (simp only [LN] <;> omega) | (simp only [RO, OF])) only [RR, ↓reduceIte, Nat.reduceEqDiff, Nat.reduceLT, Nat.reduceLeDiff, Nat.reduceAdd, Nat.reduceSub, Nat.reduceMul, Nat.reduceMod, Nat.reduceDiv, Nat.reduceBEq, LN, NN, NT]; done) | (simp (disch := first | assumption | decide | with_unfolding_all rfl | omega | (simp only [LN] <;> omega) | (simp only [RO, OF])) only [RR, ↓reduceIte, Nat.reduceEqDiff, Nat.reduceLT, Nat.reduceLeDiff, Nat.reduceAdd, Nat.reduceSub, Nat.reduceMul, Nat.reduceMod, Nat.reduceDiv, Nat.reduceBEq, LN, fm_app, NN, NT]; done) | rfl
      · have h10' := decide_eq_false h10
        have h10'' : decide ((x1.length : Int) ≤ x9) = true := decide_eq_true (by omega)
        conv => arg 1; simp (maxSteps := 1000000) (disch := first | assumption | decide | with_unfolding_all rfl | omega | (simp only [LN] <;> omega) | (simp only [RO, OF])) only [RR, RM, LN, TT, d9_at, ↓reduceIte, Nat.reduceEqDiff, Nat.reduceLT, Nat.reduceLeDiff, Nat.reduceAdd, Nat.reduceSub, Nat.reduceMul, Nat.reduceMod, Nat.reduceDiv, Nat.reduceBEq, RH, h10'', h10']
        refine J.eq ret_seq ?_
        conv => arg 1; simp (maxSteps := 1000000) (disch := first | assumption | decide | with_unfolding_all rfl | omega | (simp only [LN] <;> omega) | (simp only [RO, OF])) only [RR, RM, LN, TT, d9_at, ↓reduceIte, Nat.reduceEqDiff, Nat.reduceLT, Nat.reduceLeDiff, Nat.reduceAdd, Nat.reduceSub, Nat.reduceMul, Nat.reduceMod, Nat.reduceDiv, Nat.reduceBEq, RH, h10'', h10']
        refine J.jmp (t := x8) hj1 ?_ ?_
        · first | rfl | (simp only [LN, NN, NT])
        · first | (simp (disch := first | assumption | decide | with_unfolding_all rfl | omega | (simp only [LN] <;> omega) | (simp only [RO, OF])) only [RR, ↓reduceIte, Nat.reduceEqDiff, Nat.reduceLT, Nat.reduceLeDiff, Nat.reduceAdd, Nat.reduceSub, Nat.reduceMul, Nat.reduceMod, Nat.reduceDiv, Nat.reduceBEq, LN, NN, NT]; done) | (simp (disch := first | assumption | decide | with_unfolding_all rfl | omega | (simp only [LN] <;> omega) | (simp only [RO, OF])) only [RR, ↓reduceIte, Nat.reduceEqDiff, Nat.reduceLT, Nat.reduceLeDiff, Nat.reduceAdd, Nat.reduceSub, Nat.reduceMul, Nat.reduceMod, Nat.reduceDiv, Nat.reduceBEq, LN, fm_app, NN, NT]; done) | rfl
noncomputable def t9 (fu : Nat) : CallP := orE 21 (mkC (fun (t : Int × Int) => ([.v (.int .u32 t.1), .v (.int .u32 t.2)] : List AV)) (fun t => ref18_mul fu t.1 t.2) e21) (orE 7 (mkC (fun (t : List Int) => ([.arr t.length (lm (ik .u32) t)] : List AV)) (fun t => ref18_Sum fu t) e7) (noP))
theorem t9_ok (fu : Nat) : CpOK Tryz.prog (t9 fu ) := orE_ok (orE_ok (noP_ok) (mkC_ok (fun t b h => ok7 fu t  b h))) (mkC_ok (fun t b h => ok21 fu t.1 t.2  b h))
theorem ok9 (fu : Nat) (x1 : List Int) (x2 : List Int) (r) (h : ref18_Dot fu x1 x2 = some r) : PureOK Tryz.prog 9 [.arr x1.length (lm (ik .u32) x1), .arr x2.length (lm (ik .u32) x2)] (e9 r) :=
  pure_J mixed (cp := t9 fu ) (t9_ok fu  ) noI_ok i9 (w9 _ fu x1 x2  (fun a0 a1 r h => orE_hit (mkC_at (a := (a0, a1)) (by intro a b h; first | (exact rfl) | (simp only [INJ, IJ] at h; first | exact h | (simp_all [Prod.ext_iff]) )) h)) (fun a0 r h => orE_miss (by decide) (orE_hit (mkC_at (a := a0) (by intro a b h; first | (exact rfl) | (simp only [INJ, IJ] at h; first | exact h | (simp_all [Prod.ext_iff]) )) h)))) h
/-! 3: lattice/latticelaw18.QuickSums -/
def d3 : List (Nat × List Nat) := [(0, [4]), (0, []), (0, [6]), (0, []), (0, [0, 1, 5, 7, 8, 9, 10, 11, 12, 13, 14, 15, 16, 17, 18, 19, 20, 21, 22, 23])]
def d3_at := And.intro (show d3.getD 0 (0, []) = (0, [4]) from rfl) <| And.intro (show d3.getD 1 (0, []) = (0, []) from rfl) <| And.intro (show d3.getD 2 (0, []) = (0, [6]) from rfl) <| And.intro (show d3.getD 3 (0, []) = (0, []) from rfl) <| (show d3.getD 4 (0, []) = (0, [0, 1, 5, 7, 8, 9, 10, 11, 12, 13, 14, 15, 16, 17, 18, 19, 20, 21, 22, 23]) from rfl)
theorem i3 : finfo Tryz.prog 3 d3 = some ⟨bodyOf Tryz.f3, [.tmp 4], [4]⟩ := finfo_at Tryz.func3 rfl (by kernel_rfl) (by kernel_rfl)
def e3 : Bool → AV := fun r => .v (.bool r)
set_option maxHeartbeats 20000000 in
theorem w3 (cp : CallP) (fu : Nat) (x1 : List Int) (x2 : List Int) (H5 : cp 5 [] = some (.v (.bool true))) (H6_0 : ∀ (a0 : List Int) r, quick_Sum fu a0 = some r → cp 6 [.arr a0.length (lm (ik .u32) a0)] = some (.v (.int .u32 r))) (H7_0 : ∀ (a0 : List Int) r, ref18_Sum fu a0 = some r → cp 7 [.arr a0.length (lm (ik .u32) a0)] = some (.v (.int .u32 r))) (H8_0 : ∀ (a0 : List Int) (a1 : List Int) r, quick_Dot fu a0 a1 = some r → cp 8 [.arr a0.length (lm (ik .u32) a0), .arr a1.length (lm (ik .u32) a1)] = some (.v (.int .u32 r))) (H9_0 : ∀ (a0 : List Int) (a1 : List Int) r, ref18_Dot fu a0 a1 = some r → cp 9 [.arr a0.length (lm (ik .u32) a0), .arr a1.length (lm (ik .u32) a1)] = some (.v (.int .u32 r))) : J (go Tryz.prog noC cp noI 0 [] d3 fu (fin Tryz.prog [.tmp 4] [4]) (bodyOf Tryz.f3) (initE 0 [.arr x1.length (lm (ik .u32) x1), .arr x2.length (lm (ik .u32) x2)]) [] []) (law18_QuickSums fu x1 x2) e3 := by
  unfold law18_QuickSums e3
  conv => arg 1; simp (maxSteps := 1000000) (disch := first | assumption | decide | with_unfolding_all rfl | omega | (simp only [LN] <;> omega) | (simp only [RO, OF])) only [bodyOf, Tryz.f3, RR, RM, LN, TT, d3_at, ↓reduceIte, Nat.reduceEqDiff, Nat.reduceLT, Nat.reduceLeDiff, Nat.reduceAdd, Nat.reduceSub, Nat.reduceMul, Nat.reduceMod, Nat.reduceDiv, Nat.reduceBEq, RH, H5]
  refine J.eq go_seq ?_
  refine J.bind fun x3 h1 => ?_
  have e_h1 := H6_0 _ _ h1
  try simp only [NN, NT, LN] at e_h1
  refine J.bind fun x4 h2 => ?_
  have e_h2 := H7_0 _ _ h2
  try simp only [NN, NT, LN] at e_h2
  conv => arg 1; simp (maxSteps := 1000000) (disch := first | assumption | decide | with_unfolding_all rfl | omega | (simp only [LN] <;> omega) | (simp only [RO, OF])) only [RR, RM, LN, TT, d3_at, ↓reduceIte, Nat.reduceEqDiff, Nat.reduceLT, Nat.reduceLeDiff, Nat.reduceAdd, Nat.reduceSub, Nat.reduceMul, Nat.reduceMod, Nat.reduceDiv, Nat.reduceBEq, RH, H5, e_h1, e_h2]
  refine J.ite (fun h3 => ?_) (fun h3 => ?_)
  · have h3' := decide_eq_true h3
    refine J.bind fun x5 h4 => ?_
    have e_h4 := H8_0 _ _ _ h4
    try simp only [NN, NT, LN] at e_h4
    refine J.bind fun x6 h5 => ?_
    have e_h5 := H9_0 _ _ _ h5
    try simp only [NN, NT, LN] at e_h5
    conv => arg 1; simp (maxSteps := 1000000) (disch := first | assumption | decide | with_unfolding_all rfl | omega | (simp only [LN] <;> omega) | (simp only [RO, OF])) only [RR, RM, LN, TT, d3_at, ↓reduceIte, Nat.reduceEqDiff, Nat.reduceLT, Nat.reduceLeDiff, Nat.reduceAdd, Nat.reduceSub, Nat.reduceMul, Nat.reduceMod, Nat.reduceDiv, Nat.reduceBEq, RH, H5, e_h1, e_h2, h3', e_h4, e_h5]
    refine J.eq ret_seq ?_
    refine J.some ?_
    simp (maxSteps := 20000000) (disch := first | assumption | decide | with_unfolding_all rfl | omega | (simp only [LN] <;> omega) | (simp only [RO, OF])) only [RR, RM, LN, TT, d3_at, ↓reduceIte, Nat.reduceEqDiff, Nat.reduceLT, Nat.reduceLeDiff, Nat.reduceAdd, Nat.reduceSub, Nat.reduceMul, Nat.reduceMod, Nat.reduceDiv, Nat.reduceBEq, RH, H5, e_h1, e_h2, h3', e_h4, e_h5, FF, LN, NN, NT]
  · have h3' := decide_eq_false h3
    conv => arg 1; simp (maxSteps := 1000000) (disch := first | assumption | decide | with_unfolding_all rfl | omega | (simp only [LN] <;> omega) | (simp only [RO, OF])) only [RR, RM, LN, TT, d3_at, ↓reduceIte, Nat.reduceEqDiff, Nat.reduceLT, Nat.reduceLeDiff, Nat.reduceAdd, Nat.reduceSub, Nat.reduceMul, Nat.reduceMod, Nat.reduceDiv, Nat.reduceBEq, RH, H5, e_h1, e_h2, h3']
    refine J.eq ret_seq ?_
    refine J.some ?_
    simp (maxSteps := 20000000) (disch := first | assumption | decide | with_unfolding_all rfl | omega | (simp only [LN] <;> omega) | (simp only [RO, OF])) only [RR, RM, LN, TT, d3_at, ↓reduceIte, Nat.reduceEqDiff, Nat.reduceLT, Nat.reduceLeDiff, Nat.reduceAdd, Nat.reduceSub, Nat.reduceMul, Nat.reduceMod, Nat.reduceDiv, Nat.reduceBEq, RH, H5, e_h1, e_h2, h3', FF, LN, NN, NT]
noncomputable def t3 (fu : Nat) : CallP := orE 5 (mkC (fun (_ : Unit) => ([] : List AV)) (fun _ => some true) (fun b => .v (.bool b))) (orE 6 (mkC (fun (t : List Int) => ([.arr t.length (lm (ik .u32) t)] : List AV)) (fun t => quick_Sum fu t) e6) (orE 7 (mkC (fun (t : List Int) => ([.arr t.length (lm (ik .u32) t)] : List AV)) (fun t => ref18_Sum fu t) e7) (orE 8 (mkC (fun (t : (List Int) × (List Int)) => ([.arr t.1.length (lm (ik .u32) t.1), .arr t.2.length (lm (ik .u32) t.2)] : List AV)) (fun t => quick_Dot fu t.1 t.2) e8) (orE 9 (mkC (fun (t : (List Int) × (List Int)) => ([.arr t.1.length (lm (ik .u32) t.1), .arr t.2.length (lm (ik .u32) t.2)] : List AV)) (fun t => ref18_Dot fu t.1 t.2) e9) (noP)))))
theorem t3_ok (fu : Nat) : CpOK Tryz.prog (t3 fu ) := orE_ok (orE_ok (orE_ok (orE_ok (orE_ok (noP_ok) (mkC_ok (fun t b h => ok9 fu t.1 t.2  b h))) (mkC_ok (fun t b h => ok8 fu t.1 t.2  b h))) (mkC_ok (fun t b h => ok7 fu t  b h))) (mkC_ok (fun t b h => ok6 fu t  b h))) (mkC_ok (fun _ b h => by injection h with h; subst h; exact awake5))
theorem ok3 (fu : Nat) (x1 : List Int) (x2 : List Int) (r) (h : law18_QuickSums fu x1 x2 = some r) : PureOK Tryz.prog 3 [.arr x1.length (lm (ik .u32) x1), .arr x2.length (lm (ik .u32) x2)] (e3 r) :=
  pure_J mixed (cp := t3 fu ) (t3_ok fu  ) noI_ok i3 (w3 _ fu x1 x2  (orE_hit (mkC_at (a := ()) (fun _ _ _ => rfl) rfl)) (fun a0 r h => orE_miss (by decide) (orE_hit (mkC_at (a := a0) (by intro a b h; first | (exact rfl) | (simp only [INJ, IJ] at h; first | exact h | (simp_all [Prod.ext_iff]) )) h))) (fun a0 r h => orE_miss (by decide) (orE_miss (by decide) (orE_hit (mkC_at (a := a0) (by intro a b h; first | (exact rfl) | (simp only [INJ, IJ] at h; first | exact h | (simp_all [Prod.ext_iff]) )) h)))) (fun a0 a1 r h => orE_miss (by decide) (orE_miss (by decide) (orE_miss (by decide) (orE_hit (mkC_at (a := (a0, a1)) (by intro a b h; first | (exact rfl) | (simp only [INJ, IJ] at h; first | exact h | (simp_all [Prod.ext_iff]) )) h))))) (fun a0 a1 r h => orE_miss (by decide) (orE_miss (by decide) (orE_miss (by decide) (orE_miss (by decide) (orE_hit (mkC_at (a := (a0, a1)) (by intro a b h; first | (exact rfl) | (simp only [INJ, IJ] at h; first | exact h | (simp_all [Prod.ext_iff]) )) h))))))) h
end Go.Av
