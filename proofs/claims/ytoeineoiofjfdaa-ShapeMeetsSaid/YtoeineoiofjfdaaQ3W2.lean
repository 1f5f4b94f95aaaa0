/- The walks of the plain functions, part 2. Made by a program of mine. Conditions: none. -/
import Derived.Test.YtoeineoiofjfdaaQ3W1
set_option linter.unusedVariables false
set_option linter.unusedSimpArgs false
set_option linter.defProp false
set_option maxRecDepth 4000
open Go Go.Proofs
namespace Go.Av
/-! 13: lattice/latticelaw04.awake -/
def d13 : List (Nat × List Nat) := [(0, [0]), (0, []), (0, [21, 22, 23, 24, 25]), (0, []), (0, [26, 27, 28, 29, 30]), (0, []), (0, [31, 32, 33, 34, 35]), (0, []), (0, [36, 37, 38, 39, 40, 41]), (0, []), (0, [42, 43, 44, 45, 46, 47]), (0, []), (0, [48, 49, 50, 51, 52, 53]), (0, []), (0, [54, 55, 56, 57]), (0, []), (0, [58, 59, 60, 61, 62]), (0, []), (0, [17, 63, 64, 65, 66, 67]), (0, []), (0, [2, 4, 6, 8, 10, 12, 14, 16, 18, 68, 69, 70, 71, 72, 73, 74, 75, 76, 77, 78, 79, 80, 81, 82, 83, 84, 85, 86, 87, 88, 89, 90, 91, 92, 93, 94, 95, 96, 97, 98, 99, 100, 101]), (0, []), (0, [3, 5, 9, 15, 102, 103, 104, 105, 106, 107, 108, 109, 110, 111, 112, 113, 114, 115, 116, 117, 118, 119, 120, 121, 122, 123, 124, 125, 126, 127, 128, 129, 130, 131, 132, 133, 134, 135, 2000000000]), (0, []), (0, [1, 7, 11, 13, 19, 20, 136, 137, 138, 139, 140, 141, 142, 143, 144, 145, 146, 147, 148, 149, 150, 151, 152, 153, 154, 155])]
def d13_at := And.intro (show d13.getD 0 (0, []) = (0, [0]) from rfl) <| And.intro (show d13.getD 1 (0, []) = (0, []) from rfl) <| And.intro (show d13.getD 2 (0, []) = (0, [21, 22, 23, 24, 25]) from rfl) <| And.intro (show d13.getD 3 (0, []) = (0, []) from rfl) <| And.intro (show d13.getD 4 (0, []) = (0, [26, 27, 28, 29, 30]) from rfl) <| And.intro (show d13.getD 5 (0, []) = (0, []) from rfl) <| And.intro (show d13.getD 6 (0, []) = (0, [31, 32, 33, 34, 35]) from rfl) <| And.intro (show d13.getD 7 (0, []) = (0, []) from rfl) <| And.intro (show d13.getD 8 (0, []) = (0, [36, 37, 38, 39, 40, 41]) from rfl) <| And.intro (show d13.getD 9 (0, []) = (0, []) from rfl) <| And.intro (show d13.getD 10 (0, []) = (0, [42, 43, 44, 45, 46, 47]) from rfl) <| And.intro (show d13.getD 11 (0, []) = (0, []) from rfl) <| And.intro (show d13.getD 12 (0, []) = (0, [48, 49, 50, 51, 52, 53]) from rfl) <| And.intro (show d13.getD 13 (0, []) = (0, []) from rfl) <| And.intro (show d13.getD 14 (0, []) = (0, [54, 55, 56, 57]) from rfl) <| And.intro (show d13.getD 15 (0, []) = (0, []) from rfl) <| And.intro (show d13.getD 16 (0, []) = (0, [58, 59, 60, 61, 62]) from rfl) <| And.intro (show d13.getD 17 (0, []) = (0, []) from rfl) <| And.intro (show d13.getD 18 (0, []) = (0, [17, 63, 64, 65, 66, 67]) from rfl) <| And.intro (show d13.getD 19 (0, []) = (0, []) from rfl) <| And.intro (show d13.getD 20 (0, []) = (0, [2, 4, 6, 8, 10, 12, 14, 16, 18, 68, 69, 70, 71, 72, 73, 74, 75, 76, 77, 78, 79, 80, 81, 82, 83, 84, 85, 86, 87, 88, 89, 90, 91, 92, 93, 94, 95, 96, 97, 98, 99, 100, 101]) from rfl) <| And.intro (show d13.getD 21 (0, []) = (0, []) from rfl) <| And.intro (show d13.getD 22 (0, []) = (0, [3, 5, 9, 15, 102, 103, 104, 105, 106, 107, 108, 109, 110, 111, 112, 113, 114, 115, 116, 117, 118, 119, 120, 121, 122, 123, 124, 125, 126, 127, 128, 129, 130, 131, 132, 133, 134, 135, 2000000000]) from rfl) <| And.intro (show d13.getD 23 (0, []) = (0, []) from rfl) <| (show d13.getD 24 (0, []) = (0, [1, 7, 11, 13, 19, 20, 136, 137, 138, 139, 140, 141, 142, 143, 144, 145, 146, 147, 148, 149, 150, 151, 152, 153, 154, 155]) from rfl)
theorem i13 : finfo Try.prog 13 d13 = some ⟨bodyOf Try.f13, [.tmp 0], [4]⟩ := finfo_at Try.func13 rfl (by kernel_rfl) (by kernel_rfl)
def e13 : Bool → AV := fun r => .v (.bool r)
set_option maxHeartbeats 1000000 in
theorem w13 (cp : CallP) (fu : Nat) (H15_0 : ∀ (a0 : List Int) r, shape_Size fu a0 = some r → cp 15 [.arr a0.length (lm (ik .i64) a0)] = some (.tuple [.v (.int .i64 r.1), .v (.int .i64 r.2)])) (H17_0 : ∀ (a0 : List Int) r, shape_Strides fu a0 = some r → cp 17 [.arr a0.length (lm (ik .i64) a0)] = some (.tuple [.fresh 1 r.1.length (lm (ik .i64) r.1), .v (.int .i64 r.2)])) (H19_0 : ∀ (a0 : List Int) (a1 : Int) r, shape_Index fu a0 a1 = some r → cp 19 [.arr a0.length (lm (ik .i64) a0), .v (.int .i64 a1)] = some (.tuple [.fresh 1 r.1.length (lm (ik .i64) r.1), .v (.int .i64 r.2)])) (H21_0 : ∀ (a0 : List Int) (a1 : List Int) r, shape_Offset fu a0 a1 = some r → cp 21 [.arr a0.length (lm (ik .i64) a0), .arr a1.length (lm (ik .i64) a1)] = some (.tuple [.v (.int .i64 r.1), .v (.int .i64 r.2)])) (H25_0 : ∀ (a0 : List Int) (a1 : List Int) r, shape_Broadcast fu a0 a1 = some r → cp 25 [.arr a0.length (lm (ik .i64) a0), .arr a1.length (lm (ik .i64) a1)] = some (.tuple [.fresh 1 r.1.length (lm (ik .i64) r.1), .v (.int .i64 r.2)])) (H27_0 : ∀ (a0 : List Int) (a1 : List Int) (a2 : Int) r, shape_From fu a0 a1 a2 = some r → cp 27 [.arr a0.length (lm (ik .i64) a0), .arr a1.length (lm (ik .i64) a1), .v (.int .i64 a2)] = some (.tuple [.v (.int .i64 r.1), .v (.int .i64 r.2)])) (H51_0 : ∀ (a0 : Int) (a1 : Int) r, shape_Axis fu a0 a1 = some r → cp 51 [.v (.int .i64 a0), .v (.int .i64 a1)] = some (.tuple [.v (.int .i64 r.1), .v (.int .i64 r.2)])) (H52_0 : ∀ (a0 : List Int) (a1 : Int) r, shape_Axes fu a0 a1 = some r → cp 52 [.arr a0.length (lm (ik .i64) a0), .v (.int .i64 a1)] = some (.tuple [.fresh 1 r.1.length (lm (bk) r.1), .v (.int .i64 r.2)])) (H23_0 : ∀ (a0 : List Int) (a1 : List Int) r, ref04_SameInts fu a0 a1 = some r → cp 23 [.arr a0.length (lm (ik .i64) a0), .arr a1.length (lm (ik .i64) a1)] = some (.v (.bool r))) : J (go Try.prog noC cp noI 0 [] d13 fu (fin Try.prog [.tmp 0] [4]) (bodyOf Try.f13) (initE 0 []) [] []) (law04_awake fu) e13 := by
  unfold law04_awake e13
  refine J.bind fun x1 h1 => ?_
  have e_h1 := H15_0 _ _ h1
  try simp only [NN, NT, LN] at e_h1
  refine J.bind fun x2 h2 => ?_
  have e_h2 := H17_0 _ _ h2
  try simp only [NN, NT, LN] at e_h2
  refine J.bind fun x3 h3 => ?_
  have e_h3 := H19_0 _ _ _ h3
  try simp only [NN, NT, LN] at e_h3
  refine J.bind fun x4 h4 => ?_
  have e_h4 := H21_0 _ _ _ h4
  try simp only [NN, NT, LN] at e_h4
  refine J.bind fun x5 h5 => ?_
  have e_h5 := H25_0 _ _ _ h5
  try simp only [NN, NT, LN] at e_h5
  refine J.bind fun x6 h6 => ?_
  have e_h6 := H27_0 _ _ _ _ h6
  try simp only [NN, NT, LN] at e_h6
  refine J.bind fun x7 h7 => ?_
  have e_h7 := H51_0 _ _ _ h7
  try simp only [NN, NT, LN] at e_h7
  refine J.bind fun x8 h8 => ?_
  have e_h8 := H52_0 _ _ _ h8
  try simp only [NN, NT, LN] at e_h8
  refine J.bind fun x9 h9 => ?_
  have e_h9 := H15_0 _ _ h9
  try simp only [NN, NT, LN] at e_h9
  conv => arg 1; simp (disch := first | assumption | decide | with_unfolding_all rfl | omega | (simp only [LN] <;> omega) | (simp only [RO, OF])) only [bodyOf, Try.f13, RR, RM, LN, TT, d13_at, ↓reduceIte, Nat.reduceEqDiff, Nat.reduceLT, Nat.reduceLeDiff, Nat.reduceAdd, Nat.reduceSub, Nat.reduceMul, Nat.reduceMod, Nat.reduceDiv, Nat.reduceBEq, e_h1, e_h2, e_h3, e_h4, e_h5, e_h6, e_h7, e_h8, e_h9]
  refine J.joinS (fun (t : Bool) => ([(1, .v (.int .i64 x1.1)), (3, .own (0, 28, 0) 0 x2.1.length x2.1.length), (5, .own (0, 33, 0) 0 x3.1.length x3.1.length), (7, .v (.int .i64 x4.1)), (9, .own (0, 45, 0) 0 x5.1.length x5.1.length), (11, .v (.int .i64 x6.1)), (13, .v (.int .i64 x7.1)), (15, .own (0, 60, 0) 0 x8.1.length x8.1.length), (19, .v (.bool t))], [((0, 22, 0), .sl true true 1 2 ([.v (.int .i64 2), .v (.int .i64 3)])), ((0, 27, 0), .sl true true 1 3 ([.v (.int .i64 2), .v (.int .i64 3), .v (.int .i64 4)])), ((0, 28, 0), .sl true true 1 x2.1.length (lm (ik .i64) x2.1)), ((0, 32, 0), .sl true true 1 2 ([.v (.int .i64 2), .v (.int .i64 3)])), ((0, 33, 0), .sl true true 1 x3.1.length (lm (ik .i64) x3.1)), ((0, 37, 0), .sl true true 1 2 ([.v (.int .i64 2), .v (.int .i64 3)])), ((0, 38, 0), .sl true true 1 2 ([.v (.int .i64 1), .v (.int .i64 1)])), ((0, 43, 0), .sl true true 1 2 ([.v (.int .i64 3), .v (.int .i64 1)])), ((0, 44, 0), .sl true true 1 3 ([.v (.int .i64 2), .v (.int .i64 1), .v (.int .i64 4)])), ((0, 45, 0), .sl true true 1 x5.1.length (lm (ik .i64) x5.1)), ((0, 49, 0), .sl true true 1 2 ([.v (.int .i64 3), .v (.int .i64 1)])), ((0, 50, 0), .sl true true 1 3 ([.v (.int .i64 2), .v (.int .i64 3), .v (.int .i64 4)])), ((0, 59, 0), .sl true true 1 2 ([.v (.int .i64 0), .v (.int .i64 (-1))])), ((0, 60, 0), .sl true true 1 x8.1.length (lm (bk) x8.1)), ((0, 64, 0), .sl true true 1 2 ([.v (.int .i64 64), .v (.int .i64 65)]))])) (fun t => law04_awake_k1 fu x1 x2 x3 x4 x5 x6 x7 x8 t) ?_ (fun hj1 => ?_)
  · rintro x10
    show J _ (law04_awake_k1 fu x1 x2 x3 x4 x5 x6 x7 x8 x10) _
    unfold law04_awake_k1
    refine J.joinS (fun (t : Bool) => ([(1, .v (.int .i64 x1.1)), (7, .v (.int .i64 x4.1)), (11, .v (.int .i64 x6.1)), (13, .v (.int .i64 x7.1)), (19, .v (.bool x10)), (20, .v (.bool t))], [])) (fun t => law04_awake_k2 fu x1 x4 x6 x7 x10 t) ?_ (fun hj2 => ?_)
    · rintro x11
      show J _ (law04_awake_k2 fu x1 x4 x6 x7 x10 x11) _
      unfold law04_awake_k2
      refine J.eq go_seq ?_
      conv => arg 1; simp (disch := first | assumption | decide | with_unfolding_all rfl | omega | (simp only [LN] <;> omega) | (simp only [RO, OF])) only [RR, RM, LN, TT, d13_at, ↓reduceIte, Nat.reduceEqDiff, Nat.reduceLT, Nat.reduceLeDiff, Nat.reduceAdd, Nat.reduceSub, Nat.reduceMul, Nat.reduceMod, Nat.reduceDiv, Nat.reduceBEq, e_h1, e_h2, e_h3, e_h4, e_h5, e_h6, e_h7, e_h8, e_h9]
      refine J.ite (fun h10 => ?_) (fun h10 => ?_)
      · have h10' : x10 = true := h10
        conv => arg 1; simp (disch := first | assumption | decide | with_unfolding_all rfl | omega | (simp only [LN] <;> omega) | (simp only [RO, OF])) only [RR, RM, LN, TT, d13_at, ↓reduceIte, Nat.reduceEqDiff, Nat.reduceLT, Nat.reduceLeDiff, Nat.reduceAdd, Nat.reduceSub, Nat.reduceMul, Nat.reduceMod, Nat.reduceDiv, Nat.reduceBEq, e_h1, e_h2, e_h3, e_h4, e_h5, e_h6, e_h7, e_h8, e_h9, h10']
        refine J.ite (fun h11 => ?_) (fun h11 => ?_)
        · have h11' : x11 = true := h11
          conv => arg 1; simp (disch := first | assumption | decide | with_unfolding_all rfl | omega | (simp only [LN] <;> omega) | (simp only [RO, OF])) only [RR, RM, LN, TT, d13_at, ↓reduceIte, Nat.reduceEqDiff, Nat.reduceLT, Nat.reduceLeDiff, Nat.reduceAdd, Nat.reduceSub, Nat.reduceMul, Nat.reduceMod, Nat.reduceDiv, Nat.reduceBEq, e_h1, e_h2, e_h3, e_h4, e_h5, e_h6, e_h7, e_h8, e_h9, h10', h11']
          refine J.ite (fun h12 => ?_) (fun h12 => ?_)
          · have h12' := decide_eq_true h12
            conv => arg 1; simp (disch := first | assumption | decide | with_unfolding_all rfl | omega | (simp only [LN] <;> omega) | (simp only [RO, OF])) only [RR, RM, LN, TT, d13_at, ↓reduceIte, Nat.reduceEqDiff, Nat.reduceLT, Nat.reduceLeDiff, Nat.reduceAdd, Nat.reduceSub, Nat.reduceMul, Nat.reduceMod, Nat.reduceDiv, Nat.reduceBEq, e_h1, e_h2, e_h3, e_h4, e_h5, e_h6, e_h7, e_h8, e_h9, h10', h11', h12']
            refine J.ite (fun h13 => ?_) (fun h13 => ?_)
            · have h13' := decide_eq_true h13
              conv => arg 1; simp (disch := first | assumption | decide | with_unfolding_all rfl | omega | (simp only [LN] <;> omega) | (simp only [RO, OF])) only [RR, RM, LN, TT, d13_at, ↓reduceIte, Nat.reduceEqDiff, Nat.reduceLT, Nat.reduceLeDiff, Nat.reduceAdd, Nat.reduceSub, Nat.reduceMul, Nat.reduceMod, Nat.reduceDiv, Nat.reduceBEq, e_h1, e_h2, e_h3, e_h4, e_h5, e_h6, e_h7, e_h8, e_h9, h10', h11', h12', h13']
              refine J.ite (fun h14 => ?_) (fun h14 => ?_)
              · have h14' := decide_eq_true h14
                conv => arg 1; simp (disch := first | assumption | decide | with_unfolding_all rfl | omega | (simp only [LN] <;> omega) | (simp only [RO, OF])) only [RR, RM, LN, TT, d13_at, ↓reduceIte, Nat.reduceEqDiff, Nat.reduceLT, Nat.reduceLeDiff, Nat.reduceAdd, Nat.reduceSub, Nat.reduceMul, Nat.reduceMod, Nat.reduceDiv, Nat.reduceBEq, e_h1, e_h2, e_h3, e_h4, e_h5, e_h6, e_h7, e_h8, e_h9, h10', h11', h12', h13', h14']
                refine J.eq ret_seq ?_
                refine J.some ?_
                simp (disch := first | assumption | decide | with_unfolding_all rfl | omega | (simp only [LN] <;> omega) | (simp only [RO, OF])) only [RR, RM, LN, TT, d13_at, ↓reduceIte, Nat.reduceEqDiff, Nat.reduceLT, Nat.reduceLeDiff, Nat.reduceAdd, Nat.reduceSub, Nat.reduceMul, Nat.reduceMod, Nat.reduceDiv, Nat.reduceBEq, e_h1, e_h2, e_h3, e_h4, e_h5, e_h6, e_h7, e_h8, e_h9, h10', h11', h12', h13', h14', FF, LN, NN, NT]
              · have h14' := decide_eq_false h14
                conv => arg 1; simp (disch := first | assumption | decide | with_unfolding_all rfl | omega | (simp only [LN] <;> omega) | (simp only [RO, OF])) only [RR, RM, LN, TT, d13_at, ↓reduceIte, Nat.reduceEqDiff, Nat.reduceLT, Nat.reduceLeDiff, Nat.reduceAdd, Nat.reduceSub, Nat.reduceMul, Nat.reduceMod, Nat.reduceDiv, Nat.reduceBEq, e_h1, e_h2, e_h3, e_h4, e_h5, e_h6, e_h7, e_h8, e_h9, h10', h11', h12', h13', h14']
                refine J.eq ret_seq ?_
                refine J.some ?_
                simp (disch := first | assumption | decide | with_unfolding_all rfl | omega | (simp only [LN] <;> omega) | (simp only [RO, OF])) only [RR, RM, LN, TT, d13_at, ↓reduceIte, Nat.reduceEqDiff, Nat.reduceLT, Nat.reduceLeDiff, Nat.reduceAdd, Nat.reduceSub, Nat.reduceMul, Nat.reduceMod, Nat.reduceDiv, Nat.reduceBEq, e_h1, e_h2, e_h3, e_h4, e_h5, e_h6, e_h7, e_h8, e_h9, h10', h11', h12', h13', h14', FF, LN, NN, NT]
            · have h13' := decide_eq_false h13
              conv => arg 1; simp (disch := first | assumption | decide | with_unfolding_all rfl | omega | (simp only [LN] <;> omega) | (simp only [RO, OF])) only [RR, RM, LN, TT, d13_at, ↓reduceIte, Nat.reduceEqDiff, Nat.reduceLT, Nat.reduceLeDiff, Nat.reduceAdd, Nat.reduceSub, Nat.reduceMul, Nat.reduceMod, Nat.reduceDiv, Nat.reduceBEq, e_h1, e_h2, e_h3, e_h4, e_h5, e_h6, e_h7, e_h8, e_h9, h10', h11', h12', h13']
              refine J.eq ret_seq ?_
              refine J.some ?_
              simp (disch := first | assumption | decide | with_unfolding_all rfl | omega | (simp only [LN] <;> omega) | (simp only [RO, OF])) only [RR, RM, LN, TT, d13_at, ↓reduceIte, Nat.reduceEqDiff, Nat.reduceLT, Nat.reduceLeDiff, Nat.reduceAdd, Nat.reduceSub, Nat.reduceMul, Nat.reduceMod, Nat.reduceDiv, Nat.reduceBEq, e_h1, e_h2, e_h3, e_h4, e_h5, e_h6, e_h7, e_h8, e_h9, h10', h11', h12', h13', FF, LN, NN, NT]
          · have h12' := decide_eq_false h12
            conv => arg 1; simp (disch := first | assumption | decide | with_unfolding_all rfl | omega | (simp only [LN] <;> omega) | (simp only [RO, OF])) only [RR, RM, LN, TT, d13_at, ↓reduceIte, Nat.reduceEqDiff, Nat.reduceLT, Nat.reduceLeDiff, Nat.reduceAdd, Nat.reduceSub, Nat.reduceMul, Nat.reduceMod, Nat.reduceDiv, Nat.reduceBEq, e_h1, e_h2, e_h3, e_h4, e_h5, e_h6, e_h7, e_h8, e_h9, h10', h11', h12']
            refine J.eq ret_seq ?_
            refine J.some ?_
            simp (disch := first | assumption | decide | with_unfolding_all rfl | omega | (simp only [LN] <;> omega) | (simp only [RO, OF])) only [RR, RM, LN, TT, d13_at, ↓reduceIte, Nat.reduceEqDiff, Nat.reduceLT, Nat.reduceLeDiff, Nat.reduceAdd, Nat.reduceSub, Nat.reduceMul, Nat.reduceMod, Nat.reduceDiv, Nat.reduceBEq, e_h1, e_h2, e_h3, e_h4, e_h5, e_h6, e_h7, e_h8, e_h9, h10', h11', h12', FF, LN, NN, NT]
        · have h11' : x11 = false := Bool.eq_false_iff.2 h11
          conv => arg 1; simp (disch := first | assumption | decide | with_unfolding_all rfl | omega | (simp only [LN] <;> omega) | (simp only [RO, OF])) only [RR, RM, LN, TT, d13_at, ↓reduceIte, Nat.reduceEqDiff, Nat.reduceLT, Nat.reduceLeDiff, Nat.reduceAdd, Nat.reduceSub, Nat.reduceMul, Nat.reduceMod, Nat.reduceDiv, Nat.reduceBEq, e_h1, e_h2, e_h3, e_h4, e_h5, e_h6, e_h7, e_h8, e_h9, h10', h11']
          refine J.eq ret_seq ?_
          refine J.some ?_
          simp (disch := first | assumption | decide | with_unfolding_all rfl | omega | (simp only [LN] <;> omega) | (simp only [RO, OF])) only [RR, RM, LN, TT, d13_at, ↓reduceIte, Nat.reduceEqDiff, Nat.reduceLT, Nat.reduceLeDiff, Nat.reduceAdd, Nat.reduceSub, Nat.reduceMul, Nat.reduceMod, Nat.reduceDiv, Nat.reduceBEq, e_h1, e_h2, e_h3, e_h4, e_h5, e_h6, e_h7, e_h8, e_h9, h10', h11', FF, LN, NN, NT]
      · have h10' : x10 = false := Bool.eq_false_iff.2 h10
        conv => arg 1; simp (disch := first | assumption | decide | with_unfolding_all rfl | omega | (simp only [LN] <;> omega) | (simp only [RO, OF])) only [RR, RM, LN, TT, d13_at, ↓reduceIte, Nat.reduceEqDiff, Nat.reduceLT, Nat.reduceLeDiff, Nat.reduceAdd, Nat.reduceSub, Nat.reduceMul, Nat.reduceMod, Nat.reduceDiv, Nat.reduceBEq, e_h1, e_h2, e_h3, e_h4, e_h5, e_h6, e_h7, e_h8, e_h9, h10']
        refine J.eq ret_seq ?_
        refine J.some ?_
        simp (disch := first | assumption | decide | with_unfolding_all rfl | omega | (simp only [LN] <;> omega) | (simp only [RO, OF])) only [RR, RM, LN, TT, d13_at, ↓reduceIte, Nat.reduceEqDiff, Nat.reduceLT, Nat.reduceLeDiff, Nat.reduceAdd, Nat.reduceSub, Nat.reduceMul, Nat.reduceMod, Nat.reduceDiv, Nat.reduceBEq, e_h1, e_h2, e_h3, e_h4, e_h5, e_h6, e_h7, e_h8, e_h9, h10', FF, LN, NN, NT]
    · refine J.bind fun x12 h15 => ?_
      have e_h15 := H23_0 _ _ _ h15
      try simp only [NN, NT, LN] at e_h15
      conv => arg 1; simp (disch := first | assumption | decide | with_unfolding_all rfl | omega | (simp only [LN] <;> omega) | (simp only [RO, OF])) only [RR, RM, LN, TT, d13_at, ↓reduceIte, Nat.reduceEqDiff, Nat.reduceLT, Nat.reduceLeDiff, Nat.reduceAdd, Nat.reduceSub, Nat.reduceMul, Nat.reduceMod, Nat.reduceDiv, Nat.reduceBEq, e_h1, e_h2, e_h3, e_h4, e_h5, e_h6, e_h7, e_h8, e_h9, e_h15]
      refine J.ite (fun h16 => ?_) (fun h16 => ?_)
      · have h16' : x12 = true := h16
        refine J.bind fun x13 h17 => ?_
        have e_h17 := H23_0 _ _ _ h17
        try simp only [NN, NT, LN] at e_h17
        conv => arg 1; simp (disch := first | assumption | decide | with_unfolding_all rfl | omega | (simp only [LN] <;> omega) | (simp only [RO, OF])) only [RR, RM, LN, TT, d13_at, ↓reduceIte, Nat.reduceEqDiff, Nat.reduceLT, Nat.reduceLeDiff, Nat.reduceAdd, Nat.reduceSub, Nat.reduceMul, Nat.reduceMod, Nat.reduceDiv, Nat.reduceBEq, e_h1, e_h2, e_h3, e_h4, e_h5, e_h6, e_h7, e_h8, e_h9, e_h15, h16', e_h17]
        refine J.ite (fun h18 => ?_) (fun h18 => ?_)
        · have h18' : x13 = true := h18
          refine J.bind fun x14 h19 => ?_
          have e_h19 := H23_0 _ _ _ h19
          try simp only [NN, NT, LN] at e_h19
          conv => arg 1; simp (disch := first | assumption | decide | with_unfolding_all rfl | omega | (simp only [LN] <;> omega) | (simp only [RO, OF])) only [RR, RM, LN, TT, d13_at, ↓reduceIte, Nat.reduceEqDiff, Nat.reduceLT, Nat.reduceLeDiff, Nat.reduceAdd, Nat.reduceSub, Nat.reduceMul, Nat.reduceMod, Nat.reduceDiv, Nat.reduceBEq, e_h1, e_h2, e_h3, e_h4, e_h5, e_h6, e_h7, e_h8, e_h9, e_h15, h16', e_h17, h18', e_h19]
          refine J.ite (fun h20 => ?_) (fun h20 => ?_)
          · have h20' : x14 = true := h20
            conv => arg 1; simp (disch := first | assumption | decide | with_unfolding_all rfl | omega | (simp only [LN] <;> omega) | (simp only [RO, OF])) only [RR, RM, LN, TT, d13_at, ↓reduceIte, Nat.reduceEqDiff, Nat.reduceLT, Nat.reduceLeDiff, Nat.reduceAdd, Nat.reduceSub, Nat.reduceMul, Nat.reduceMod, Nat.reduceDiv, Nat.reduceBEq, e_h1, e_h2, e_h3, e_h4, e_h5, e_h6, e_h7, e_h8, e_h9, e_h15, h16', e_h17, h18', e_h19, h20']
            refine J.ite (fun h21 => ?_) (fun h21 => ?_)
            · have h21' := decide_eq_true h21
              refine J.at fun x15 h22 h23 h24 => ?_
              conv => arg 1; simp (disch := first | assumption | decide | with_unfolding_all rfl | omega | (simp only [LN] <;> omega) | (simp only [RO, OF])) only [RR, RM, LN, TT, d13_at, ↓reduceIte, Nat.reduceEqDiff, Nat.reduceLT, Nat.reduceLeDiff, Nat.reduceAdd, Nat.reduceSub, Nat.reduceMul, Nat.reduceMod, Nat.reduceDiv, Nat.reduceBEq, e_h1, e_h2, e_h3, e_h4, e_h5, e_h6, e_h7, e_h8, e_h9, e_h15, h16', e_h17, h18', e_h19, h20', h21', lm_bk h24]
              refine J.ite (fun h25 => ?_) (fun h25 => ?_)
              · have h25' : x15 = true := h25
                refine J.at fun x16 h26 h27 h28 => ?_
                conv => arg 1; simp (disch := first | assumption | decide | with_unfolding_all rfl | omega | (simp only [LN] <;> omega) | (simp only [RO, OF])) only [RR, RM, LN, TT, d13_at, ↓reduceIte, Nat.reduceEqDiff, Nat.reduceLT, Nat.reduceLeDiff, Nat.reduceAdd, Nat.reduceSub, Nat.reduceMul, Nat.reduceMod, Nat.reduceDiv, Nat.reduceBEq, e_h1, e_h2, e_h3, e_h4, e_h5, e_h6, e_h7, e_h8, e_h9, e_h15, h16', e_h17, h18', e_h19, h20', h21', lm_bk h24, h25', lm_bk h28]
                refine J.ite (fun h29 => ?_) (fun h29 => ?_)
                · have h29' : x16 = true := h29
                  conv => arg 1; simp (disch := first | assumption | decide | with_unfolding_all rfl | omega | (simp only [LN] <;> omega) | (simp only [RO, OF])) only [RR, RM, LN, TT, d13_at, ↓reduceIte, Nat.reduceEqDiff, Nat.reduceLT, Nat.reduceLeDiff, Nat.reduceAdd, Nat.reduceSub, Nat.reduceMul, Nat.reduceMod, Nat.reduceDiv, Nat.reduceBEq, e_h1, e_h2, e_h3, e_h4, e_h5, e_h6, e_h7, e_h8, e_h9, e_h15, h16', e_h17, h18', e_h19, h20', h21', lm_bk h24, h25', lm_bk h28, h29']
                  refine J.jmp (t := false) hj2 ?_ ?_
                  · first | rfl | (simp only [LN, NN, NT])
                  · first | (simp (disch := first | assumption | decide | with_unfolding_all rfl | omega | (simp only [LN] <;> omega) | (simp only [RO, OF])) only [RR, ↓reduceIte, Nat.reduceEqDiff, Nat.reduceLT, Nat.reduceLeDiff, Nat.reduceAdd, Nat.reduceSub, Nat.reduceMul, Nat.reduceMod, Nat.reduceDiv, Nat.reduceBEq, LN, NN, NT]; done) | rfl
                · have h29' : x16 = false := Bool.eq_false_iff.2 h29
                  refine J.at fun x17 h30 h31 h32 => ?_
                  conv => arg 1; simp (disch := first | assumption | decide | with_unfolding_all rfl | omega | (simp only [LN] <;> omega) | (simp only [RO, OF])) only [RR, RM, LN, TT, d13_at, ↓reduceIte, Nat.reduceEqDiff, Nat.reduceLT, Nat.reduceLeDiff, Nat.reduceAdd, Nat.reduceSub, Nat.reduceMul, Nat.reduceMod, Nat.reduceDiv, Nat.reduceBEq, e_h1, e_h2, e_h3, e_h4, e_h5, e_h6, e_h7, e_h8, e_h9, e_h15, h16', e_h17, h18', e_h19, h20', h21', lm_bk h24, h25', lm_bk h28, h29', lm_bk h32]
                  refine J.jmp (t := x17) hj2 ?_ ?_
                  · first | rfl | (simp only [LN, NN, NT])
                  · first | (simp (disch := first | assumption | decide | with_unfolding_all rfl | omega | (simp only [LN] <;> omega) | (simp only [RO, OF])) only [RR, ↓reduceIte, Nat.reduceEqDiff, Nat.reduceLT, Nat.reduceLeDiff, Nat.reduceAdd, Nat.reduceSub, Nat.reduceMul, Nat.reduceMod, Nat.reduceDiv, Nat.reduceBEq, LN, NN, NT]; done) | rfl
              · have h25' : x15 = false := Bool.eq_false_iff.2 h25
                conv => arg 1; simp (disch := first | assumption | decide | with_unfolding_all rfl | omega | (simp only [LN] <;> omega) | (simp only [RO, OF])) only [RR, RM, LN, TT, d13_at, ↓reduceIte, Nat.reduceEqDiff, Nat.reduceLT, Nat.reduceLeDiff, Nat.reduceAdd, Nat.reduceSub, Nat.reduceMul, Nat.reduceMod, Nat.reduceDiv, Nat.reduceBEq, e_h1, e_h2, e_h3, e_h4, e_h5, e_h6, e_h7, e_h8, e_h9, e_h15, h16', e_h17, h18', e_h19, h20', h21', lm_bk h24, h25']
                refine J.jmp (t := false) hj2 ?_ ?_
                · first | rfl | (simp only [LN, NN, NT])
                · first | (simp (disch := first | assumption | decide | with_unfolding_all rfl | omega | (simp only [LN] <;> omega) | (simp only [RO, OF])) only [RR, ↓reduceIte, Nat.reduceEqDiff, Nat.reduceLT, Nat.reduceLeDiff, Nat.reduceAdd, Nat.reduceSub, Nat.reduceMul, Nat.reduceMod, Nat.reduceDiv, Nat.reduceBEq, LN, NN, NT]; done) | rfl
            · have h21' := decide_eq_false h21
              conv => arg 1; simp (disch := first | assumption | decide | with_unfolding_all rfl | omega | (simp only [LN] <;> omega) | (simp only [RO, OF])) only [RR, RM, LN, TT, d13_at, ↓reduceIte, Nat.reduceEqDiff, Nat.reduceLT, Nat.reduceLeDiff, Nat.reduceAdd, Nat.reduceSub, Nat.reduceMul, Nat.reduceMod, Nat.reduceDiv, Nat.reduceBEq, e_h1, e_h2, e_h3, e_h4, e_h5, e_h6, e_h7, e_h8, e_h9, e_h15, h16', e_h17, h18', e_h19, h20', h21']
              refine J.jmp (t := false) hj2 ?_ ?_
              · first | rfl | (simp only [LN, NN, NT])
              · first | (simp (disch := first | assumption | decide | with_unfolding_all rfl | omega | (simp only [LN] <;> omega) | (simp only [RO, OF])) only [RR, ↓reduceIte, Nat.reduceEqDiff, Nat.reduceLT, Nat.reduceLeDiff, Nat.reduceAdd, Nat.reduceSub, Nat.reduceMul, Nat.reduceMod, Nat.reduceDiv, Nat.reduceBEq, LN, NN, NT]; done) | rfl
          · have h20' : x14 = false := Bool.eq_false_iff.2 h20
            conv => arg 1; simp (disch := first | assumption | decide | with_unfolding_all rfl | omega | (simp only [LN] <;> omega) | (simp only [RO, OF])) only [RR, RM, LN, TT, d13_at, ↓reduceIte, Nat.reduceEqDiff, Nat.reduceLT, Nat.reduceLeDiff, Nat.reduceAdd, Nat.reduceSub, Nat.reduceMul, Nat.reduceMod, Nat.reduceDiv, Nat.reduceBEq, e_h1, e_h2, e_h3, e_h4, e_h5, e_h6, e_h7, e_h8, e_h9, e_h15, h16', e_h17, h18', e_h19, h20']
            refine J.jmp (t := false) hj2 ?_ ?_
            · first | rfl | (simp only [LN, NN, NT])
            · first | (simp (disch := first | assumption | decide | with_unfolding_all rfl | omega | (simp only [LN] <;> omega) | (simp only [RO, OF])) only [RR, ↓reduceIte, Nat.reduceEqDiff, Nat.reduceLT, Nat.reduceLeDiff, Nat.reduceAdd, Nat.reduceSub, Nat.reduceMul, Nat.reduceMod, Nat.reduceDiv, Nat.reduceBEq, LN, NN, NT]; done) | rfl
        · have h18' : x13 = false := Bool.eq_false_iff.2 h18
          conv => arg 1; simp (disch := first | assumption | decide | with_unfolding_all rfl | omega | (simp only [LN] <;> omega) | (simp only [RO, OF])) only [RR, RM, LN, TT, d13_at, ↓reduceIte, Nat.reduceEqDiff, Nat.reduceLT, Nat.reduceLeDiff, Nat.reduceAdd, Nat.reduceSub, Nat.reduceMul, Nat.reduceMod, Nat.reduceDiv, Nat.reduceBEq, e_h1, e_h2, e_h3, e_h4, e_h5, e_h6, e_h7, e_h8, e_h9, e_h15, h16', e_h17, h18']
          refine J.jmp (t := false) hj2 ?_ ?_
          · first | rfl | (simp only [LN, NN, NT])
          · first | (simp (disch := first | assumption | decide | with_unfolding_all rfl | omega | (simp only [LN] <;> omega) | (simp only [RO, OF])) only [RR, ↓reduceIte, Nat.reduceEqDiff, Nat.reduceLT, Nat.reduceLeDiff, Nat.reduceAdd, Nat.reduceSub, Nat.reduceMul, Nat.reduceMod, Nat.reduceDiv, Nat.reduceBEq, LN, NN, NT]; done) | rfl
      · have h16' : x12 = false := Bool.eq_false_iff.2 h16
        conv => arg 1; simp (disch := first | assumption | decide | with_unfolding_all rfl | omega | (simp only [LN] <;> omega) | (simp only [RO, OF])) only [RR, RM, LN, TT, d13_at, ↓reduceIte, Nat.reduceEqDiff, Nat.reduceLT, Nat.reduceLeDiff, Nat.reduceAdd, Nat.reduceSub, Nat.reduceMul, Nat.reduceMod, Nat.reduceDiv, Nat.reduceBEq, e_h1, e_h2, e_h3, e_h4, e_h5, e_h6, e_h7, e_h8, e_h9, e_h15, h16']
        refine J.jmp (t := false) hj2 ?_ ?_
        · first | rfl | (simp only [LN, NN, NT])
        · first | (simp (disch := first | assumption | decide | with_unfolding_all rfl | omega | (simp only [LN] <;> omega) | (simp only [RO, OF])) only [RR, ↓reduceIte, Nat.reduceEqDiff, Nat.reduceLT, Nat.reduceLeDiff, Nat.reduceAdd, Nat.reduceSub, Nat.reduceMul, Nat.reduceMod, Nat.reduceDiv, Nat.reduceBEq, LN, NN, NT]; done) | rfl
  · conv => arg 1; simp (disch := first | assumption | decide | with_unfolding_all rfl | omega | (simp only [LN] <;> omega) | (simp only [RO, OF])) only [RR, RM, LN, TT, d13_at, ↓reduceIte, Nat.reduceEqDiff, Nat.reduceLT, Nat.reduceLeDiff, Nat.reduceAdd, Nat.reduceSub, Nat.reduceMul, Nat.reduceMod, Nat.reduceDiv, Nat.reduceBEq, e_h1, e_h2, e_h3, e_h4, e_h5, e_h6, e_h7, e_h8, e_h9]
    refine J.ite (fun h33 => ?_) (fun h33 => ?_)
    · have h33' := decide_eq_true h33
      conv => arg 1; simp (disch := first | assumption | decide | with_unfolding_all rfl | omega | (simp only [LN] <;> omega) | (simp only [RO, OF])) only [RR, RM, LN, TT, d13_at, ↓reduceIte, Nat.reduceEqDiff, Nat.reduceLT, Nat.reduceLeDiff, Nat.reduceAdd, Nat.reduceSub, Nat.reduceMul, Nat.reduceMod, Nat.reduceDiv, Nat.reduceBEq, e_h1, e_h2, e_h3, e_h4, e_h5, e_h6, e_h7, e_h8, e_h9, h33']
      refine J.ite (fun h34 => ?_) (fun h34 => ?_)
      · have h34' := decide_eq_true h34
        conv => arg 1; simp (disch := first | assumption | decide | with_unfolding_all rfl | omega | (simp only [LN] <;> omega) | (simp only [RO, OF])) only [RR, RM, LN, TT, d13_at, ↓reduceIte, Nat.reduceEqDiff, Nat.reduceLT, Nat.reduceLeDiff, Nat.reduceAdd, Nat.reduceSub, Nat.reduceMul, Nat.reduceMod, Nat.reduceDiv, Nat.reduceBEq, e_h1, e_h2, e_h3, e_h4, e_h5, e_h6, e_h7, e_h8, e_h9, h33', h34']
        refine J.ite (fun h35 => ?_) (fun h35 => ?_)
        · have h35' := decide_eq_true h35
          conv => arg 1; simp (disch := first | assumption | decide | with_unfolding_all rfl | omega | (simp only [LN] <;> omega) | (simp only [RO, OF])) only [RR, RM, LN, TT, d13_at, ↓reduceIte, Nat.reduceEqDiff, Nat.reduceLT, Nat.reduceLeDiff, Nat.reduceAdd, Nat.reduceSub, Nat.reduceMul, Nat.reduceMod, Nat.reduceDiv, Nat.reduceBEq, e_h1, e_h2, e_h3, e_h4, e_h5, e_h6, e_h7, e_h8, e_h9, h33', h34', h35']
          refine J.ite (fun h36 => ?_) (fun h36 => ?_)
          · have h36' := decide_eq_true h36
            conv => arg 1; simp (disch := first | assumption | decide | with_unfolding_all rfl | omega | (simp only [LN] <;> omega) | (simp only [RO, OF])) only [RR, RM, LN, TT, d13_at, ↓reduceIte, Nat.reduceEqDiff, Nat.reduceLT, Nat.reduceLeDiff, Nat.reduceAdd, Nat.reduceSub, Nat.reduceMul, Nat.reduceMod, Nat.reduceDiv, Nat.reduceBEq, e_h1, e_h2, e_h3, e_h4, e_h5, e_h6, e_h7, e_h8, e_h9, h33', h34', h35', h36']
            refine J.ite (fun h37 => ?_) (fun h37 => ?_)
            · have h37' := decide_eq_true h37
              conv => arg 1; simp (disch := first | assumption | decide | with_unfolding_all rfl | omega | (simp only [LN] <;> omega) | (simp only [RO, OF])) only [RR, RM, LN, TT, d13_at, ↓reduceIte, Nat.reduceEqDiff, Nat.reduceLT, Nat.reduceLeDiff, Nat.reduceAdd, Nat.reduceSub, Nat.reduceMul, Nat.reduceMod, Nat.reduceDiv, Nat.reduceBEq, e_h1, e_h2, e_h3, e_h4, e_h5, e_h6, e_h7, e_h8, e_h9, h33', h34', h35', h36', h37']
              refine J.ite (fun h38 => ?_) (fun h38 => ?_)
              · have h38' := decide_eq_true h38
                conv => arg 1; simp (disch := first | assumption | decide | with_unfolding_all rfl | omega | (simp only [LN] <;> omega) | (simp only [RO, OF])) only [RR, RM, LN, TT, d13_at, ↓reduceIte, Nat.reduceEqDiff, Nat.reduceLT, Nat.reduceLeDiff, Nat.reduceAdd, Nat.reduceSub, Nat.reduceMul, Nat.reduceMod, Nat.reduceDiv, Nat.reduceBEq, e_h1, e_h2, e_h3, e_h4, e_h5, e_h6, e_h7, e_h8, e_h9, h33', h34', h35', h36', h37', h38']
                refine J.ite (fun h39 => ?_) (fun h39 => ?_)
                · have h39' := decide_eq_true h39
                  conv => arg 1; simp (disch := first | assumption | decide | with_unfolding_all rfl | omega | (simp only [LN] <;> omega) | (simp only [RO, OF])) only [RR, RM, LN, TT, d13_at, ↓reduceIte, Nat.reduceEqDiff, Nat.reduceLT, Nat.reduceLeDiff, Nat.reduceAdd, Nat.reduceSub, Nat.reduceMul, Nat.reduceMod, Nat.reduceDiv, Nat.reduceBEq, e_h1, e_h2, e_h3, e_h4, e_h5, e_h6, e_h7, e_h8, e_h9, h33', h34', h35', h36', h37', h38', h39']
                  refine J.ite (fun h40 => ?_) (fun h40 => ?_)
                  · have h40' := decide_eq_true h40
                    conv => arg 1; simp (disch := first | assumption | decide | with_unfolding_all rfl | omega | (simp only [LN] <;> omega) | (simp only [RO, OF])) only [RR, RM, LN, TT, d13_at, ↓reduceIte, Nat.reduceEqDiff, Nat.reduceLT, Nat.reduceLeDiff, Nat.reduceAdd, Nat.reduceSub, Nat.reduceMul, Nat.reduceMod, Nat.reduceDiv, Nat.reduceBEq, e_h1, e_h2, e_h3, e_h4, e_h5, e_h6, e_h7, e_h8, e_h9, h33', h34', h35', h36', h37', h38', h39', h40']
                    refine J.jmp (t := decide (x9.2 = 4)) hj1 ?_ ?_
                    · first | rfl | (simp only [LN, NN, NT])
                    · first | (simp (disch := first | assumption | decide | with_unfolding_all rfl | omega | (simp only [LN] <;> omega) | (simp only [RO, OF])) only [RR, ↓reduceIte, Nat.reduceEqDiff, Nat.reduceLT, Nat.reduceLeDiff, Nat.reduceAdd, Nat.reduceSub, Nat.reduceMul, Nat.reduceMod, Nat.reduceDiv, Nat.reduceBEq, LN, NN, NT]; done) | rfl
                  · have h40' := decide_eq_false h40
                    conv => arg 1; simp (disch := first | assumption | decide | with_unfolding_all rfl | omega | (simp only [LN] <;> omega) | (simp only [RO, OF])) only [RR, RM, LN, TT, d13_at, ↓reduceIte, Nat.reduceEqDiff, Nat.reduceLT, Nat.reduceLeDiff, Nat.reduceAdd, Nat.reduceSub, Nat.reduceMul, Nat.reduceMod, Nat.reduceDiv, Nat.reduceBEq, e_h1, e_h2, e_h3, e_h4, e_h5, e_h6, e_h7, e_h8, e_h9, h33', h34', h35', h36', h37', h38', h39', h40']
                    refine J.jmp (t := false) hj1 ?_ ?_
                    · first | rfl | (simp only [LN, NN, NT])
                    · first | (simp (disch := first | assumption | decide | with_unfolding_all rfl | omega | (simp only [LN] <;> omega) | (simp only [RO, OF])) only [RR, ↓reduceIte, Nat.reduceEqDiff, Nat.reduceLT, Nat.reduceLeDiff, Nat.reduceAdd, Nat.reduceSub, Nat.reduceMul, Nat.reduceMod, Nat.reduceDiv, Nat.reduceBEq, LN, NN, NT]; done) | rfl
                · have h39' := decide_eq_false h39
                  conv => arg 1; simp (disch := first | assumption | decide | with_unfolding_all rfl | omega | (simp only [LN] <;> omega) | (simp only [RO, OF])) only [RR, RM, LN, TT, d13_at, ↓reduceIte, Nat.reduceEqDiff, Nat.reduceLT, Nat.reduceLeDiff, Nat.reduceAdd, Nat.reduceSub, Nat.reduceMul, Nat.reduceMod, Nat.reduceDiv, Nat.reduceBEq, e_h1, e_h2, e_h3, e_h4, e_h5, e_h6, e_h7, e_h8, e_h9, h33', h34', h35', h36', h37', h38', h39']
                  refine J.jmp (t := false) hj1 ?_ ?_
                  · first | rfl | (simp only [LN, NN, NT])
                  · first | (simp (disch := first | assumption | decide | with_unfolding_all rfl | omega | (simp only [LN] <;> omega) | (simp only [RO, OF])) only [RR, ↓reduceIte, Nat.reduceEqDiff, Nat.reduceLT, Nat.reduceLeDiff, Nat.reduceAdd, Nat.reduceSub, Nat.reduceMul, Nat.reduceMod, Nat.reduceDiv, Nat.reduceBEq, LN, NN, NT]; done) | rfl
              · have h38' := decide_eq_false h38
                conv => arg 1; simp (disch := first | assumption | decide | with_unfolding_all rfl | omega | (simp only [LN] <;> omega) | (simp only [RO, OF])) only [RR, RM, LN, TT, d13_at, ↓reduceIte, Nat.reduceEqDiff, Nat.reduceLT, Nat.reduceLeDiff, Nat.reduceAdd, Nat.reduceSub, Nat.reduceMul, Nat.reduceMod, Nat.reduceDiv, Nat.reduceBEq, e_h1, e_h2, e_h3, e_h4, e_h5, e_h6, e_h7, e_h8, e_h9, h33', h34', h35', h36', h37', h38']
                refine J.jmp (t := false) hj1 ?_ ?_
                · first | rfl | (simp only [LN, NN, NT])
                · first | (simp (disch := first | assumption | decide | with_unfolding_all rfl | omega | (simp only [LN] <;> omega) | (simp only [RO, OF])) only [RR, ↓reduceIte, Nat.reduceEqDiff, Nat.reduceLT, Nat.reduceLeDiff, Nat.reduceAdd, Nat.reduceSub, Nat.reduceMul, Nat.reduceMod, Nat.reduceDiv, Nat.reduceBEq, LN, NN, NT]; done) | rfl
            · have h37' := decide_eq_false h37
              conv => arg 1; simp (disch := first | assumption | decide | with_unfolding_all rfl | omega | (simp only [LN] <;> omega) | (simp only [RO, OF])) only [RR, RM, LN, TT, d13_at, ↓reduceIte, Nat.reduceEqDiff, Nat.reduceLT, Nat.reduceLeDiff, Nat.reduceAdd, Nat.reduceSub, Nat.reduceMul, Nat.reduceMod, Nat.reduceDiv, Nat.reduceBEq, e_h1, e_h2, e_h3, e_h4, e_h5, e_h6, e_h7, e_h8, e_h9, h33', h34', h35', h36', h37']
              refine J.jmp (t := false) hj1 ?_ ?_
              · first | rfl | (simp only [LN, NN, NT])
              · first | (simp (disch := first | assumption | decide | with_unfolding_all rfl | omega | (simp only [LN] <;> omega) | (simp only [RO, OF])) only [RR, ↓reduceIte, Nat.reduceEqDiff, Nat.reduceLT, Nat.reduceLeDiff, Nat.reduceAdd, Nat.reduceSub, Nat.reduceMul, Nat.reduceMod, Nat.reduceDiv, Nat.reduceBEq, LN, NN, NT]; done) | rfl
          · have h36' := decide_eq_false h36
            conv => arg 1; simp (disch := first | assumption | decide | with_unfolding_all rfl | omega | (simp only [LN] <;> omega) | (simp only [RO, OF])) only [RR, RM, LN, TT, d13_at, ↓reduceIte, Nat.reduceEqDiff, Nat.reduceLT, Nat.reduceLeDiff, Nat.reduceAdd, Nat.reduceSub, Nat.reduceMul, Nat.reduceMod, Nat.reduceDiv, Nat.reduceBEq, e_h1, e_h2, e_h3, e_h4, e_h5, e_h6, e_h7, e_h8, e_h9, h33', h34', h35', h36']
            refine J.jmp (t := false) hj1 ?_ ?_
            · first | rfl | (simp only [LN, NN, NT])
            · first | (simp (disch := first | assumption | decide | with_unfolding_all rfl | omega | (simp only [LN] <;> omega) | (simp only [RO, OF])) only [RR, ↓reduceIte, Nat.reduceEqDiff, Nat.reduceLT, Nat.reduceLeDiff, Nat.reduceAdd, Nat.reduceSub, Nat.reduceMul, Nat.reduceMod, Nat.reduceDiv, Nat.reduceBEq, LN, NN, NT]; done) | rfl
        · have h35' := decide_eq_false h35
          conv => arg 1; simp (disch := first | assumption | decide | with_unfolding_all rfl | omega | (simp only [LN] <;> omega) | (simp only [RO, OF])) only [RR, RM, LN, TT, d13_at, ↓reduceIte, Nat.reduceEqDiff, Nat.reduceLT, Nat.reduceLeDiff, Nat.reduceAdd, Nat.reduceSub, Nat.reduceMul, Nat.reduceMod, Nat.reduceDiv, Nat.reduceBEq, e_h1, e_h2, e_h3, e_h4, e_h5, e_h6, e_h7, e_h8, e_h9, h33', h34', h35']
          refine J.jmp (t := false) hj1 ?_ ?_
          · first | rfl | (simp only [LN, NN, NT])
          · first | (simp (disch := first | assumption | decide | with_unfolding_all rfl | omega | (simp only [LN] <;> omega) | (simp only [RO, OF])) only [RR, ↓reduceIte, Nat.reduceEqDiff, Nat.reduceLT, Nat.reduceLeDiff, Nat.reduceAdd, Nat.reduceSub, Nat.reduceMul, Nat.reduceMod, Nat.reduceDiv, Nat.reduceBEq, LN, NN, NT]; done) | rfl
      · have h34' := decide_eq_false h34
        conv => arg 1; simp (disch := first | assumption | decide | with_unfolding_all rfl | omega | (simp only [LN] <;> omega) | (simp only [RO, OF])) only [RR, RM, LN, TT, d13_at, ↓reduceIte, Nat.reduceEqDiff, Nat.reduceLT, Nat.reduceLeDiff, Nat.reduceAdd, Nat.reduceSub, Nat.reduceMul, Nat.reduceMod, Nat.reduceDiv, Nat.reduceBEq, e_h1, e_h2, e_h3, e_h4, e_h5, e_h6, e_h7, e_h8, e_h9, h33', h34']
        refine J.jmp (t := false) hj1 ?_ ?_
        · first | rfl | (simp only [LN, NN, NT])
        · first | (simp (disch := first | assumption | decide | with_unfolding_all rfl | omega | (simp only [LN] <;> omega) | (simp only [RO, OF])) only [RR, ↓reduceIte, Nat.reduceEqDiff, Nat.reduceLT, Nat.reduceLeDiff, Nat.reduceAdd, Nat.reduceSub, Nat.reduceMul, Nat.reduceMod, Nat.reduceDiv, Nat.reduceBEq, LN, NN, NT]; done) | rfl
    · have h33' := decide_eq_false h33
      conv => arg 1; simp (disch := first | assumption | decide | with_unfolding_all rfl | omega | (simp only [LN] <;> omega) | (simp only [RO, OF])) only [RR, RM, LN, TT, d13_at, ↓reduceIte, Nat.reduceEqDiff, Nat.reduceLT, Nat.reduceLeDiff, Nat.reduceAdd, Nat.reduceSub, Nat.reduceMul, Nat.reduceMod, Nat.reduceDiv, Nat.reduceBEq, e_h1, e_h2, e_h3, e_h4, e_h5, e_h6, e_h7, e_h8, e_h9, h33']
      refine J.jmp (t := false) hj1 ?_ ?_
      · first | rfl | (simp only [LN, NN, NT])
      · first | (simp (disch := first | assumption | decide | with_unfolding_all rfl | omega | (simp only [LN] <;> omega) | (simp only [RO, OF])) only [RR, ↓reduceIte, Nat.reduceEqDiff, Nat.reduceLT, Nat.reduceLeDiff, Nat.reduceAdd, Nat.reduceSub, Nat.reduceMul, Nat.reduceMod, Nat.reduceDiv, Nat.reduceBEq, LN, NN, NT]; done) | rfl
noncomputable def t13 (fu : Nat) : CallP := orE 15 (mkC (fun (t : List Int) => ([.arr t.length (lm (ik .i64) t)] : List AV)) (fun t => shape_Size fu t) e15) (orE 17 (mkC (fun (t : List Int) => ([.arr t.length (lm (ik .i64) t)] : List AV)) (fun t => shape_Strides fu t) e17) (orE 19 (mkC (fun (t : (List Int) × Int) => ([.arr t.1.length (lm (ik .i64) t.1), .v (.int .i64 t.2)] : List AV)) (fun t => shape_Index fu t.1 t.2) e19) (orE 21 (mkC (fun (t : (List Int) × (List Int)) => ([.arr t.1.length (lm (ik .i64) t.1), .arr t.2.length (lm (ik .i64) t.2)] : List AV)) (fun t => shape_Offset fu t.1 t.2) e21) (orE 25 (mkC (fun (t : (List Int) × (List Int)) => ([.arr t.1.length (lm (ik .i64) t.1), .arr t.2.length (lm (ik .i64) t.2)] : List AV)) (fun t => shape_Broadcast fu t.1 t.2) e25) (orE 27 (mkC (fun (t : (List Int) × (List Int) × Int) => ([.arr t.1.length (lm (ik .i64) t.1), .arr t.2.1.length (lm (ik .i64) t.2.1), .v (.int .i64 t.2.2)] : List AV)) (fun t => shape_From fu t.1 t.2.1 t.2.2) e27) (orE 51 (mkC (fun (t : Int × Int) => ([.v (.int .i64 t.1), .v (.int .i64 t.2)] : List AV)) (fun t => shape_Axis fu t.1 t.2) e51) (orE 52 (mkC (fun (t : (List Int) × Int) => ([.arr t.1.length (lm (ik .i64) t.1), .v (.int .i64 t.2)] : List AV)) (fun t => shape_Axes fu t.1 t.2) e52) (orE 23 (mkC (fun (t : (List Int) × (List Int)) => ([.arr t.1.length (lm (ik .i64) t.1), .arr t.2.length (lm (ik .i64) t.2)] : List AV)) (fun t => ref04_SameInts fu t.1 t.2) e23) (noP)))))))))
theorem t13_ok (fu : Nat) : CpOK Try.prog (t13 fu ) := orE_ok (orE_ok (orE_ok (orE_ok (orE_ok (orE_ok (orE_ok (orE_ok (orE_ok (noP_ok) (mkC_ok (fun t b h => ok23 fu t.1 t.2  b h))) (mkC_ok (fun t b h => ok52 fu t.1 t.2  b h))) (mkC_ok (fun t b h => ok51 fu t.1 t.2  b h))) (mkC_ok (fun t b h => ok27 fu t.1 t.2.1 t.2.2  b h))) (mkC_ok (fun t b h => ok25 fu t.1 t.2  b h))) (mkC_ok (fun t b h => ok21 fu t.1 t.2  b h))) (mkC_ok (fun t b h => ok19 fu t.1 t.2  b h))) (mkC_ok (fun t b h => ok17 fu t  b h))) (mkC_ok (fun t b h => ok15 fu t  b h))
theorem ok13 (fu : Nat) (r) (h : law04_awake fu = some r) : PureOK Try.prog 13 [] (e13 r) :=
  pure_J mixed (cp := t13 fu ) (t13_ok fu  ) noI_ok i13 (w13 _ fu   (fun a0 r h => orE_hit (mkC_at (a := a0) (by intro a b h; first | (exact rfl) | (simp only [INJ] at h; first | exact h | (simp_all [Prod.ext_iff]) )) h)) (fun a0 r h => orE_miss (by decide) (orE_hit (mkC_at (a := a0) (by intro a b h; first | (exact rfl) | (simp only [INJ] at h; first | exact h | (simp_all [Prod.ext_iff]) )) h))) (fun a0 a1 r h => orE_miss (by decide) (orE_miss (by decide) (orE_hit (mkC_at (a := (a0, a1)) (by intro a b h; first | (exact rfl) | (simp only [INJ] at h; first | exact h | (simp_all [Prod.ext_iff]) )) h)))) (fun a0 a1 r h => orE_miss (by decide) (orE_miss (by decide) (orE_miss (by decide) (orE_hit (mkC_at (a := (a0, a1)) (by intro a b h; first | (exact rfl) | (simp only [INJ] at h; first | exact h | (simp_all [Prod.ext_iff]) )) h))))) (fun a0 a1 r h => orE_miss (by decide) (orE_miss (by decide) (orE_miss (by decide) (orE_miss (by decide) (orE_hit (mkC_at (a := (a0, a1)) (by intro a b h; first | (exact rfl) | (simp only [INJ] at h; first | exact h | (simp_all [Prod.ext_iff]) )) h)))))) (fun a0 a1 a2 r h => orE_miss (by decide) (orE_miss (by decide) (orE_miss (by decide) (orE_miss (by decide) (orE_miss (by decide) (orE_hit (mkC_at (a := (a0, a1, a2)) (by intro a b h; first | (exact rfl) | (simp only [INJ] at h; first | exact h | (simp_all [Prod.ext_iff]) )) h))))))) (fun a0 a1 r h => orE_miss (by decide) (orE_miss (by decide) (orE_miss (by decide) (orE_miss (by decide) (orE_miss (by decide) (orE_miss (by decide) (orE_hit (mkC_at (a := (a0, a1)) (by intro a b h; first | (exact rfl) | (simp only [INJ] at h; first | exact h | (simp_all [Prod.ext_iff]) )) h)))))))) (fun a0 a1 r h => orE_miss (by decide) (orE_miss (by decide) (orE_miss (by decide) (orE_miss (by decide) (orE_miss (by decide) (orE_miss (by decide) (orE_miss (by decide) (orE_hit (mkC_at (a := (a0, a1)) (by intro a b h; first | (exact rfl) | (simp only [INJ] at h; first | exact h | (simp_all [Prod.ext_iff]) )) h))))))))) (fun a0 a1 r h => orE_miss (by decide) (orE_miss (by decide) (orE_miss (by decide) (orE_miss (by decide) (orE_miss (by decide) (orE_miss (by decide) (orE_miss (by decide) (orE_miss (by decide) (orE_hit (mkC_at (a := (a0, a1)) (by intro a b h; first | (exact rfl) | (simp only [INJ] at h; first | exact h | (simp_all [Prod.ext_iff]) )) h))))))))))) h
theorem awake13 : PureOK Try.prog 13 [] (.v (.bool true)) := ok13 64 true (by kernel_rfl)
/-! 16: lattice/latticeref04.Size -/
def d16 : List (Nat × List Nat) := [(0, [2, 3]), (0, [6]), (0, []), (0, []), (0, [9, 10, 11]), (0, [0, 8]), (0, []), (0, []), (0, [12, 13, 14]), (0, []), (0, [16, 17]), (0, []), (0, [18, 19, 20, 21]), (0, []), (0, []), (0, []), (0, [23, 24, 25, 26, 27, 28, 29, 30]), (0, []), (0, [31, 32, 33, 34, 35, 36, 37, 38]), (0, []), (0, [5]), (0, []), (0, []), (0, []), (0, [4]), (0, []), (0, []), (0, []), (0, []), (0, []), (0, []), (0, []), (0, [41, 42, 43]), (0, []), (0, [45, 46]), (0, []), (0, [47, 48, 49, 50, 51, 52, 53, 54, 55, 56, 57, 58, 59]), (0, []), (0, []), (0, []), (0, [61, 62, 63, 64, 65, 66]), (0, []), (0, [7, 67])]
def d16_at := And.intro (show d16.getD 0 (0, []) = (0, [2, 3]) from rfl) <| And.intro (show d16.getD 1 (0, []) = (0, [6]) from rfl) <| And.intro (show d16.getD 2 (0, []) = (0, []) from rfl) <| And.intro (show d16.getD 3 (0, []) = (0, []) from rfl) <| And.intro (show d16.getD 4 (0, []) = (0, [9, 10, 11]) from rfl) <| And.intro (show d16.getD 5 (0, []) = (0, [0, 8]) from rfl) <| And.intro (show d16.getD 6 (0, []) = (0, []) from rfl) <| And.intro (show d16.getD 7 (0, []) = (0, []) from rfl) <| And.intro (show d16.getD 8 (0, []) = (0, [12, 13, 14]) from rfl) <| And.intro (show d16.getD 9 (0, []) = (0, []) from rfl) <| And.intro (show d16.getD 10 (0, []) = (0, [16, 17]) from rfl) <| And.intro (show d16.getD 11 (0, []) = (0, []) from rfl) <| And.intro (show d16.getD 12 (0, []) = (0, [18, 19, 20, 21]) from rfl) <| And.intro (show d16.getD 13 (0, []) = (0, []) from rfl) <| And.intro (show d16.getD 14 (0, []) = (0, []) from rfl) <| And.intro (show d16.getD 15 (0, []) = (0, []) from rfl) <| And.intro (show d16.getD 16 (0, []) = (0, [23, 24, 25, 26, 27, 28, 29, 30]) from rfl) <| And.intro (show d16.getD 17 (0, []) = (0, []) from rfl) <| And.intro (show d16.getD 18 (0, []) = (0, [31, 32, 33, 34, 35, 36, 37, 38]) from rfl) <| And.intro (show d16.getD 19 (0, []) = (0, []) from rfl) <| And.intro (show d16.getD 20 (0, []) = (0, [5]) from rfl) <| And.intro (show d16.getD 21 (0, []) = (0, []) from rfl) <| And.intro (show d16.getD 22 (0, []) = (0, []) from rfl) <| And.intro (show d16.getD 23 (0, []) = (0, []) from rfl) <| And.intro (show d16.getD 24 (0, []) = (0, [4]) from rfl) <| And.intro (show d16.getD 25 (0, []) = (0, []) from rfl) <| And.intro (show d16.getD 26 (0, []) = (0, []) from rfl) <| And.intro (show d16.getD 27 (0, []) = (0, []) from rfl) <| And.intro (show d16.getD 28 (0, []) = (0, []) from rfl) <| And.intro (show d16.getD 29 (0, []) = (0, []) from rfl) <| And.intro (show d16.getD 30 (0, []) = (0, []) from rfl) <| And.intro (show d16.getD 31 (0, []) = (0, []) from rfl) <| And.intro (show d16.getD 32 (0, []) = (0, [41, 42, 43]) from rfl) <| And.intro (show d16.getD 33 (0, []) = (0, []) from rfl) <| And.intro (show d16.getD 34 (0, []) = (0, [45, 46]) from rfl) <| And.intro (show d16.getD 35 (0, []) = (0, []) from rfl) <| And.intro (show d16.getD 36 (0, []) = (0, [47, 48, 49, 50, 51, 52, 53, 54, 55, 56, 57, 58, 59]) from rfl) <| And.intro (show d16.getD 37 (0, []) = (0, []) from rfl) <| And.intro (show d16.getD 38 (0, []) = (0, []) from rfl) <| And.intro (show d16.getD 39 (0, []) = (0, []) from rfl) <| And.intro (show d16.getD 40 (0, []) = (0, [61, 62, 63, 64, 65, 66]) from rfl) <| And.intro (show d16.getD 41 (0, []) = (0, []) from rfl) <| (show d16.getD 42 (0, []) = (0, [7, 67]) from rfl)
theorem i16 : finfo Try.prog 16 d16 = some ⟨bodyOf Try.f16, [.tmp 2, .tmp 3], [3, 25]⟩ := finfo_at Try.func16 rfl (by kernel_rfl) (by kernel_rfl)
def e16 : (Int × Int) → AV := fun r => .tuple [.v (.int .i64 r.1), .v (.int .i64 r.2)]
set_option maxHeartbeats 1000000 in
theorem w16 (cp : CallP) (fu : Nat) (x1 : List Int) : J (go Try.prog noC cp noI 0 [] d16 fu (fin Try.prog [.tmp 2, .tmp 3] [3, 25]) (bodyOf Try.f16) (initE 0 [.arr x1.length (lm (ik .i64) x1)]) [] []) (ref04_Size fu x1) e16 := by
  unfold ref04_Size e16
  conv => arg 1; simp (disch := first | assumption | decide | with_unfolding_all rfl | omega | (simp only [LN] <;> omega) | (simp only [RO, OF])) only [bodyOf, Try.f16, RR, RM, LN, TT, d16_at, ↓reduceIte, Nat.reduceEqDiff, Nat.reduceLT, Nat.reduceLeDiff, Nat.reduceAdd, Nat.reduceSub, Nat.reduceMul, Nat.reduceMod, Nat.reduceDiv, Nat.reduceBEq]
  refine J.joinS (fun (t : Bool × Bool) => ([(0, .arr x1.length (lm (ik .i64) x1)), (4, .v (.bool t.1)), (5, .v (.bool t.2))], [])) (fun t => ref04_Size_k1 fu x1 t.1 t.2) ?_ (fun hj1 => ?_)
  · rintro ⟨x2, x3⟩
    show J _ (ref04_Size_k1 fu x1 x2 x3) _
    unfold ref04_Size_k1
    refine J.eq go_seq ?_
    conv => arg 1; simp (disch := first | assumption | decide | with_unfolding_all rfl | omega | (simp only [LN] <;> omega) | (simp only [RO, OF])) only [RR, RM, LN, TT, d16_at, ↓reduceIte, Nat.reduceEqDiff, Nat.reduceLT, Nat.reduceLeDiff, Nat.reduceAdd, Nat.reduceSub, Nat.reduceMul, Nat.reduceMod, Nat.reduceDiv, Nat.reduceBEq]
    refine J.ite (fun h1 => ?_) (fun h1 => ?_)
    · have h1' : x3 = true := h1
      refine J.some ?_
      simp (disch := first | assumption | decide | with_unfolding_all rfl | omega | (simp only [LN] <;> omega) | (simp only [RO, OF])) only [RR, RM, LN, TT, d16_at, ↓reduceIte, Nat.reduceEqDiff, Nat.reduceLT, Nat.reduceLeDiff, Nat.reduceAdd, Nat.reduceSub, Nat.reduceMul, Nat.reduceMod, Nat.reduceDiv, Nat.reduceBEq, h1', FF, LN, NN, NT]
    · have h1' : x3 = false := Bool.eq_false_iff.2 h1
      conv => arg 1; simp (disch := first | assumption | decide | with_unfolding_all rfl | omega | (simp only [LN] <;> omega) | (simp only [RO, OF])) only [RR, RM, LN, TT, d16_at, ↓reduceIte, Nat.reduceEqDiff, Nat.reduceLT, Nat.reduceLeDiff, Nat.reduceAdd, Nat.reduceSub, Nat.reduceMul, Nat.reduceMod, Nat.reduceDiv, Nat.reduceBEq, h1']
      refine J.eq ret_seq ?_
      refine J.eq go_seq ?_
      conv => arg 1; simp (disch := first | assumption | decide | with_unfolding_all rfl | omega | (simp only [LN] <;> omega) | (simp only [RO, OF])) only [RR, RM, LN, TT, d16_at, ↓reduceIte, Nat.reduceEqDiff, Nat.reduceLT, Nat.reduceLeDiff, Nat.reduceAdd, Nat.reduceSub, Nat.reduceMul, Nat.reduceMod, Nat.reduceDiv, Nat.reduceBEq, h1']
      refine J.ite (fun h2 => ?_) (fun h2 => ?_)
      · have h2' : x2 = true := h2
        refine J.some ?_
        simp (disch := first | assumption | decide | with_unfolding_all rfl | omega | (simp only [LN] <;> omega) | (simp only [RO, OF])) only [RR, RM, LN, TT, d16_at, ↓reduceIte, Nat.reduceEqDiff, Nat.reduceLT, Nat.reduceLeDiff, Nat.reduceAdd, Nat.reduceSub, Nat.reduceMul, Nat.reduceMod, Nat.reduceDiv, Nat.reduceBEq, h1', h2', FF, LN, NN, NT]
      · have h2' : x2 = false := Bool.eq_false_iff.2 h2
        conv => arg 1; simp (disch := first | assumption | decide | with_unfolding_all rfl | omega | (simp only [LN] <;> omega) | (simp only [RO, OF])) only [RR, RM, LN, TT, d16_at, ↓reduceIte, Nat.reduceEqDiff, Nat.reduceLT, Nat.reduceLeDiff, Nat.reduceAdd, Nat.reduceSub, Nat.reduceMul, Nat.reduceMod, Nat.reduceDiv, Nat.reduceBEq, h1', h2']
        refine J.eq ret_seq ?_
        conv => arg 1; simp (disch := first | assumption | decide | with_unfolding_all rfl | omega | (simp only [LN] <;> omega) | (simp only [RO, OF])) only [RR, RM, LN, TT, d16_at, ↓reduceIte, Nat.reduceEqDiff, Nat.reduceLT, Nat.reduceLeDiff, Nat.reduceAdd, Nat.reduceSub, Nat.reduceMul, Nat.reduceMod, Nat.reduceDiv, Nat.reduceBEq, h1', h2']
        refine J.eq go_seq ?_
        conv => arg 1; simp (disch := first | assumption | decide | with_unfolding_all rfl | omega | (simp only [LN] <;> omega) | (simp only [RO, OF])) only [RR, RM, LN, TT, d16_at, ↓reduceIte, Nat.reduceEqDiff, Nat.reduceLT, Nat.reduceLeDiff, Nat.reduceAdd, Nat.reduceSub, Nat.reduceMul, Nat.reduceMod, Nat.reduceDiv, Nat.reduceBEq, h1', h2']
        unfold ref04_Size_W1
        refine J.loop (fun (s : Int × Int) => ([(0, .arr x1.length (lm (ik .i64) x1)), (7, .v (.int .i64 s.1)), (8, .v (.int .i64 s.2))], [])) (fun next s => ref04_Size_L1 fu x1 (fun x6 x7 => next (x6, x7)) s.1 s.2) (s0 := (1, 0)) ?_ ?_ ?_
        · first | rfl | (simp only [LN, NN, NT])
        · first | (simp (disch := first | assumption | decide | with_unfolding_all rfl | omega | (simp only [LN] <;> omega) | (simp only [RO, OF])) only [RR, ↓reduceIte, Nat.reduceEqDiff, Nat.reduceLT, Nat.reduceLeDiff, Nat.reduceAdd, Nat.reduceSub, Nat.reduceMul, Nat.reduceMod, Nat.reduceDiv, Nat.reduceBEq, LN, NN, NT]; done) | rfl
        rintro next k1 hn1 ⟨x6, x7⟩
        let nx1 : Int → Int → Option (Int × Int) := (fun x6 x7 => next (x6, x7))
        show J _ (ref04_Size_L1 fu x1 nx1 x6 x7) _
        unfold ref04_Size_L1
        refine J.eq go_seq ?_
        conv => arg 1; simp (disch := first | assumption | decide | with_unfolding_all rfl | omega | (simp only [LN] <;> omega) | (simp only [RO, OF])) only [RR, RM, LN, TT, d16_at, ↓reduceIte, Nat.reduceEqDiff, Nat.reduceLT, Nat.reduceLeDiff, Nat.reduceAdd, Nat.reduceSub, Nat.reduceMul, Nat.reduceMod, Nat.reduceDiv, Nat.reduceBEq, h1', h2']
        refine J.ite (fun h3 => ?_) (fun h3 => ?_)
        · have h3' := decide_eq_true h3
          have h3'' : decide ((x1.length : Int) ≤ x7) = false := decide_eq_false (by omega)
          conv => arg 1; simp (disch := first | assumption | decide | with_unfolding_all rfl | omega | (simp only [LN] <;> omega) | (simp only [RO, OF])) only [RR, RM, LN, TT, d16_at, ↓reduceIte, Nat.reduceEqDiff, Nat.reduceLT, Nat.reduceLeDiff, Nat.reduceAdd, Nat.reduceSub, Nat.reduceMul, Nat.reduceMod, Nat.reduceDiv, Nat.reduceBEq, h1', h2', h3'', h3']
          refine J.eq ret_seq ?_
          refine J.eq go_seq ?_
          conv => arg 1; simp (disch := first | assumption | decide | with_unfolding_all rfl | omega | (simp only [LN] <;> omega) | (simp only [RO, OF])) only [RR, RM, LN, TT, d16_at, ↓reduceIte, Nat.reduceEqDiff, Nat.reduceLT, Nat.reduceLeDiff, Nat.reduceAdd, Nat.reduceSub, Nat.reduceMul, Nat.reduceMod, Nat.reduceDiv, Nat.reduceBEq, h1', h2', h3'', h3']
          refine J.joinS (fun (t : Unit) => ([(0, .arr x1.length (lm (ik .i64) x1)), (7, .v (.int .i64 x6)), (8, .v (.int .i64 x7))], [])) (fun t => ref04_Size_k2 fu nx1 x1 x6 x7) ?_ (fun hj2 => ?_)
          · rintro ⟨⟩
            show J _ (ref04_Size_k2 fu nx1 x1 x6 x7) _
            unfold ref04_Size_k2
            refine J.at fun x10 h4 h5 h6 => ?_
            conv => arg 1; simp (disch := first | assumption | decide | with_unfolding_all rfl | omega | (simp only [LN] <;> omega) | (simp only [RO, OF])) only [RR, RM, LN, TT, d16_at, ↓reduceIte, Nat.reduceEqDiff, Nat.reduceLT, Nat.reduceLeDiff, Nat.reduceAdd, Nat.reduceSub, Nat.reduceMul, Nat.reduceMod, Nat.reduceDiv, Nat.reduceBEq, h1', h2', h3'', h3', lm_ik h6]
            refine J.eq ret_seq ?_
            conv => arg 1; simp (disch := first | assumption | decide | with_unfolding_all rfl | omega | (simp only [LN] <;> omega) | (simp only [RO, OF])) only [RR, RM, LN, TT, d16_at, ↓reduceIte, Nat.reduceEqDiff, Nat.reduceLT, Nat.reduceLeDiff, Nat.reduceAdd, Nat.reduceSub, Nat.reduceMul, Nat.reduceMod, Nat.reduceDiv, Nat.reduceBEq, h1', h2', h3'', h3', lm_ik h6]
            refine J.next (s := (wk .i64 (x6 * x10), wk .i64 (x7 + 1))) hn1 ?_ ?_
            · first | rfl | (simp only [LN, NN, NT])
            · first | (simp (disch := first | assumption | decide | with_unfolding_all rfl | omega | (simp only [LN] <;> omega) | (simp only [RO, OF])) only [RR, ↓reduceIte, Nat.reduceEqDiff, Nat.reduceLT, Nat.reduceLeDiff, Nat.reduceAdd, Nat.reduceSub, Nat.reduceMul, Nat.reduceMod, Nat.reduceDiv, Nat.reduceBEq, LN, NN, NT]; done) | rfl
          · refine J.eq go_seq ?_
            refine J.at fun x11 h7 h8 h9 => ?_
            conv => arg 1; simp (disch := first | assumption | decide | with_unfolding_all rfl | omega | (simp only [LN] <;> omega) | (simp only [RO, OF])) only [RR, RM, LN, TT, d16_at, ↓reduceIte, Nat.reduceEqDiff, Nat.reduceLT, Nat.reduceLeDiff, Nat.reduceAdd, Nat.reduceSub, Nat.reduceMul, Nat.reduceMod, Nat.reduceDiv, Nat.reduceBEq, h1', h2', h3'', h3', lm_ik h9]
            refine J.ite (fun h10 => ?_) (fun h10 => ?_)
            · have h10' := decide_eq_true h10
              have h10'' : decide (x11 ≤ 4096) = false := decide_eq_false (by omega)
              conv => arg 1; simp (disch := first | assumption | decide | with_unfolding_all rfl | omega | (simp only [LN] <;> omega) | (simp only [RO, OF])) only [RR, RM, LN, TT, d16_at, ↓reduceIte, Nat.reduceEqDiff, Nat.reduceLT, Nat.reduceLeDiff, Nat.reduceAdd, Nat.reduceSub, Nat.reduceMul, Nat.reduceMod, Nat.reduceDiv, Nat.reduceBEq, h1', h2', h3'', h3', lm_ik h9, h10'', h10']
              refine J.eq ret_seq ?_
              refine J.some ?_
              simp (disch := first | assumption | decide | with_unfolding_all rfl | omega | (simp only [LN] <;> omega) | (simp only [RO, OF])) only [RR, RM, LN, TT, d16_at, ↓reduceIte, Nat.reduceEqDiff, Nat.reduceLT, Nat.reduceLeDiff, Nat.reduceAdd, Nat.reduceSub, Nat.reduceMul, Nat.reduceMod, Nat.reduceDiv, Nat.reduceBEq, h1', h2', h3'', h3', lm_ik h9, h10'', h10', FF, LN, NN, NT]
            · have h10' := decide_eq_false h10
              have h10'' : decide (x11 ≤ 4096) = true := decide_eq_true (by omega)
              conv => arg 1; simp (disch := first | assumption | decide | with_unfolding_all rfl | omega | (simp only [LN] <;> omega) | (simp only [RO, OF])) only [RR, RM, LN, TT, d16_at, ↓reduceIte, Nat.reduceEqDiff, Nat.reduceLT, Nat.reduceLeDiff, Nat.reduceAdd, Nat.reduceSub, Nat.reduceMul, Nat.reduceMod, Nat.reduceDiv, Nat.reduceBEq, h1', h2', h3'', h3', lm_ik h9, h10'', h10']
              refine J.eq ret_seq ?_
              conv => arg 1; simp (disch := first | assumption | decide | with_unfolding_all rfl | omega | (simp only [LN] <;> omega) | (simp only [RO, OF])) only [RR, RM, LN, TT, d16_at, ↓reduceIte, Nat.reduceEqDiff, Nat.reduceLT, Nat.reduceLeDiff, Nat.reduceAdd, Nat.reduceSub, Nat.reduceMul, Nat.reduceMod, Nat.reduceDiv, Nat.reduceBEq, h1', h2', h3'', h3', lm_ik h9, h10'', h10']
              refine J.ite (fun h11 => ?_) (fun h11 => ?_)
              · have h11' := decide_eq_true h11
                have h11'' : decide ((wk .i64 (x6 * x11)) ≤ 4096) = false := decide_eq_false (by omega)
                refine J.some ?_
                simp (disch := first | assumption | decide | with_unfolding_all rfl | omega | (simp only [LN] <;> omega) | (simp only [RO, OF])) only [RR, RM, LN, TT, d16_at, ↓reduceIte, Nat.reduceEqDiff, Nat.reduceLT, Nat.reduceLeDiff, Nat.reduceAdd, Nat.reduceSub, Nat.reduceMul, Nat.reduceMod, Nat.reduceDiv, Nat.reduceBEq, h1', h2', h3'', h3', lm_ik h9, h10'', h10', h11'', h11', FF, LN, NN, NT]
              · have h11' := decide_eq_false h11
                have h11'' : decide ((wk .i64 (x6 * x11)) ≤ 4096) = true := decide_eq_true (by omega)
                conv => arg 1; simp (disch := first | assumption | decide | with_unfolding_all rfl | omega | (simp only [LN] <;> omega) | (simp only [RO, OF])) only [RR, RM, LN, TT, d16_at, ↓reduceIte, Nat.reduceEqDiff, Nat.reduceLT, Nat.reduceLeDiff, Nat.reduceAdd, Nat.reduceSub, Nat.reduceMul, Nat.reduceMod, Nat.reduceDiv, Nat.reduceBEq, h1', h2', h3'', h3', lm_ik h9, h10'', h10', h11'', h11']
                refine J.jmp (t := ()) hj2 ?_ ?_
                · first | rfl | (simp only [LN, NN, NT])
                · first | (simp (disch := first | assumption | decide | with_unfolding_all rfl | omega | (simp only [LN] <;> omega) | (simp only [RO, OF])) only [RR, ↓reduceIte, Nat.reduceEqDiff, Nat.reduceLT, Nat.reduceLeDiff, Nat.reduceAdd, Nat.reduceSub, Nat.reduceMul, Nat.reduceMod, Nat.reduceDiv, Nat.reduceBEq, LN, NN, NT]; done) | rfl
        · have h3' := decide_eq_false h3
          have h3'' : decide ((x1.length : Int) ≤ x7) = true := decide_eq_true (by omega)
          conv => arg 1; simp (disch := first | assumption | decide | with_unfolding_all rfl | omega | (simp only [LN] <;> omega) | (simp only [RO, OF])) only [RR, RM, LN, TT, d16_at, ↓reduceIte, Nat.reduceEqDiff, Nat.reduceLT, Nat.reduceLeDiff, Nat.reduceAdd, Nat.reduceSub, Nat.reduceMul, Nat.reduceMod, Nat.reduceDiv, Nat.reduceBEq, h1', h2', h3'', h3']
          refine J.eq ret_seq ?_
          refine J.some ?_
          simp (disch := first | assumption | decide | with_unfolding_all rfl | omega | (simp only [LN] <;> omega) | (simp only [RO, OF])) only [RR, RM, LN, TT, d16_at, ↓reduceIte, Nat.reduceEqDiff, Nat.reduceLT, Nat.reduceLeDiff, Nat.reduceAdd, Nat.reduceSub, Nat.reduceMul, Nat.reduceMod, Nat.reduceDiv, Nat.reduceBEq, h1', h2', h3'', h3', FF, LN, NN, NT]
  · conv => arg 1; simp (disch := first | assumption | decide | with_unfolding_all rfl | omega | (simp only [LN] <;> omega) | (simp only [RO, OF])) only [RR, RM, LN, TT, d16_at, ↓reduceIte, Nat.reduceEqDiff, Nat.reduceLT, Nat.reduceLeDiff, Nat.reduceAdd, Nat.reduceSub, Nat.reduceMul, Nat.reduceMod, Nat.reduceDiv, Nat.reduceBEq]
    unfold ref04_Size_W2
    refine J.loop (fun (s : Bool × Bool × Int) => ([(0, .arr x1.length (lm (ik .i64) x1)), (4, .v (.bool s.1)), (5, .v (.bool s.2.1)), (6, .v (.int .i64 s.2.2))], [])) (fun next s => ref04_Size_L2 fu x1 (fun x13 x14 x15 => next (x13, x14, x15)) s.1 s.2.1 s.2.2) (s0 := (false, decide (8 < (x1.length : Int)), 0)) ?_ ?_ ?_
    · first | rfl | (simp only [LN, NN, NT])
    · first | (simp (disch := first | assumption | decide | with_unfolding_all rfl | omega | (simp only [LN] <;> omega) | (simp only [RO, OF])) only [RR, ↓reduceIte, Nat.reduceEqDiff, Nat.reduceLT, Nat.reduceLeDiff, Nat.reduceAdd, Nat.reduceSub, Nat.reduceMul, Nat.reduceMod, Nat.reduceDiv, Nat.reduceBEq, LN, NN, NT]; done) | rfl
    rintro next k2 hn2 ⟨x13, x14, x15⟩
    let nx2 : Bool → Bool → Int → Option (Int × Int) := (fun x13 x14 x15 => next (x13, x14, x15))
    show J _ (ref04_Size_L2 fu x1 nx2 x13 x14 x15) _
    unfold ref04_Size_L2
    refine J.eq go_seq ?_
    conv => arg 1; simp (disch := first | assumption | decide | with_unfolding_all rfl | omega | (simp only [LN] <;> omega) | (simp only [RO, OF])) only [RR, RM, LN, TT, d16_at, ↓reduceIte, Nat.reduceEqDiff, Nat.reduceLT, Nat.reduceLeDiff, Nat.reduceAdd, Nat.reduceSub, Nat.reduceMul, Nat.reduceMod, Nat.reduceDiv, Nat.reduceBEq]
    refine J.ite (fun h12 => ?_) (fun h12 => ?_)
    · have h12' := decide_eq_true h12
      have h12'' : decide ((x1.length : Int) ≤ x15) = false := decide_eq_false (by omega)
      conv => arg 1; simp (disch := first | assumption | decide | with_unfolding_all rfl | omega | (simp only [LN] <;> omega) | (simp only [RO, OF])) only [RR, RM, LN, TT, d16_at, ↓reduceIte, Nat.reduceEqDiff, Nat.reduceLT, Nat.reduceLeDiff, Nat.reduceAdd, Nat.reduceSub, Nat.reduceMul, Nat.reduceMod, Nat.reduceDiv, Nat.reduceBEq, h12'', h12']
      refine J.eq ret_seq ?_
      refine J.eq go_seq ?_
      conv => arg 1; simp (disch := first | assumption | decide | with_unfolding_all rfl | omega | (simp only [LN] <;> omega) | (simp only [RO, OF])) only [RR, RM, LN, TT, d16_at, ↓reduceIte, Nat.reduceEqDiff, Nat.reduceLT, Nat.reduceLeDiff, Nat.reduceAdd, Nat.reduceSub, Nat.reduceMul, Nat.reduceMod, Nat.reduceDiv, Nat.reduceBEq, h12'', h12']
      refine J.eq go_seq ?_
      refine J.at fun x18 h13 h14 h15 => ?_
      conv => arg 1; simp (disch := first | assumption | decide | with_unfolding_all rfl | omega | (simp only [LN] <;> omega) | (simp only [RO, OF])) only [RR, RM, LN, TT, d16_at, ↓reduceIte, Nat.reduceEqDiff, Nat.reduceLT, Nat.reduceLeDiff, Nat.reduceAdd, Nat.reduceSub, Nat.reduceMul, Nat.reduceMod, Nat.reduceDiv, Nat.reduceBEq, h12'', h12', lm_ik h15]
      refine J.ite (fun h16 => ?_) (fun h16 => ?_)
      · have h16' := decide_eq_true h16
        have h16'' : decide (0 ≤ x18) = false := decide_eq_false (by omega)
        refine J.some ?_
        simp (disch := first | assumption | decide | with_unfolding_all rfl | omega | (simp only [LN] <;> omega) | (simp only [RO, OF])) only [RR, RM, LN, TT, d16_at, ↓reduceIte, Nat.reduceEqDiff, Nat.reduceLT, Nat.reduceLeDiff, Nat.reduceAdd, Nat.reduceSub, Nat.reduceMul, Nat.reduceMod, Nat.reduceDiv, Nat.reduceBEq, h12'', h12', lm_ik h15, h16'', h16', FF, LN, NN, NT]
      · have h16' := decide_eq_false h16
        have h16'' : decide (0 ≤ x18) = true := decide_eq_true (by omega)
        conv => arg 1; simp (disch := first | assumption | decide | with_unfolding_all rfl | omega | (simp only [LN] <;> omega) | (simp only [RO, OF])) only [RR, RM, LN, TT, d16_at, ↓reduceIte, Nat.reduceEqDiff, Nat.reduceLT, Nat.reduceLeDiff, Nat.reduceAdd, Nat.reduceSub, Nat.reduceMul, Nat.reduceMod, Nat.reduceDiv, Nat.reduceBEq, h12'', h12', lm_ik h15, h16'', h16']
        refine J.eq ret_seq ?_
        refine J.joinS (fun (t : Bool) => ([(0, .arr x1.length (lm (ik .i64) x1)), (4, .v (.bool t)), (5, .v (.bool x14)), (6, .v (.int .i64 x15))], [])) (fun t => ref04_Size_k3 fu nx2 x14 x15 x18 t) ?_ (fun hj3 => ?_)
        · rintro x19
          show J _ (ref04_Size_k3 fu nx2 x14 x15 x18 x19) _
          unfold ref04_Size_k3
          conv => arg 1; simp (disch := first | assumption | decide | with_unfolding_all rfl | omega | (simp only [LN] <;> omega) | (simp only [RO, OF])) only [RR, RM, LN, TT, d16_at, ↓reduceIte, Nat.reduceEqDiff, Nat.reduceLT, Nat.reduceLeDiff, Nat.reduceAdd, Nat.reduceSub, Nat.reduceMul, Nat.reduceMod, Nat.reduceDiv, Nat.reduceBEq, h12'', h12', lm_ik h15, h16'', h16']
          refine J.ite (fun h17 => ?_) (fun h17 => ?_)
          · have h17' : x14 = true := h17
            conv => arg 1; simp (disch := first | assumption | decide | with_unfolding_all rfl | omega | (simp only [LN] <;> omega) | (simp only [RO, OF])) only [RR, RM, LN, TT, d16_at, ↓reduceIte, Nat.reduceEqDiff, Nat.reduceLT, Nat.reduceLeDiff, Nat.reduceAdd, Nat.reduceSub, Nat.reduceMul, Nat.reduceMod, Nat.reduceDiv, Nat.reduceBEq, h12'', h12', lm_ik h15, h16'', h16', h17']
            refine J.eq ret_seq ?_
            conv => arg 1; simp (disch := first | assumption | decide | with_unfolding_all rfl | omega | (simp only [LN] <;> omega) | (simp only [RO, OF])) only [RR, RM, LN, TT, d16_at, ↓reduceIte, Nat.reduceEqDiff, Nat.reduceLT, Nat.reduceLeDiff, Nat.reduceAdd, Nat.reduceSub, Nat.reduceMul, Nat.reduceMod, Nat.reduceDiv, Nat.reduceBEq, h12'', h12', lm_ik h15, h16'', h16', h17']
            refine J.next (s := (x19, true, wk .i64 (x15 + 1))) hn2 ?_ ?_
            · first | rfl | (simp only [LN, NN, NT])
            · first | (simp (disch := first | assumption | decide | with_unfolding_all rfl | omega | (simp only [LN] <;> omega) | (simp only [RO, OF])) only [RR, ↓reduceIte, Nat.reduceEqDiff, Nat.reduceLT, Nat.reduceLeDiff, Nat.reduceAdd, Nat.reduceSub, Nat.reduceMul, Nat.reduceMod, Nat.reduceDiv, Nat.reduceBEq, LN, NN, NT]; done) | rfl
          · have h17' : x14 = false := Bool.eq_false_iff.2 h17
            conv => arg 1; simp (disch := first | assumption | decide | with_unfolding_all rfl | omega | (simp only [LN] <;> omega) | (simp only [RO, OF])) only [RR, RM, LN, TT, d16_at, ↓reduceIte, Nat.reduceEqDiff, Nat.reduceLT, Nat.reduceLeDiff, Nat.reduceAdd, Nat.reduceSub, Nat.reduceMul, Nat.reduceMod, Nat.reduceDiv, Nat.reduceBEq, h12'', h12', lm_ik h15, h16'', h16', h17']
            refine J.eq ret_seq ?_
            conv => arg 1; simp (disch := first | assumption | decide | with_unfolding_all rfl | omega | (simp only [LN] <;> omega) | (simp only [RO, OF])) only [RR, RM, LN, TT, d16_at, ↓reduceIte, Nat.reduceEqDiff, Nat.reduceLT, Nat.reduceLeDiff, Nat.reduceAdd, Nat.reduceSub, Nat.reduceMul, Nat.reduceMod, Nat.reduceDiv, Nat.reduceBEq, h12'', h12', lm_ik h15, h16'', h16', h17']
            refine J.next (s := (x19, decide (4096 < x18), wk .i64 (x15 + 1))) hn2 ?_ ?_
            · first | rfl | (simp only [LN, NN, NT])
            · first | (simp (disch := first | assumption | decide | with_unfolding_all rfl | omega | (simp only [LN] <;> omega) | (simp only [RO, OF])) only [RR, ↓reduceIte, Nat.reduceEqDiff, Nat.reduceLT, Nat.reduceLeDiff, Nat.reduceAdd, Nat.reduceSub, Nat.reduceMul, Nat.reduceMod, Nat.reduceDiv, Nat.reduceBEq, LN, NN, NT]; done) | rfl
        · conv => arg 1; simp (disch := first | assumption | decide | with_unfolding_all rfl | omega | (simp only [LN] <;> omega) | (simp only [RO, OF])) only [RR, RM, LN, TT, d16_at, ↓reduceIte, Nat.reduceEqDiff, Nat.reduceLT, Nat.reduceLeDiff, Nat.reduceAdd, Nat.reduceSub, Nat.reduceMul, Nat.reduceMod, Nat.reduceDiv, Nat.reduceBEq, h12'', h12', lm_ik h15, h16'', h16']
          refine J.ite (fun h18 => ?_) (fun h18 => ?_)
          · have h18' : x13 = true := h18
            conv => arg 1; simp (disch := first | assumption | decide | with_unfolding_all rfl | omega | (simp only [LN] <;> omega) | (simp only [RO, OF])) only [RR, RM, LN, TT, d16_at, ↓reduceIte, Nat.reduceEqDiff, Nat.reduceLT, Nat.reduceLeDiff, Nat.reduceAdd, Nat.reduceSub, Nat.reduceMul, Nat.reduceMod, Nat.reduceDiv, Nat.reduceBEq, h12'', h12', lm_ik h15, h16'', h16', h18']
            refine J.jmp (t := true) hj3 ?_ ?_
            · first | rfl | (simp only [LN, NN, NT])
            · first | (simp (disch := first | assumption | decide | with_unfolding_all rfl | omega | (simp only [LN] <;> omega) | (simp only [RO, OF])) only [RR, ↓reduceIte, Nat.reduceEqDiff, Nat.reduceLT, Nat.reduceLeDiff, Nat.reduceAdd, Nat.reduceSub, Nat.reduceMul, Nat.reduceMod, Nat.reduceDiv, Nat.reduceBEq, LN, NN, NT]; done) | rfl
          · have h18' : x13 = false := Bool.eq_false_iff.2 h18
            conv => arg 1; simp (disch := first | assumption | decide | with_unfolding_all rfl | omega | (simp only [LN] <;> omega) | (simp only [RO, OF])) only [RR, RM, LN, TT, d16_at, ↓reduceIte, Nat.reduceEqDiff, Nat.reduceLT, Nat.reduceLeDiff, Nat.reduceAdd, Nat.reduceSub, Nat.reduceMul, Nat.reduceMod, Nat.reduceDiv, Nat.reduceBEq, h12'', h12', lm_ik h15, h16'', h16', h18']
            refine J.jmp (t := decide (x18 = 0)) hj3 ?_ ?_
            · first | rfl | (simp only [LN, NN, NT])
            · first | (simp (disch := first | assumption | decide | with_unfolding_all rfl | omega | (simp only [LN] <;> omega) | (simp only [RO, OF])) only [RR, ↓reduceIte, Nat.reduceEqDiff, Nat.reduceLT, Nat.reduceLeDiff, Nat.reduceAdd, Nat.reduceSub, Nat.reduceMul, Nat.reduceMod, Nat.reduceDiv, Nat.reduceBEq, LN, NN, NT]; done) | rfl
    · have h12' := decide_eq_false h12
      have h12'' : decide ((x1.length : Int) ≤ x15) = true := decide_eq_true (by omega)
      conv => arg 1; simp (disch := first | assumption | decide | with_unfolding_all rfl | omega | (simp only [LN] <;> omega) | (simp only [RO, OF])) only [RR, RM, LN, TT, d16_at, ↓reduceIte, Nat.reduceEqDiff, Nat.reduceLT, Nat.reduceLeDiff, Nat.reduceAdd, Nat.reduceSub, Nat.reduceMul, Nat.reduceMod, Nat.reduceDiv, Nat.reduceBEq, h12'', h12']
      refine J.jmp (t := (x13, x14)) hj1 ?_ ?_
      · first | rfl | (simp only [LN, NN, NT])
      · first | (simp (disch := first | assumption | decide | with_unfolding_all rfl | omega | (simp only [LN] <;> omega) | (simp only [RO, OF])) only [RR, ↓reduceIte, Nat.reduceEqDiff, Nat.reduceLT, Nat.reduceLeDiff, Nat.reduceAdd, Nat.reduceSub, Nat.reduceMul, Nat.reduceMod, Nat.reduceDiv, Nat.reduceBEq, LN, NN, NT]; done) | rfl
noncomputable def t16 (fu : Nat) : CallP := noP
theorem t16_ok (fu : Nat) : CpOK Try.prog (t16 fu ) := noP_ok
theorem ok16 (fu : Nat) (x1 : List Int) (r) (h : ref04_Size fu x1 = some r) : PureOK Try.prog 16 [.arr x1.length (lm (ik .i64) x1)] (e16 r) :=
  pure_J mixed (cp := t16 fu ) (t16_ok fu  ) noI_ok i16 (w16 _ fu x1  ) h
/-! 18: lattice/latticeref04.Strides -/
def d18 : List (Nat × List Nat) := [(0, [2, 3]), (0, [0, 7]), (0, [4, 10, 11, 12, 13, 14]), (0, []), (0, [15]), (0, [9]), (0, [17]), (0, []), (0, [5, 1000006]), (0, []), (0, []), (0, []), (0, [18, 19, 20]), (0, []), (0, [22, 23]), (0, []), (0, []), (0, []), (0, [24, 25]), (0, []), (0, [26, 27, 28]), (0, []), (0, [30, 31]), (0, []), (0, [32, 33, 34, 35, 36, 37]), (0, []), (0, [8, 38, 39, 40, 41]), (0, []), (0, [6, 42])]
def d18_at := And.intro (show d18.getD 0 (0, []) = (0, [2, 3]) from rfl) <| And.intro (show d18.getD 1 (0, []) = (0, [0, 7]) from rfl) <| And.intro (show d18.getD 2 (0, []) = (0, [4, 10, 11, 12, 13, 14]) from rfl) <| And.intro (show d18.getD 3 (0, []) = (0, []) from rfl) <| And.intro (show d18.getD 4 (0, []) = (0, [15]) from rfl) <| And.intro (show d18.getD 5 (0, []) = (0, [9]) from rfl) <| And.intro (show d18.getD 6 (0, []) = (0, [17]) from rfl) <| And.intro (show d18.getD 7 (0, []) = (0, []) from rfl) <| And.intro (show d18.getD 8 (0, []) = (0, [5, 1000006]) from rfl) <| And.intro (show d18.getD 9 (0, []) = (0, []) from rfl) <| And.intro (show d18.getD 10 (0, []) = (0, []) from rfl) <| And.intro (show d18.getD 11 (0, []) = (0, []) from rfl) <| And.intro (show d18.getD 12 (0, []) = (0, [18, 19, 20]) from rfl) <| And.intro (show d18.getD 13 (0, []) = (0, []) from rfl) <| And.intro (show d18.getD 14 (0, []) = (0, [22, 23]) from rfl) <| And.intro (show d18.getD 15 (0, []) = (0, []) from rfl) <| And.intro (show d18.getD 16 (0, []) = (0, []) from rfl) <| And.intro (show d18.getD 17 (0, []) = (0, []) from rfl) <| And.intro (show d18.getD 18 (0, []) = (0, [24, 25]) from rfl) <| And.intro (show d18.getD 19 (0, []) = (0, []) from rfl) <| And.intro (show d18.getD 20 (0, []) = (0, [26, 27, 28]) from rfl) <| And.intro (show d18.getD 21 (0, []) = (0, []) from rfl) <| And.intro (show d18.getD 22 (0, []) = (0, [30, 31]) from rfl) <| And.intro (show d18.getD 23 (0, []) = (0, []) from rfl) <| And.intro (show d18.getD 24 (0, []) = (0, [32, 33, 34, 35, 36, 37]) from rfl) <| And.intro (show d18.getD 25 (0, []) = (0, []) from rfl) <| And.intro (show d18.getD 26 (0, []) = (0, [8, 38, 39, 40, 41]) from rfl) <| And.intro (show d18.getD 27 (0, []) = (0, []) from rfl) <| (show d18.getD 28 (0, []) = (0, [6, 42]) from rfl)
theorem i18 : finfo Try.prog 18 d18 = some ⟨bodyOf Try.f18, [.tmp 2, .tmp 3], [22, 25]⟩ := finfo_at Try.func18 rfl (by kernel_rfl) (by kernel_rfl)
def e18 : ((List Int) × Int) → AV := fun r => .tuple [.fresh 1 r.1.length (lm (ik .i64) r.1), .v (.int .i64 r.2)]
set_option maxHeartbeats 1000000 in
theorem w18 (cp : CallP) (fu : Nat) (x1 : List Int) (H16_0 : ∀ (a0 : List Int) r, ref04_Size fu a0 = some r → cp 16 [.arr a0.length (lm (ik .i64) a0)] = some (.tuple [.v (.int .i64 r.1), .v (.int .i64 r.2)])) : J (go Try.prog noC cp noI 0 [] d18 fu (fin Try.prog [.tmp 2, .tmp 3] [22, 25]) (bodyOf Try.f18) (initE 0 [.arr x1.length (lm (ik .i64) x1)]) [] []) (ref04_Strides fu x1) e18 := by
  unfold ref04_Strides e18
  refine J.bind fun x2 h1 => ?_
  have e_h1 := H16_0 _ _ h1
  try simp only [NN, NT, LN] at e_h1
  conv => arg 1; simp (disch := first | assumption | decide | with_unfolding_all rfl | omega | (simp only [LN] <;> omega) | (simp only [RO, OF])) only [bodyOf, Try.f18, RR, RM, LN, TT, d18_at, ↓reduceIte, Nat.reduceEqDiff, Nat.reduceLT, Nat.reduceLeDiff, Nat.reduceAdd, Nat.reduceSub, Nat.reduceMul, Nat.reduceMod, Nat.reduceDiv, Nat.reduceBEq, e_h1]
  refine J.eq go_seq ?_
  conv => arg 1; simp (disch := first | assumption | decide | with_unfolding_all rfl | omega | (simp only [LN] <;> omega) | (simp only [RO, OF])) only [RR, RM, LN, TT, d18_at, ↓reduceIte, Nat.reduceEqDiff, Nat.reduceLT, Nat.reduceLeDiff, Nat.reduceAdd, Nat.reduceSub, Nat.reduceMul, Nat.reduceMod, Nat.reduceDiv, Nat.reduceBEq, e_h1]
  refine J.ite (fun h2 => ?_) (fun h2 => ?_)
  · have h2' := decide_eq_true h2
    conv => arg 1; simp (disch := first | assumption | decide | with_unfolding_all rfl | omega | (simp only [LN] <;> omega) | (simp only [RO, OF])) only [RR, RM, LN, TT, d18_at, ↓reduceIte, Nat.reduceEqDiff, Nat.reduceLT, Nat.reduceLeDiff, Nat.reduceAdd, Nat.reduceSub, Nat.reduceMul, Nat.reduceMod, Nat.reduceDiv, Nat.reduceBEq, e_h1, h2']
    refine J.eq ret_seq ?_
    conv => arg 1; simp (disch := first | assumption | decide | with_unfolding_all rfl | omega | (simp only [LN] <;> omega) | (simp only [RO, OF])) only [RR, RM, LN, TT, d18_at, ↓reduceIte, Nat.reduceEqDiff, Nat.reduceLT, Nat.reduceLeDiff, Nat.reduceAdd, Nat.reduceSub, Nat.reduceMul, Nat.reduceMod, Nat.reduceDiv, Nat.reduceBEq, e_h1, h2']
    refine J.eq go_seq ?_
    conv => arg 1; simp (disch := first | assumption | decide | with_unfolding_all rfl | omega | (simp only [LN] <;> omega) | (simp only [RO, OF])) only [RR, RM, LN, TT, d18_at, ↓reduceIte, Nat.reduceEqDiff, Nat.reduceLT, Nat.reduceLeDiff, Nat.reduceAdd, Nat.reduceSub, Nat.reduceMul, Nat.reduceMod, Nat.reduceDiv, Nat.reduceBEq, e_h1, h2']
    unfold ref04_Strides_W1
    refine J.loop (fun (s : (List Int) × Int) => ([(0, .arr x1.length (lm (ik .i64) x1)), (6, .own (0, 6, 77) 0 s.1.length s.1.length), (7, .v (.int .i64 s.2))], [((0, 6, 77), .sl true true 1 s.1.length (lm (ik .i64) s.1))])) (fun next s => ref04_Strides_L1 fu x1 (fun x9 x10 => next (x9, x10)) s.1 s.2) (s0 := (([] : List Int), 0)) ?_ ?_ ?_
    · first | rfl | (simp only [LN, NN, NT])
    · first | (simp (disch := first | assumption | decide | with_unfolding_all rfl | omega | (simp only [LN] <;> omega) | (simp only [RO, OF])) only [RR, ↓reduceIte, Nat.reduceEqDiff, Nat.reduceLT, Nat.reduceLeDiff, Nat.reduceAdd, Nat.reduceSub, Nat.reduceMul, Nat.reduceMod, Nat.reduceDiv, Nat.reduceBEq, LN, NN, NT]; done) | rfl
    rintro next k1 hn1 ⟨x9, x10⟩
    let nx1 : (List Int) → Int → Option ((List Int) × Int) := (fun x9 x10 => next (x9, x10))
    show J _ (ref04_Strides_L1 fu x1 nx1 x9 x10) _
    unfold ref04_Strides_L1
    refine J.eq go_seq ?_
    conv => arg 1; simp (disch := first | assumption | decide | with_unfolding_all rfl | omega | (simp only [LN] <;> omega) | (simp only [RO, OF])) only [RR, RM, LN, TT, d18_at, ↓reduceIte, Nat.reduceEqDiff, Nat.reduceLT, Nat.reduceLeDiff, Nat.reduceAdd, Nat.reduceSub, Nat.reduceMul, Nat.reduceMod, Nat.reduceDiv, Nat.reduceBEq, e_h1, h2']
    refine J.ite (fun h3 => ?_) (fun h3 => ?_)
    · have h3' := decide_eq_true h3
      have h3'' : decide ((x1.length : Int) ≤ x10) = false := decide_eq_false (by omega)
      conv => arg 1; simp (disch := first | assumption | decide | with_unfolding_all rfl | omega | (simp only [LN] <;> omega) | (simp only [RO, OF])) only [RR, RM, LN, TT, d18_at, ↓reduceIte, Nat.reduceEqDiff, Nat.reduceLT, Nat.reduceLeDiff, Nat.reduceAdd, Nat.reduceSub, Nat.reduceMul, Nat.reduceMod, Nat.reduceDiv, Nat.reduceBEq, e_h1, h2', h3'', h3']
      refine J.eq ret_seq ?_
      refine J.eq go_seq ?_
      conv => arg 1; simp (disch := first | assumption | decide | with_unfolding_all rfl | omega | (simp only [LN] <;> omega) | (simp only [RO, OF])) only [RR, RM, LN, TT, d18_at, ↓reduceIte, Nat.reduceEqDiff, Nat.reduceLT, Nat.reduceLeDiff, Nat.reduceAdd, Nat.reduceSub, Nat.reduceMul, Nat.reduceMod, Nat.reduceDiv, Nat.reduceBEq, e_h1, h2', h3'', h3']
      refine J.joinS (fun (t : Int) => ([(0, .arr x1.length (lm (ik .i64) x1)), (6, .own (0, 6, 77) 0 x9.length x9.length), (7, .v (.int .i64 x10)), (8, .v (.int .i64 t))], [((0, 6, 77), .sl true true 1 x9.length (lm (ik .i64) x9))])) (fun t => ref04_Strides_k1 fu nx1 x9 x10 t) ?_ (fun hj1 => ?_)
      · rintro x17
        show J _ (ref04_Strides_k1 fu nx1 x9 x10 x17) _
        unfold ref04_Strides_k1
        refine J.chk fun h4 => ?_
        conv => arg 1; simp (disch := first | assumption | decide | with_unfolding_all rfl | omega | (simp only [LN] <;> omega) | (simp only [RO, OF])) only [RR, RM, LN, TT, d18_at, ↓reduceIte, Nat.reduceEqDiff, Nat.reduceLT, Nat.reduceLeDiff, Nat.reduceAdd, Nat.reduceSub, Nat.reduceMul, Nat.reduceMod, Nat.reduceDiv, Nat.reduceBEq, e_h1, h2', h3'', h3']
        refine J.eq ret_seq ?_
        conv => arg 1; simp (disch := first | assumption | decide | with_unfolding_all rfl | omega | (simp only [LN] <;> omega) | (simp only [RO, OF])) only [RR, RM, LN, TT, d18_at, ↓reduceIte, Nat.reduceEqDiff, Nat.reduceLT, Nat.reduceLeDiff, Nat.reduceAdd, Nat.reduceSub, Nat.reduceMul, Nat.reduceMod, Nat.reduceDiv, Nat.reduceBEq, e_h1, h2', h3'', h3']
        refine J.next (s := (x9 ++ ([x17]), wk .i64 (x10 + 1))) hn1 ?_ ?_
        · first | rfl | (simp only [LN, NN, NT])
        · first | (simp (disch := first | assumption | decide | with_unfolding_all rfl | omega | (simp only [LN] <;> omega) | (simp only [RO, OF])) only [RR, ↓reduceIte, Nat.reduceEqDiff, Nat.reduceLT, Nat.reduceLeDiff, Nat.reduceAdd, Nat.reduceSub, Nat.reduceMul, Nat.reduceMod, Nat.reduceDiv, Nat.reduceBEq, LN, NN, NT]; done) | rfl
      · conv => arg 1; simp (disch := first | assumption | decide | with_unfolding_all rfl | omega | (simp only [LN] <;> omega) | (simp only [RO, OF])) only [RR, RM, LN, TT, d18_at, ↓reduceIte, Nat.reduceEqDiff, Nat.reduceLT, Nat.reduceLeDiff, Nat.reduceAdd, Nat.reduceSub, Nat.reduceMul, Nat.reduceMod, Nat.reduceDiv, Nat.reduceBEq, e_h1, h2', h3'', h3']
        unfold ref04_Strides_W2
        refine J.loop (fun (s : Int × Int) => ([(0, .arr x1.length (lm (ik .i64) x1)), (6, .own (0, 6, 77) 0 x9.length x9.length), (7, .v (.int .i64 x10)), (8, .v (.int .i64 s.1)), (9, .v (.int .i64 s.2))], [((0, 6, 77), .sl true true 1 x9.length (lm (ik .i64) x9))])) (fun next s => ref04_Strides_L2 fu nx1 x1 x9 x10 (fun x19 x20 => next (x19, x20)) s.1 s.2) (s0 := (1, wk .i64 (x10 + 1))) ?_ ?_ ?_
        · first | rfl | (simp only [LN, NN, NT])
        · first | (simp (disch := first | assumption | decide | with_unfolding_all rfl | omega | (simp only [LN] <;> omega) | (simp only [RO, OF])) only [RR, ↓reduceIte, Nat.reduceEqDiff, Nat.reduceLT, Nat.reduceLeDiff, Nat.reduceAdd, Nat.reduceSub, Nat.reduceMul, Nat.reduceMod, Nat.reduceDiv, Nat.reduceBEq, LN, NN, NT]; done) | rfl
        rintro next k2 hn2 ⟨x19, x20⟩
        let nx2 : Int → Int → Option ((List Int) × Int) := (fun x19 x20 => next (x19, x20))
        show J _ (ref04_Strides_L2 fu nx1 x1 x9 x10 nx2 x19 x20) _
        unfold ref04_Strides_L2
        refine J.eq go_seq ?_
        conv => arg 1; simp (disch := first | assumption | decide | with_unfolding_all rfl | omega | (simp only [LN] <;> omega) | (simp only [RO, OF])) only [RR, RM, LN, TT, d18_at, ↓reduceIte, Nat.reduceEqDiff, Nat.reduceLT, Nat.reduceLeDiff, Nat.reduceAdd, Nat.reduceSub, Nat.reduceMul, Nat.reduceMod, Nat.reduceDiv, Nat.reduceBEq, e_h1, h2', h3'', h3']
        refine J.ite (fun h5 => ?_) (fun h5 => ?_)
        · have h5' := decide_eq_true h5
          have h5'' : decide ((x1.length : Int) ≤ x20) = false := decide_eq_false (by omega)
          conv => arg 1; simp (disch := first | assumption | decide | with_unfolding_all rfl | omega | (simp only [LN] <;> omega) | (simp only [RO, OF])) only [RR, RM, LN, TT, d18_at, ↓reduceIte, Nat.reduceEqDiff, Nat.reduceLT, Nat.reduceLeDiff, Nat.reduceAdd, Nat.reduceSub, Nat.reduceMul, Nat.reduceMod, Nat.reduceDiv, Nat.reduceBEq, e_h1, h2', h3'', h3', h5'', h5']
          refine J.eq ret_seq ?_
          refine J.eq go_seq ?_
          refine J.at fun x22 h6 h7 h8 => ?_
          conv => arg 1; simp (disch := first | assumption | decide | with_unfolding_all rfl | omega | (simp only [LN] <;> omega) | (simp only [RO, OF])) only [RR, RM, LN, TT, d18_at, ↓reduceIte, Nat.reduceEqDiff, Nat.reduceLT, Nat.reduceLeDiff, Nat.reduceAdd, Nat.reduceSub, Nat.reduceMul, Nat.reduceMod, Nat.reduceDiv, Nat.reduceBEq, e_h1, h2', h3'', h3', h5'', h5', lm_ik h8]
          refine J.eq ret_seq ?_
          conv => arg 1; simp (disch := first | assumption | decide | with_unfolding_all rfl | omega | (simp only [LN] <;> omega) | (simp only [RO, OF])) only [RR, RM, LN, TT, d18_at, ↓reduceIte, Nat.reduceEqDiff, Nat.reduceLT, Nat.reduceLeDiff, Nat.reduceAdd, Nat.reduceSub, Nat.reduceMul, Nat.reduceMod, Nat.reduceDiv, Nat.reduceBEq, e_h1, h2', h3'', h3', h5'', h5', lm_ik h8]
          refine J.next (s := (wk .i64 (x19 * x22), wk .i64 (x20 + 1))) hn2 ?_ ?_
          · first | rfl | (simp only [LN, NN, NT])
          · first | (simp (disch := first | assumption | decide | with_unfolding_all rfl | omega | (simp only [LN] <;> omega) | (simp only [RO, OF])) only [RR, ↓reduceIte, Nat.reduceEqDiff, Nat.reduceLT, Nat.reduceLeDiff, Nat.reduceAdd, Nat.reduceSub, Nat.reduceMul, Nat.reduceMod, Nat.reduceDiv, Nat.reduceBEq, LN, NN, NT]; done) | rfl
        · have h5' := decide_eq_false h5
          have h5'' : decide ((x1.length : Int) ≤ x20) = true := decide_eq_true (by omega)
          conv => arg 1; simp (disch := first | assumption | decide | with_unfolding_all rfl | omega | (simp only [LN] <;> omega) | (simp only [RO, OF])) only [RR, RM, LN, TT, d18_at, ↓reduceIte, Nat.reduceEqDiff, Nat.reduceLT, Nat.reduceLeDiff, Nat.reduceAdd, Nat.reduceSub, Nat.reduceMul, Nat.reduceMod, Nat.reduceDiv, Nat.reduceBEq, e_h1, h2', h3'', h3', h5'', h5']
          refine J.jmp (t := x19) hj1 ?_ ?_
          · first | rfl | (simp only [LN, NN, NT])
          · first | (simp (disch := first | assumption | decide | with_unfolding_all rfl | omega | (simp only [LN] <;> omega) | (simp only [RO, OF])) only [RR, ↓reduceIte, Nat.reduceEqDiff, Nat.reduceLT, Nat.reduceLeDiff, Nat.reduceAdd, Nat.reduceSub, Nat.reduceMul, Nat.reduceMod, Nat.reduceDiv, Nat.reduceBEq, LN, NN, NT]; done) | rfl
    · have h3' := decide_eq_false h3
      have h3'' : decide ((x1.length : Int) ≤ x10) = true := decide_eq_true (by omega)
      conv => arg 1; simp (disch := first | assumption | decide | with_unfolding_all rfl | omega | (simp only [LN] <;> omega) | (simp only [RO, OF])) only [RR, RM, LN, TT, d18_at, ↓reduceIte, Nat.reduceEqDiff, Nat.reduceLT, Nat.reduceLeDiff, Nat.reduceAdd, Nat.reduceSub, Nat.reduceMul, Nat.reduceMod, Nat.reduceDiv, Nat.reduceBEq, e_h1, h2', h3'', h3']
      refine J.eq ret_seq ?_
      refine J.some ?_
      simp (disch := first | assumption | decide | with_unfolding_all rfl | omega | (simp only [LN] <;> omega) | (simp only [RO, OF])) only [RR, RM, LN, TT, d18_at, ↓reduceIte, Nat.reduceEqDiff, Nat.reduceLT, Nat.reduceLeDiff, Nat.reduceAdd, Nat.reduceSub, Nat.reduceMul, Nat.reduceMod, Nat.reduceDiv, Nat.reduceBEq, e_h1, h2', h3'', h3', FF, LN, NN, NT]
  · have h2' := decide_eq_false h2
    refine J.some ?_
    simp (disch := first | assumption | decide | with_unfolding_all rfl | omega | (simp only [LN] <;> omega) | (simp only [RO, OF])) only [RR, RM, LN, TT, d18_at, ↓reduceIte, Nat.reduceEqDiff, Nat.reduceLT, Nat.reduceLeDiff, Nat.reduceAdd, Nat.reduceSub, Nat.reduceMul, Nat.reduceMod, Nat.reduceDiv, Nat.reduceBEq, e_h1, h2', FF, LN, NN, NT]
noncomputable def t18 (fu : Nat) : CallP := orE 16 (mkC (fun (t : List Int) => ([.arr t.length (lm (ik .i64) t)] : List AV)) (fun t => ref04_Size fu t) e16) (noP)
theorem t18_ok (fu : Nat) : CpOK Try.prog (t18 fu ) := orE_ok (noP_ok) (mkC_ok (fun t b h => ok16 fu t  b h))
theorem ok18 (fu : Nat) (x1 : List Int) (r) (h : ref04_Strides fu x1 = some r) : PureOK Try.prog 18 [.arr x1.length (lm (ik .i64) x1)] (e18 r) :=
  pure_J mixed (cp := t18 fu ) (t18_ok fu  ) noI_ok i18 (w18 _ fu x1  (fun a0 r h => orE_hit (mkC_at (a := a0) (by intro a b h; first | (exact rfl) | (simp only [INJ] at h; first | exact h | (simp_all [Prod.ext_iff]) )) h))) h
/-! 20: lattice/latticeref04.Index -/
def d20 : List (Nat × List Nat) := [(0, [4, 5]), (0, [0, 1, 9]), (0, [10, 11, 12, 13, 14]), (0, []), (0, [15]), (0, []), (0, [17]), (0, []), (0, [6, 7, 18, 19, 20, 21, 22, 23]), (0, []), (0, []), (0, []), (0, [25, 26, 27]), (0, []), (0, [28, 29, 30]), (0, []), (0, [31]), (0, []), (0, [33, 34]), (0, []), (0, [35, 36, 37, 38, 39, 40, 41, 42, 43]), (0, []), (0, [44, 45, 46, 47, 48, 49]), (0, []), (0, [8, 50])]
def d20_at := And.intro (show d20.getD 0 (0, []) = (0, [4, 5]) from rfl) <| And.intro (show d20.getD 1 (0, []) = (0, [0, 1, 9]) from rfl) <| And.intro (show d20.getD 2 (0, []) = (0, [10, 11, 12, 13, 14]) from rfl) <| And.intro (show d20.getD 3 (0, []) = (0, []) from rfl) <| And.intro (show d20.getD 4 (0, []) = (0, [15]) from rfl) <| And.intro (show d20.getD 5 (0, []) = (0, []) from rfl) <| And.intro (show d20.getD 6 (0, []) = (0, [17]) from rfl) <| And.intro (show d20.getD 7 (0, []) = (0, []) from rfl) <| And.intro (show d20.getD 8 (0, []) = (0, [6, 7, 18, 19, 20, 21, 22, 23]) from rfl) <| And.intro (show d20.getD 9 (0, []) = (0, []) from rfl) <| And.intro (show d20.getD 10 (0, []) = (0, []) from rfl) <| And.intro (show d20.getD 11 (0, []) = (0, []) from rfl) <| And.intro (show d20.getD 12 (0, []) = (0, [25, 26, 27]) from rfl) <| And.intro (show d20.getD 13 (0, []) = (0, []) from rfl) <| And.intro (show d20.getD 14 (0, []) = (0, [28, 29, 30]) from rfl) <| And.intro (show d20.getD 15 (0, []) = (0, []) from rfl) <| And.intro (show d20.getD 16 (0, []) = (0, [31]) from rfl) <| And.intro (show d20.getD 17 (0, []) = (0, []) from rfl) <| And.intro (show d20.getD 18 (0, []) = (0, [33, 34]) from rfl) <| And.intro (show d20.getD 19 (0, []) = (0, []) from rfl) <| And.intro (show d20.getD 20 (0, []) = (0, [35, 36, 37, 38, 39, 40, 41, 42, 43]) from rfl) <| And.intro (show d20.getD 21 (0, []) = (0, []) from rfl) <| And.intro (show d20.getD 22 (0, []) = (0, [44, 45, 46, 47, 48, 49]) from rfl) <| And.intro (show d20.getD 23 (0, []) = (0, []) from rfl) <| (show d20.getD 24 (0, []) = (0, [8, 50]) from rfl)
theorem i20 : finfo Try.prog 20 d20 = some ⟨bodyOf Try.f20, [.tmp 4, .tmp 5], [22, 25]⟩ := finfo_at Try.func20 rfl (by kernel_rfl) (by kernel_rfl)
def e20 : ((List Int) × Int) → AV := fun r => .tuple [.fresh 1 r.1.length (lm (ik .i64) r.1), .v (.int .i64 r.2)]
set_option maxHeartbeats 1000000 in
theorem w20 (cp : CallP) (fu : Nat) (x1 : List Int) (x2 : Int) (H16_0 : ∀ (a0 : List Int) r, ref04_Size fu a0 = some r → cp 16 [.arr a0.length (lm (ik .i64) a0)] = some (.tuple [.v (.int .i64 r.1), .v (.int .i64 r.2)])) : J (go Try.prog noC cp noI 0 [] d20 fu (fin Try.prog [.tmp 4, .tmp 5] [22, 25]) (bodyOf Try.f20) (initE 0 [.arr x1.length (lm (ik .i64) x1), .v (.int .i64 x2)]) [] []) (ref04_Index fu x1 x2) e20 := by
  unfold ref04_Index e20
  refine J.bind fun x3 h1 => ?_
  have e_h1 := H16_0 _ _ h1
  try simp only [NN, NT, LN] at e_h1
  conv => arg 1; simp (disch := first | assumption | decide | with_unfolding_all rfl | omega | (simp only [LN] <;> omega) | (simp only [RO, OF])) only [bodyOf, Try.f20, RR, RM, LN, TT, d20_at, ↓reduceIte, Nat.reduceEqDiff, Nat.reduceLT, Nat.reduceLeDiff, Nat.reduceAdd, Nat.reduceSub, Nat.reduceMul, Nat.reduceMod, Nat.reduceDiv, Nat.reduceBEq, e_h1]
  refine J.eq go_seq ?_
  conv => arg 1; simp (disch := first | assumption | decide | with_unfolding_all rfl | omega | (simp only [LN] <;> omega) | (simp only [RO, OF])) only [RR, RM, LN, TT, d20_at, ↓reduceIte, Nat.reduceEqDiff, Nat.reduceLT, Nat.reduceLeDiff, Nat.reduceAdd, Nat.reduceSub, Nat.reduceMul, Nat.reduceMod, Nat.reduceDiv, Nat.reduceBEq, e_h1]
  refine J.ite (fun h2 => ?_) (fun h2 => ?_)
  · have h2' := decide_eq_true h2
    conv => arg 1; simp (disch := first | assumption | decide | with_unfolding_all rfl | omega | (simp only [LN] <;> omega) | (simp only [RO, OF])) only [RR, RM, LN, TT, d20_at, ↓reduceIte, Nat.reduceEqDiff, Nat.reduceLT, Nat.reduceLeDiff, Nat.reduceAdd, Nat.reduceSub, Nat.reduceMul, Nat.reduceMod, Nat.reduceDiv, Nat.reduceBEq, e_h1, h2']
    refine J.eq ret_seq ?_
    refine J.joinS (fun (t : Unit) => ([(0, .arr x1.length (lm (ik .i64) x1)), (1, .v (.int .i64 x2))], [])) (fun t => ref04_Index_k1 fu x1 x2) ?_ (fun hj1 => ?_)
    · rintro ⟨⟩
      show J _ (ref04_Index_k1 fu x1 x2) _
      unfold ref04_Index_k1
      refine J.chk fun h3 => ?_
      conv => arg 1; simp (disch := first | assumption | decide | with_unfolding_all rfl | omega | (simp only [LN] <;> omega) | (simp only [RO, OF])) only [RR, RM, LN, TT, d20_at, ↓reduceIte, Nat.reduceEqDiff, Nat.reduceLT, Nat.reduceLeDiff, Nat.reduceAdd, Nat.reduceSub, Nat.reduceMul, Nat.reduceMod, Nat.reduceDiv, Nat.reduceBEq, e_h1, h2']
      refine J.eq go_seq ?_
      conv => arg 1; simp (disch := first | assumption | decide | with_unfolding_all rfl | omega | (simp only [LN] <;> omega) | (simp only [RO, OF])) only [RR, RM, LN, TT, d20_at, ↓reduceIte, Nat.reduceEqDiff, Nat.reduceLT, Nat.reduceLeDiff, Nat.reduceAdd, Nat.reduceSub, Nat.reduceMul, Nat.reduceMod, Nat.reduceDiv, Nat.reduceBEq, e_h1, h2']
      unfold ref04_Index_W1
      refine J.loop (fun (s : (List Int) × Int × Int) => ([(0, .arr x1.length (lm (ik .i64) x1)), (1, .v (.int .i64 s.2.1)), (8, .own (0, 27, 0) 0 s.1.length s.1.length), (9, .v (.int .i64 s.2.2))], [((0, 27, 0), .sl true true 1 s.1.length (lm (ik .i64) s.1))])) (fun next s => ref04_Index_L1 fu x1 (fun x5 x6 x7 => next (x5, x6, x7)) s.1 s.2.1 s.2.2) (s0 := (List.replicate (x1.length : Int).toNat (0 : Int), x2, wk .i64 ((x1.length : Int) - 1))) ?_ ?_ ?_
      · first | rfl | (simp only [LN, NN, NT])
      · first | (simp (disch := first | assumption | decide | with_unfolding_all rfl | omega | (simp only [LN] <;> omega) | (simp only [RO, OF])) only [RR, ↓reduceIte, Nat.reduceEqDiff, Nat.reduceLT, Nat.reduceLeDiff, Nat.reduceAdd, Nat.reduceSub, Nat.reduceMul, Nat.reduceMod, Nat.reduceDiv, Nat.reduceBEq, LN, NN, NT]; done) | rfl
      rintro next k1 hn1 ⟨x5, x6, x7⟩
      let nx1 : (List Int) → Int → Int → Option ((List Int) × Int) := (fun x5 x6 x7 => next (x5, x6, x7))
      show J _ (ref04_Index_L1 fu x1 nx1 x5 x6 x7) _
      unfold ref04_Index_L1
      refine J.eq go_seq ?_
      conv => arg 1; simp (disch := first | assumption | decide | with_unfolding_all rfl | omega | (simp only [LN] <;> omega) | (simp only [RO, OF])) only [RR, RM, LN, TT, d20_at, ↓reduceIte, Nat.reduceEqDiff, Nat.reduceLT, Nat.reduceLeDiff, Nat.reduceAdd, Nat.reduceSub, Nat.reduceMul, Nat.reduceMod, Nat.reduceDiv, Nat.reduceBEq, e_h1, h2']
      refine J.ite (fun h4 => ?_) (fun h4 => ?_)
      · have h4' := decide_eq_true h4
        have h4'' : decide (x7 < 0) = false := decide_eq_false (by omega)
        conv => arg 1; simp (disch := first | assumption | decide | with_unfolding_all rfl | omega | (simp only [LN] <;> omega) | (simp only [RO, OF])) only [RR, RM, LN, TT, d20_at, ↓reduceIte, Nat.reduceEqDiff, Nat.reduceLT, Nat.reduceLeDiff, Nat.reduceAdd, Nat.reduceSub, Nat.reduceMul, Nat.reduceMod, Nat.reduceDiv, Nat.reduceBEq, e_h1, h2', h4'', h4']
        refine J.eq ret_seq ?_
        refine J.eq go_seq ?_
        refine J.at fun x9 h5 h6 h7 => ?_
        refine J.chk fun h8 => ?_
        refine J.chk fun h9 => ?_
        conv => arg 1; simp (disch := first | assumption | decide | with_unfolding_all rfl | omega | (simp only [LN] <;> omega) | (simp only [RO, OF])) only [RR, RM, LN, TT, d20_at, ↓reduceIte, Nat.reduceEqDiff, Nat.reduceLT, Nat.reduceLeDiff, Nat.reduceAdd, Nat.reduceSub, Nat.reduceMul, Nat.reduceMod, Nat.reduceDiv, Nat.reduceBEq, e_h1, h2', h4'', h4', lm_ik h7]
        refine J.eq ret_seq ?_
        conv => arg 1; simp (disch := first | assumption | decide | with_unfolding_all rfl | omega | (simp only [LN] <;> omega) | (simp only [RO, OF])) only [RR, RM, LN, TT, d20_at, ↓reduceIte, Nat.reduceEqDiff, Nat.reduceLT, Nat.reduceLeDiff, Nat.reduceAdd, Nat.reduceSub, Nat.reduceMul, Nat.reduceMod, Nat.reduceDiv, Nat.reduceBEq, e_h1, h2', h4'', h4', lm_ik h7]
        refine J.next (s := (x5.set x7.toNat (Int.tmod x6 x9), wk .i64 (Int.tdiv x6 x9), wk .i64 (x7 - 1))) hn1 ?_ ?_
        · first | rfl | (simp only [LN, NN, NT])
        · first | (simp (disch := first | assumption | decide | with_unfolding_all rfl | omega | (simp only [LN] <;> omega) | (simp only [RO, OF])) only [RR, ↓reduceIte, Nat.reduceEqDiff, Nat.reduceLT, Nat.reduceLeDiff, Nat.reduceAdd, Nat.reduceSub, Nat.reduceMul, Nat.reduceMod, Nat.reduceDiv, Nat.reduceBEq, LN, NN, NT]; done) | rfl
      · have h4' := decide_eq_false h4
        have h4'' : decide (x7 < 0) = true := decide_eq_true (by omega)
        conv => arg 1; simp (disch := first | assumption | decide | with_unfolding_all rfl | omega | (simp only [LN] <;> omega) | (simp only [RO, OF])) only [RR, RM, LN, TT, d20_at, ↓reduceIte, Nat.reduceEqDiff, Nat.reduceLT, Nat.reduceLeDiff, Nat.reduceAdd, Nat.reduceSub, Nat.reduceMul, Nat.reduceMod, Nat.reduceDiv, Nat.reduceBEq, e_h1, h2', h4'', h4']
        refine J.eq ret_seq ?_
        refine J.some ?_
        simp (disch := first | assumption | decide | with_unfolding_all rfl | omega | (simp only [LN] <;> omega) | (simp only [RO, OF])) only [RR, RM, LN, TT, d20_at, ↓reduceIte, Nat.reduceEqDiff, Nat.reduceLT, Nat.reduceLeDiff, Nat.reduceAdd, Nat.reduceSub, Nat.reduceMul, Nat.reduceMod, Nat.reduceDiv, Nat.reduceBEq, e_h1, h2', h4'', h4', FF, LN, NN, NT]
    · refine J.eq go_seq ?_
      conv => arg 1; simp (disch := first | assumption | decide | with_unfolding_all rfl | omega | (simp only [LN] <;> omega) | (simp only [RO, OF])) only [RR, RM, LN, TT, d20_at, ↓reduceIte, Nat.reduceEqDiff, Nat.reduceLT, Nat.reduceLeDiff, Nat.reduceAdd, Nat.reduceSub, Nat.reduceMul, Nat.reduceMod, Nat.reduceDiv, Nat.reduceBEq, e_h1, h2']
      refine J.ite (fun h10 => ?_) (fun h10 => ?_)
      · have h10' := decide_eq_true h10
        have h10'' : decide (0 ≤ x2) = false := decide_eq_false (by omega)
        conv => arg 1; simp (disch := first | assumption | decide | with_unfolding_all rfl | omega | (simp only [LN] <;> omega) | (simp only [RO, OF])) only [RR, RM, LN, TT, d20_at, ↓reduceIte, Nat.reduceEqDiff, Nat.reduceLT, Nat.reduceLeDiff, Nat.reduceAdd, Nat.reduceSub, Nat.reduceMul, Nat.reduceMod, Nat.reduceDiv, Nat.reduceBEq, e_h1, h2', h10'', h10']
        refine J.eq ret_seq ?_
        refine J.some ?_
        simp (disch := first | assumption | decide | with_unfolding_all rfl | omega | (simp only [LN] <;> omega) | (simp only [RO, OF])) only [RR, RM, LN, TT, d20_at, ↓reduceIte, Nat.reduceEqDiff, Nat.reduceLT, Nat.reduceLeDiff, Nat.reduceAdd, Nat.reduceSub, Nat.reduceMul, Nat.reduceMod, Nat.reduceDiv, Nat.reduceBEq, e_h1, h2', h10'', h10', FF, LN, NN, NT]
      · have h10' := decide_eq_false h10
        have h10'' : decide (0 ≤ x2) = true := decide_eq_true (by omega)
        conv => arg 1; simp (disch := first | assumption | decide | with_unfolding_all rfl | omega | (simp only [LN] <;> omega) | (simp only [RO, OF])) only [RR, RM, LN, TT, d20_at, ↓reduceIte, Nat.reduceEqDiff, Nat.reduceLT, Nat.reduceLeDiff, Nat.reduceAdd, Nat.reduceSub, Nat.reduceMul, Nat.reduceMod, Nat.reduceDiv, Nat.reduceBEq, e_h1, h2', h10'', h10']
        refine J.eq ret_seq ?_
        conv => arg 1; simp (disch := first | assumption | decide | with_unfolding_all rfl | omega | (simp only [LN] <;> omega) | (simp only [RO, OF])) only [RR, RM, LN, TT, d20_at, ↓reduceIte, Nat.reduceEqDiff, Nat.reduceLT, Nat.reduceLeDiff, Nat.reduceAdd, Nat.reduceSub, Nat.reduceMul, Nat.reduceMod, Nat.reduceDiv, Nat.reduceBEq, e_h1, h2', h10'', h10']
        refine J.ite (fun h11 => ?_) (fun h11 => ?_)
        · have h11' := decide_eq_true h11
          have h11'' : decide (x2 < x3.1) = false := decide_eq_false (by omega)
          refine J.some ?_
          simp (disch := first | assumption | decide | with_unfolding_all rfl | omega | (simp only [LN] <;> omega) | (simp only [RO, OF])) only [RR, RM, LN, TT, d20_at, ↓reduceIte, Nat.reduceEqDiff, Nat.reduceLT, Nat.reduceLeDiff, Nat.reduceAdd, Nat.reduceSub, Nat.reduceMul, Nat.reduceMod, Nat.reduceDiv, Nat.reduceBEq, e_h1, h2', h10'', h10', h11'', h11', FF, LN, NN, NT]
        · have h11' := decide_eq_false h11
          have h11'' : decide (x2 < x3.1) = true := decide_eq_true (by omega)
          conv => arg 1; simp (disch := first | assumption | decide | with_unfolding_all rfl | omega | (simp only [LN] <;> omega) | (simp only [RO, OF])) only [RR, RM, LN, TT, d20_at, ↓reduceIte, Nat.reduceEqDiff, Nat.reduceLT, Nat.reduceLeDiff, Nat.reduceAdd, Nat.reduceSub, Nat.reduceMul, Nat.reduceMod, Nat.reduceDiv, Nat.reduceBEq, e_h1, h2', h10'', h10', h11'', h11']
          refine J.jmp (t := ()) hj1 ?_ ?_
          · first | rfl | (simp only [LN, NN, NT])
          · first | (simp (disch := first | assumption | decide | with_unfolding_all rfl | omega | (simp only [LN] <;> omega) | (simp only [RO, OF])) only [RR, ↓reduceIte, Nat.reduceEqDiff, Nat.reduceLT, Nat.reduceLeDiff, Nat.reduceAdd, Nat.reduceSub, Nat.reduceMul, Nat.reduceMod, Nat.reduceDiv, Nat.reduceBEq, LN, NN, NT]; done) | rfl
  · have h2' := decide_eq_false h2
    refine J.some ?_
    simp (disch := first | assumption | decide | with_unfolding_all rfl | omega | (simp only [LN] <;> omega) | (simp only [RO, OF])) only [RR, RM, LN, TT, d20_at, ↓reduceIte, Nat.reduceEqDiff, Nat.reduceLT, Nat.reduceLeDiff, Nat.reduceAdd, Nat.reduceSub, Nat.reduceMul, Nat.reduceMod, Nat.reduceDiv, Nat.reduceBEq, e_h1, h2', FF, LN, NN, NT]
noncomputable def t20 (fu : Nat) : CallP := orE 16 (mkC (fun (t : List Int) => ([.arr t.length (lm (ik .i64) t)] : List AV)) (fun t => ref04_Size fu t) e16) (noP)
theorem t20_ok (fu : Nat) : CpOK Try.prog (t20 fu ) := orE_ok (noP_ok) (mkC_ok (fun t b h => ok16 fu t  b h))
theorem ok20 (fu : Nat) (x1 : List Int) (x2 : Int) (r) (h : ref04_Index fu x1 x2 = some r) : PureOK Try.prog 20 [.arr x1.length (lm (ik .i64) x1), .v (.int .i64 x2)] (e20 r) :=
  pure_J mixed (cp := t20 fu ) (t20_ok fu  ) noI_ok i20 (w20 _ fu x1 x2  (fun a0 r h => orE_hit (mkC_at (a := a0) (by intro a b h; first | (exact rfl) | (simp only [INJ] at h; first | exact h | (simp_all [Prod.ext_iff]) )) h))) h
/-! 22: lattice/latticeref04.Offset -/
def d22 : List (Nat × List Nat) := [(0, [4, 5]), (0, [0, 1, 9]), (0, [6, 10, 11, 12, 13, 14]), (0, []), (0, [15]), (0, []), (0, [17]), (0, []), (0, [7, 18, 19, 20, 21]), (0, []), (0, []), (0, []), (0, []), (0, []), (0, []), (0, []), (0, [23, 24, 25]), (0, []), (0, [27, 28]), (0, []), (16, [29, 30, 31, 32, 33, 34, 35, 36, 37, 38, 39, 40, 41, 42, 43]), (0, []), (0, []), (0, []), (12, [45, 46, 47, 48, 49, 50, 51, 52, 53, 54, 55]), (0, []), (0, [8, 56])]
def d22_at := And.intro (show d22.getD 0 (0, []) = (0, [4, 5]) from rfl) <| And.intro (show d22.getD 1 (0, []) = (0, [0, 1, 9]) from rfl) <| And.intro (show d22.getD 2 (0, []) = (0, [6, 10, 11, 12, 13, 14]) from rfl) <| And.intro (show d22.getD 3 (0, []) = (0, []) from rfl) <| And.intro (show d22.getD 4 (0, []) = (0, [15]) from rfl) <| And.intro (show d22.getD 5 (0, []) = (0, []) from rfl) <| And.intro (show d22.getD 6 (0, []) = (0, [17]) from rfl) <| And.intro (show d22.getD 7 (0, []) = (0, []) from rfl) <| And.intro (show d22.getD 8 (0, []) = (0, [7, 18, 19, 20, 21]) from rfl) <| And.intro (show d22.getD 9 (0, []) = (0, []) from rfl) <| And.intro (show d22.getD 10 (0, []) = (0, []) from rfl) <| And.intro (show d22.getD 11 (0, []) = (0, []) from rfl) <| And.intro (show d22.getD 12 (0, []) = (0, []) from rfl) <| And.intro (show d22.getD 13 (0, []) = (0, []) from rfl) <| And.intro (show d22.getD 14 (0, []) = (0, []) from rfl) <| And.intro (show d22.getD 15 (0, []) = (0, []) from rfl) <| And.intro (show d22.getD 16 (0, []) = (0, [23, 24, 25]) from rfl) <| And.intro (show d22.getD 17 (0, []) = (0, []) from rfl) <| And.intro (show d22.getD 18 (0, []) = (0, [27, 28]) from rfl) <| And.intro (show d22.getD 19 (0, []) = (0, []) from rfl) <| And.intro (show d22.getD 20 (0, []) = (16, [29, 30, 31, 32, 33, 34, 35, 36, 37, 38, 39, 40, 41, 42, 43]) from rfl) <| And.intro (show d22.getD 21 (0, []) = (0, []) from rfl) <| And.intro (show d22.getD 22 (0, []) = (0, []) from rfl) <| And.intro (show d22.getD 23 (0, []) = (0, []) from rfl) <| And.intro (show d22.getD 24 (0, []) = (12, [45, 46, 47, 48, 49, 50, 51, 52, 53, 54, 55]) from rfl) <| And.intro (show d22.getD 25 (0, []) = (0, []) from rfl) <| (show d22.getD 26 (0, []) = (0, [8, 56]) from rfl)
theorem i22 : finfo Try.prog 22 d22 = some ⟨bodyOf Try.f22, [.tmp 4, .tmp 5], [3, 25]⟩ := finfo_at Try.func22 rfl (by kernel_rfl) (by kernel_rfl)
def e22 : (Int × Int) → AV := fun r => .tuple [.v (.int .i64 r.1), .v (.int .i64 r.2)]
set_option maxHeartbeats 1000000 in
theorem w22 (cp : CallP) (fu : Nat) (x1 : List Int) (x2 : List Int) (H16_0 : ∀ (a0 : List Int) r, ref04_Size fu a0 = some r → cp 16 [.arr a0.length (lm (ik .i64) a0)] = some (.tuple [.v (.int .i64 r.1), .v (.int .i64 r.2)])) : J (go Try.prog noC cp noI 0 [] d22 fu (fin Try.prog [.tmp 4, .tmp 5] [3, 25]) (bodyOf Try.f22) (initE 0 [.arr x1.length (lm (ik .i64) x1), .arr x2.length (lm (ik .i64) x2)]) [] []) (ref04_Offset fu x1 x2) e22 := by
  unfold ref04_Offset e22
  refine J.bind fun x3 h1 => ?_
  have e_h1 := H16_0 _ _ h1
  try simp only [NN, NT, LN] at e_h1
  conv => arg 1; simp (disch := first | assumption | decide | with_unfolding_all rfl | omega | (simp only [LN] <;> omega) | (simp only [RO, OF])) only [bodyOf, Try.f22, RR, RM, LN, TT, d22_at, ↓reduceIte, Nat.reduceEqDiff, Nat.reduceLT, Nat.reduceLeDiff, Nat.reduceAdd, Nat.reduceSub, Nat.reduceMul, Nat.reduceMod, Nat.reduceDiv, Nat.reduceBEq, e_h1]
  refine J.eq go_seq ?_
  conv => arg 1; simp (disch := first | assumption | decide | with_unfolding_all rfl | omega | (simp only [LN] <;> omega) | (simp only [RO, OF])) only [RR, RM, LN, TT, d22_at, ↓reduceIte, Nat.reduceEqDiff, Nat.reduceLT, Nat.reduceLeDiff, Nat.reduceAdd, Nat.reduceSub, Nat.reduceMul, Nat.reduceMod, Nat.reduceDiv, Nat.reduceBEq, e_h1]
  refine J.ite (fun h2 => ?_) (fun h2 => ?_)
  · have h2' := decide_eq_true h2
    conv => arg 1; simp (disch := first | assumption | decide | with_unfolding_all rfl | omega | (simp only [LN] <;> omega) | (simp only [RO, OF])) only [RR, RM, LN, TT, d22_at, ↓reduceIte, Nat.reduceEqDiff, Nat.reduceLT, Nat.reduceLeDiff, Nat.reduceAdd, Nat.reduceSub, Nat.reduceMul, Nat.reduceMod, Nat.reduceDiv, Nat.reduceBEq, e_h1, h2']
    refine J.eq ret_seq ?_
    refine J.eq go_seq ?_
    conv => arg 1; simp (disch := first | assumption | decide | with_unfolding_all rfl | omega | (simp only [LN] <;> omega) | (simp only [RO, OF])) only [RR, RM, LN, TT, d22_at, ↓reduceIte, Nat.reduceEqDiff, Nat.reduceLT, Nat.reduceLeDiff, Nat.reduceAdd, Nat.reduceSub, Nat.reduceMul, Nat.reduceMod, Nat.reduceDiv, Nat.reduceBEq, e_h1, h2']
    refine J.ite (fun h3 => ?_) (fun h3 => ?_)
    · have h3' := decide_eq_true h3
      conv => arg 1; simp (disch := first | assumption | decide | with_unfolding_all rfl | omega | (simp only [LN] <;> omega) | (simp only [RO, OF])) only [RR, RM, LN, TT, d22_at, ↓reduceIte, Nat.reduceEqDiff, Nat.reduceLT, Nat.reduceLeDiff, Nat.reduceAdd, Nat.reduceSub, Nat.reduceMul, Nat.reduceMod, Nat.reduceDiv, Nat.reduceBEq, e_h1, h2', h3']
      refine J.eq ret_seq ?_
      conv => arg 1; simp (disch := first | assumption | decide | with_unfolding_all rfl | omega | (simp only [LN] <;> omega) | (simp only [RO, OF])) only [RR, RM, LN, TT, d22_at, ↓reduceIte, Nat.reduceEqDiff, Nat.reduceLT, Nat.reduceLeDiff, Nat.reduceAdd, Nat.reduceSub, Nat.reduceMul, Nat.reduceMod, Nat.reduceDiv, Nat.reduceBEq, e_h1, h2', h3']
      refine J.eq go_seq ?_
      conv => arg 1; simp (disch := first | assumption | decide | with_unfolding_all rfl | omega | (simp only [LN] <;> omega) | (simp only [RO, OF])) only [RR, RM, LN, TT, d22_at, ↓reduceIte, Nat.reduceEqDiff, Nat.reduceLT, Nat.reduceLeDiff, Nat.reduceAdd, Nat.reduceSub, Nat.reduceMul, Nat.reduceMod, Nat.reduceDiv, Nat.reduceBEq, e_h1, h2', h3']
      unfold ref04_Offset_W1
      refine J.loop (fun (s : Int × Int) => ([(0, .arr x1.length (lm (ik .i64) x1)), (1, .arr x2.length (lm (ik .i64) x2)), (8, .v (.int .i64 s.1)), (9, .v (.int .i64 s.2))], [])) (fun next s => ref04_Offset_L1 fu x1 x2 (fun x8 x9 => next (x8, x9)) s.1 s.2) (s0 := (0, 0)) ?_ ?_ ?_
      · first | rfl | (simp only [LN, NN, NT])
      · first | (simp (disch := first | assumption | decide | with_unfolding_all rfl | omega | (simp only [LN] <;> omega) | (simp only [RO, OF])) only [RR, ↓reduceIte, Nat.reduceEqDiff, Nat.reduceLT, Nat.reduceLeDiff, Nat.reduceAdd, Nat.reduceSub, Nat.reduceMul, Nat.reduceMod, Nat.reduceDiv, Nat.reduceBEq, LN, NN, NT]; done) | rfl
      rintro next k1 hn1 ⟨x8, x9⟩
      let nx1 : Int → Int → Option (Int × Int) := (fun x8 x9 => next (x8, x9))
      show J _ (ref04_Offset_L1 fu x1 x2 nx1 x8 x9) _
      unfold ref04_Offset_L1
      refine J.eq go_seq ?_
      conv => arg 1; simp (disch := first | assumption | decide | with_unfolding_all rfl | omega | (simp only [LN] <;> omega) | (simp only [RO, OF])) only [RR, RM, LN, TT, d22_at, ↓reduceIte, Nat.reduceEqDiff, Nat.reduceLT, Nat.reduceLeDiff, Nat.reduceAdd, Nat.reduceSub, Nat.reduceMul, Nat.reduceMod, Nat.reduceDiv, Nat.reduceBEq, e_h1, h2', h3']
      refine J.ite (fun h4 => ?_) (fun h4 => ?_)
      · have h4' := decide_eq_true h4
        have h4'' : decide ((x1.length : Int) ≤ x9) = false := decide_eq_false (by omega)
        conv => arg 1; simp (disch := first | assumption | decide | with_unfolding_all rfl | omega | (simp only [LN] <;> omega) | (simp only [RO, OF])) only [RR, RM, LN, TT, d22_at, ↓reduceIte, Nat.reduceEqDiff, Nat.reduceLT, Nat.reduceLeDiff, Nat.reduceAdd, Nat.reduceSub, Nat.reduceMul, Nat.reduceMod, Nat.reduceDiv, Nat.reduceBEq, e_h1, h2', h3', h4'', h4']
        refine J.eq ret_seq ?_
        refine J.eq go_seq ?_
        conv => arg 1; simp (disch := first | assumption | decide | with_unfolding_all rfl | omega | (simp only [LN] <;> omega) | (simp only [RO, OF])) only [RR, RM, LN, TT, d22_at, ↓reduceIte, Nat.reduceEqDiff, Nat.reduceLT, Nat.reduceLeDiff, Nat.reduceAdd, Nat.reduceSub, Nat.reduceMul, Nat.reduceMod, Nat.reduceDiv, Nat.reduceBEq, e_h1, h2', h3', h4'', h4']
        refine J.joinS (fun (t : Unit) => ([(0, .arr x1.length (lm (ik .i64) x1)), (1, .arr x2.length (lm (ik .i64) x2)), (8, .v (.int .i64 x8)), (9, .v (.int .i64 x9))], [])) (fun t => ref04_Offset_k1 fu nx1 x1 x2 x8 x9) ?_ (fun hj1 => ?_)
        · rintro ⟨⟩
          show J _ (ref04_Offset_k1 fu nx1 x1 x2 x8 x9) _
          unfold ref04_Offset_k1
          refine J.at fun x14 h5 h6 h7 => ?_
          refine J.at fun x15 h8 h9 h10 => ?_
          conv => arg 1; simp (disch := first | assumption | decide | with_unfolding_all rfl | omega | (simp only [LN] <;> omega) | (simp only [RO, OF])) only [RR, RM, LN, TT, d22_at, ↓reduceIte, Nat.reduceEqDiff, Nat.reduceLT, Nat.reduceLeDiff, Nat.reduceAdd, Nat.reduceSub, Nat.reduceMul, Nat.reduceMod, Nat.reduceDiv, Nat.reduceBEq, e_h1, h2', h3', h4'', h4', lm_ik h7, lm_ik h10]
          refine J.eq ret_seq ?_
          conv => arg 1; simp (disch := first | assumption | decide | with_unfolding_all rfl | omega | (simp only [LN] <;> omega) | (simp only [RO, OF])) only [RR, RM, LN, TT, d22_at, ↓reduceIte, Nat.reduceEqDiff, Nat.reduceLT, Nat.reduceLeDiff, Nat.reduceAdd, Nat.reduceSub, Nat.reduceMul, Nat.reduceMod, Nat.reduceDiv, Nat.reduceBEq, e_h1, h2', h3', h4'', h4', lm_ik h7, lm_ik h10]
          refine J.next (s := (wk .i64 ((wk .i64 (x8 * x14)) + x15), wk .i64 (x9 + 1))) hn1 ?_ ?_
          · first | rfl | (simp only [LN, NN, NT])
          · first | (simp (disch := first | assumption | decide | with_unfolding_all rfl | omega | (simp only [LN] <;> omega) | (simp only [RO, OF])) only [RR, ↓reduceIte, Nat.reduceEqDiff, Nat.reduceLT, Nat.reduceLeDiff, Nat.reduceAdd, Nat.reduceSub, Nat.reduceMul, Nat.reduceMod, Nat.reduceDiv, Nat.reduceBEq, LN, NN, NT]; done) | rfl
        · refine J.eq go_seq ?_
          refine J.at fun x16 h11 h12 h13 => ?_
          conv => arg 1; simp (disch := first | assumption | decide | with_unfolding_all rfl | omega | (simp only [LN] <;> omega) | (simp only [RO, OF])) only [RR, RM, LN, TT, d22_at, ↓reduceIte, Nat.reduceEqDiff, Nat.reduceLT, Nat.reduceLeDiff, Nat.reduceAdd, Nat.reduceSub, Nat.reduceMul, Nat.reduceMod, Nat.reduceDiv, Nat.reduceBEq, e_h1, h2', h3', h4'', h4', lm_ik h13]
          refine J.ite (fun h14 => ?_) (fun h14 => ?_)
          · have h14' := decide_eq_true h14
            have h14'' : decide (0 ≤ x16) = false := decide_eq_false (by omega)
            conv => arg 1; simp (disch := first | assumption | decide | with_unfolding_all rfl | omega | (simp only [LN] <;> omega) | (simp only [RO, OF])) only [RR, RM, LN, TT, d22_at, ↓reduceIte, Nat.reduceEqDiff, Nat.reduceLT, Nat.reduceLeDiff, Nat.reduceAdd, Nat.reduceSub, Nat.reduceMul, Nat.reduceMod, Nat.reduceDiv, Nat.reduceBEq, e_h1, h2', h3', h4'', h4', lm_ik h13, h14'', h14']
            refine J.eq ret_seq ?_
            refine J.some ?_
            simp (disch := first | assumption | decide | with_unfolding_all rfl | omega | (simp only [LN] <;> omega) | (simp only [RO, OF])) only [RR, RM, LN, TT, d22_at, ↓reduceIte, Nat.reduceEqDiff, Nat.reduceLT, Nat.reduceLeDiff, Nat.reduceAdd, Nat.reduceSub, Nat.reduceMul, Nat.reduceMod, Nat.reduceDiv, Nat.reduceBEq, e_h1, h2', h3', h4'', h4', lm_ik h13, h14'', h14', FF, LN, NN, NT]
          · have h14' := decide_eq_false h14
            have h14'' : decide (0 ≤ x16) = true := decide_eq_true (by omega)
            refine J.at fun x17 h15 h16 h17 => ?_
            conv => arg 1; simp (disch := first | assumption | decide | with_unfolding_all rfl | omega | (simp only [LN] <;> omega) | (simp only [RO, OF])) only [RR, RM, LN, TT, d22_at, ↓reduceIte, Nat.reduceEqDiff, Nat.reduceLT, Nat.reduceLeDiff, Nat.reduceAdd, Nat.reduceSub, Nat.reduceMul, Nat.reduceMod, Nat.reduceDiv, Nat.reduceBEq, e_h1, h2', h3', h4'', h4', lm_ik h13, h14'', h14', lm_ik h17]
            refine J.eq ret_seq ?_
            conv => arg 1; simp (disch := first | assumption | decide | with_unfolding_all rfl | omega | (simp only [LN] <;> omega) | (simp only [RO, OF])) only [RR, RM, LN, TT, d22_at, ↓reduceIte, Nat.reduceEqDiff, Nat.reduceLT, Nat.reduceLeDiff, Nat.reduceAdd, Nat.reduceSub, Nat.reduceMul, Nat.reduceMod, Nat.reduceDiv, Nat.reduceBEq, e_h1, h2', h3', h4'', h4', lm_ik h13, h14'', h14', lm_ik h17]
            refine J.ite (fun h18 => ?_) (fun h18 => ?_)
            · have h18' := decide_eq_true h18
              have h18'' : decide (x16 < x17) = false := decide_eq_false (by omega)
              refine J.some ?_
              simp (disch := first | assumption | decide | with_unfolding_all rfl | omega | (simp only [LN] <;> omega) | (simp only [RO, OF])) only [RR, RM, LN, TT, d22_at, ↓reduceIte, Nat.reduceEqDiff, Nat.reduceLT, Nat.reduceLeDiff, Nat.reduceAdd, Nat.reduceSub, Nat.reduceMul, Nat.reduceMod, Nat.reduceDiv, Nat.reduceBEq, e_h1, h2', h3', h4'', h4', lm_ik h13, h14'', h14', lm_ik h17, h18'', h18', FF, LN, NN, NT]
            · have h18' := decide_eq_false h18
              have h18'' : decide (x16 < x17) = true := decide_eq_true (by omega)
              conv => arg 1; simp (disch := first | assumption | decide | with_unfolding_all rfl | omega | (simp only [LN] <;> omega) | (simp only [RO, OF])) only [RR, RM, LN, TT, d22_at, ↓reduceIte, Nat.reduceEqDiff, Nat.reduceLT, Nat.reduceLeDiff, Nat.reduceAdd, Nat.reduceSub, Nat.reduceMul, Nat.reduceMod, Nat.reduceDiv, Nat.reduceBEq, e_h1, h2', h3', h4'', h4', lm_ik h13, h14'', h14', lm_ik h17, h18'', h18']
              refine J.jmp (t := ()) hj1 ?_ ?_
              · first | rfl | (simp only [LN, NN, NT])
              · first | (simp (disch := first | assumption | decide | with_unfolding_all rfl | omega | (simp only [LN] <;> omega) | (simp only [RO, OF])) only [RR, ↓reduceIte, Nat.reduceEqDiff, Nat.reduceLT, Nat.reduceLeDiff, Nat.reduceAdd, Nat.reduceSub, Nat.reduceMul, Nat.reduceMod, Nat.reduceDiv, Nat.reduceBEq, LN, NN, NT]; done) | rfl
      · have h4' := decide_eq_false h4
        have h4'' : decide ((x1.length : Int) ≤ x9) = true := decide_eq_true (by omega)
        conv => arg 1; simp (disch := first | assumption | decide | with_unfolding_all rfl | omega | (simp only [LN] <;> omega) | (simp only [RO, OF])) only [RR, RM, LN, TT, d22_at, ↓reduceIte, Nat.reduceEqDiff, Nat.reduceLT, Nat.reduceLeDiff, Nat.reduceAdd, Nat.reduceSub, Nat.reduceMul, Nat.reduceMod, Nat.reduceDiv, Nat.reduceBEq, e_h1, h2', h3', h4'', h4']
        refine J.eq ret_seq ?_
        refine J.some ?_
        simp (disch := first | assumption | decide | with_unfolding_all rfl | omega | (simp only [LN] <;> omega) | (simp only [RO, OF])) only [RR, RM, LN, TT, d22_at, ↓reduceIte, Nat.reduceEqDiff, Nat.reduceLT, Nat.reduceLeDiff, Nat.reduceAdd, Nat.reduceSub, Nat.reduceMul, Nat.reduceMod, Nat.reduceDiv, Nat.reduceBEq, e_h1, h2', h3', h4'', h4', FF, LN, NN, NT]
    · have h3' := decide_eq_false h3
      refine J.some ?_
      simp (disch := first | assumption | decide | with_unfolding_all rfl | omega | (simp only [LN] <;> omega) | (simp only [RO, OF])) only [RR, RM, LN, TT, d22_at, ↓reduceIte, Nat.reduceEqDiff, Nat.reduceLT, Nat.reduceLeDiff, Nat.reduceAdd, Nat.reduceSub, Nat.reduceMul, Nat.reduceMod, Nat.reduceDiv, Nat.reduceBEq, e_h1, h2', h3', FF, LN, NN, NT]
  · have h2' := decide_eq_false h2
    refine J.some ?_
    simp (disch := first | assumption | decide | with_unfolding_all rfl | omega | (simp only [LN] <;> omega) | (simp only [RO, OF])) only [RR, RM, LN, TT, d22_at, ↓reduceIte, Nat.reduceEqDiff, Nat.reduceLT, Nat.reduceLeDiff, Nat.reduceAdd, Nat.reduceSub, Nat.reduceMul, Nat.reduceMod, Nat.reduceDiv, Nat.reduceBEq, e_h1, h2', FF, LN, NN, NT]
noncomputable def t22 (fu : Nat) : CallP := orE 16 (mkC (fun (t : List Int) => ([.arr t.length (lm (ik .i64) t)] : List AV)) (fun t => ref04_Size fu t) e16) (noP)
theorem t22_ok (fu : Nat) : CpOK Try.prog (t22 fu ) := orE_ok (noP_ok) (mkC_ok (fun t b h => ok16 fu t  b h))
theorem ok22 (fu : Nat) (x1 : List Int) (x2 : List Int) (r) (h : ref04_Offset fu x1 x2 = some r) : PureOK Try.prog 22 [.arr x1.length (lm (ik .i64) x1), .arr x2.length (lm (ik .i64) x2)] (e22 r) :=
  pure_J mixed (cp := t22 fu ) (t22_ok fu  ) noI_ok i22 (w22 _ fu x1 x2  (fun a0 r h => orE_hit (mkC_at (a := a0) (by intro a b h; first | (exact rfl) | (simp only [INJ] at h; first | exact h | (simp_all [Prod.ext_iff]) )) h))) h
/-! 14: lattice/latticelaw04.lent -/
def d14 : List (Nat × List Nat) := [(0, [2]), (0, []), (0, [4, 5, 6]), (0, []), (0, [7, 8, 9]), (0, []), (0, [0, 3, 10, 11, 12, 13])]
def d14_at := And.intro (show d14.getD 0 (0, []) = (0, [2]) from rfl) <| And.intro (show d14.getD 1 (0, []) = (0, []) from rfl) <| And.intro (show d14.getD 2 (0, []) = (0, [4, 5, 6]) from rfl) <| And.intro (show d14.getD 3 (0, []) = (0, []) from rfl) <| And.intro (show d14.getD 4 (0, []) = (0, [7, 8, 9]) from rfl) <| And.intro (show d14.getD 5 (0, []) = (0, []) from rfl) <| (show d14.getD 6 (0, []) = (0, [0, 3, 10, 11, 12, 13]) from rfl)
noncomputable def b14 : Code := bodyOf Try.f14
theorem go_b14 {C : Cfg} {cp : CallP} {ci : CallI} {lvl : Nat} {prot : List Id} {D : List (Nat × List Nat)} {n : Nat} {K : KK} {e : Env} {h : Heap} {fs : List Fr} : go Try.prog C cp ci lvl prot D n K b14 e h fs = go Try.prog C cp ci lvl prot D n K (bodyOf Try.f14) e h fs := rfl
theorem i14 : finfo Try.prog 14 d14 = some ⟨b14, [.tmp 2], [22]⟩ := finfo_at Try.func14 rfl (by kernel_rfl) (by kernel_rfl)
/-! 24: lattice/latticelaw04.whole -/
def d24 : List (Nat × List Nat) := [(0, [4]), (0, []), (0, [6, 7, 8, 9, 10]), (0, []), (0, [0, 1, 5, 11, 12, 13, 14, 15, 16, 17, 18, 19, 20, 21, 22, 23, 24, 25, 26, 27, 28, 29, 30])]
def d24_at := And.intro (show d24.getD 0 (0, []) = (0, [4]) from rfl) <| And.intro (show d24.getD 1 (0, []) = (0, []) from rfl) <| And.intro (show d24.getD 2 (0, []) = (0, [6, 7, 8, 9, 10]) from rfl) <| And.intro (show d24.getD 3 (0, []) = (0, []) from rfl) <| (show d24.getD 4 (0, []) = (0, [0, 1, 5, 11, 12, 13, 14, 15, 16, 17, 18, 19, 20, 21, 22, 23, 24, 25, 26, 27, 28, 29, 30]) from rfl)
noncomputable def b24 : Code := bodyOf Try.f24
theorem go_b24 {C : Cfg} {cp : CallP} {ci : CallI} {lvl : Nat} {prot : List Id} {D : List (Nat × List Nat)} {n : Nat} {K : KK} {e : Env} {h : Heap} {fs : List Fr} : go Try.prog C cp ci lvl prot D n K b24 e h fs = go Try.prog C cp ci lvl prot D n K (bodyOf Try.f24) e h fs := rfl
theorem i24 : finfo Try.prog 24 d24 = some ⟨b24, [.tmp 4], [4]⟩ := finfo_at Try.func24 rfl (by kernel_rfl) (by kernel_rfl)
/-! 3: lattice/latticelaw04.ShapePlaces -/
def d3 : List (Nat × List Nat) := [(0, [6]), (0, []), (0, [26]), (0, []), (0, [27, 28]), (0, []), (0, [29, 30]), (0, []), (0, [31, 32, 33, 34, 35]), (0, []), (0, [36, 37, 38, 39, 40]), (0, []), (0, [41, 42, 43, 44, 45]), (0, []), (0, [46, 47, 48, 49, 50]), (0, []), (0, [51, 52, 53, 54, 55, 56]), (0, []), (0, [1, 57, 58, 59, 60, 61, 62]), (0, []), (0, [63, 64, 65, 66, 67, 68]), (0, []), (0, [69, 70, 71, 72, 73, 74]), (0, []), (0, [0, 2, 7, 8, 9, 10, 11, 12, 13, 14, 15, 16, 17, 18, 19, 20, 21, 22, 23, 24, 25, 75, 76, 77, 78, 79, 80, 81, 82, 83, 84, 85, 86, 87, 88, 89, 90, 91, 92, 93, 94, 95, 96, 97, 98, 99, 100, 101, 102, 103, 104, 105, 106, 107, 108, 109, 110, 111, 112, 113, 114, 115, 116, 117, 118, 119, 120, 121, 122, 123, 124, 125])]
def d3_at := And.intro (show d3.getD 0 (0, []) = (0, [6]) from rfl) <| And.intro (show d3.getD 1 (0, []) = (0, []) from rfl) <| And.intro (show d3.getD 2 (0, []) = (0, [26]) from rfl) <| And.intro (show d3.getD 3 (0, []) = (0, []) from rfl) <| And.intro (show d3.getD 4 (0, []) = (0, [27, 28]) from rfl) <| And.intro (show d3.getD 5 (0, []) = (0, []) from rfl) <| And.intro (show d3.getD 6 (0, []) = (0, [29, 30]) from rfl) <| And.intro (show d3.getD 7 (0, []) = (0, []) from rfl) <| And.intro (show d3.getD 8 (0, []) = (0, [31, 32, 33, 34, 35]) from rfl) <| And.intro (show d3.getD 9 (0, []) = (0, []) from rfl) <| And.intro (show d3.getD 10 (0, []) = (0, [36, 37, 38, 39, 40]) from rfl) <| And.intro (show d3.getD 11 (0, []) = (0, []) from rfl) <| And.intro (show d3.getD 12 (0, []) = (0, [41, 42, 43, 44, 45]) from rfl) <| And.intro (show d3.getD 13 (0, []) = (0, []) from rfl) <| And.intro (show d3.getD 14 (0, []) = (0, [46, 47, 48, 49, 50]) from rfl) <| And.intro (show d3.getD 15 (0, []) = (0, []) from rfl) <| And.intro (show d3.getD 16 (0, []) = (0, [51, 52, 53, 54, 55, 56]) from rfl) <| And.intro (show d3.getD 17 (0, []) = (0, []) from rfl) <| And.intro (show d3.getD 18 (0, []) = (0, [1, 57, 58, 59, 60, 61, 62]) from rfl) <| And.intro (show d3.getD 19 (0, []) = (0, []) from rfl) <| And.intro (show d3.getD 20 (0, []) = (0, [63, 64, 65, 66, 67, 68]) from rfl) <| And.intro (show d3.getD 21 (0, []) = (0, []) from rfl) <| And.intro (show d3.getD 22 (0, []) = (0, [69, 70, 71, 72, 73, 74]) from rfl) <| And.intro (show d3.getD 23 (0, []) = (0, []) from rfl) <| (show d3.getD 24 (0, []) = (0, [0, 2, 7, 8, 9, 10, 11, 12, 13, 14, 15, 16, 17, 18, 19, 20, 21, 22, 23, 24, 25, 75, 76, 77, 78, 79, 80, 81, 82, 83, 84, 85, 86, 87, 88, 89, 90, 91, 92, 93, 94, 95, 96, 97, 98, 99, 100, 101, 102, 103, 104, 105, 106, 107, 108, 109, 110, 111, 112, 113, 114, 115, 116, 117, 118, 119, 120, 121, 122, 123, 124, 125]) from rfl)
theorem i3 : finfo Try.prog 3 d3 = some ⟨bodyOf Try.f3, [.tmp 6], [4]⟩ := finfo_at Try.func3 rfl (by kernel_rfl) (by kernel_rfl)
def e3 : Bool → AV := fun r => .v (.bool r)
set_option maxHeartbeats 1000000 in
theorem w3 (cp : CallP) (fu : Nat) (x1 : List Int) (x2 : Int) (x3 : List Int) (H13 : cp 13 [] = some (.v (.bool true))) (H15_0 : ∀ (a0 : List Int) r, shape_Size fu a0 = some r → cp 15 [.arr a0.length (lm (ik .i64) a0)] = some (.tuple [.v (.int .i64 r.1), .v (.int .i64 r.2)])) (H16_0 : ∀ (a0 : List Int) r, ref04_Size fu a0 = some r → cp 16 [.arr a0.length (lm (ik .i64) a0)] = some (.tuple [.v (.int .i64 r.1), .v (.int .i64 r.2)])) (H17_0 : ∀ (a0 : List Int) r, shape_Strides fu a0 = some r → cp 17 [.arr a0.length (lm (ik .i64) a0)] = some (.tuple [.fresh 1 r.1.length (lm (ik .i64) r.1), .v (.int .i64 r.2)])) (H18_0 : ∀ (a0 : List Int) r, ref04_Strides fu a0 = some r → cp 18 [.arr a0.length (lm (ik .i64) a0)] = some (.tuple [.fresh 1 r.1.length (lm (ik .i64) r.1), .v (.int .i64 r.2)])) (H19_0 : ∀ (a0 : List Int) (a1 : Int) r, shape_Index fu a0 a1 = some r → cp 19 [.arr a0.length (lm (ik .i64) a0), .v (.int .i64 a1)] = some (.tuple [.fresh 1 r.1.length (lm (ik .i64) r.1), .v (.int .i64 r.2)])) (H20_0 : ∀ (a0 : List Int) (a1 : Int) r, ref04_Index fu a0 a1 = some r → cp 20 [.arr a0.length (lm (ik .i64) a0), .v (.int .i64 a1)] = some (.tuple [.fresh 1 r.1.length (lm (ik .i64) r.1), .v (.int .i64 r.2)])) (H21_0 : ∀ (a0 : List Int) (a1 : List Int) r, shape_Offset fu a0 a1 = some r → cp 21 [.arr a0.length (lm (ik .i64) a0), .arr a1.length (lm (ik .i64) a1)] = some (.tuple [.v (.int .i64 r.1), .v (.int .i64 r.2)])) (H22_0 : ∀ (a0 : List Int) (a1 : List Int) r, ref04_Offset fu a0 a1 = some r → cp 22 [.arr a0.length (lm (ik .i64) a0), .arr a1.length (lm (ik .i64) a1)] = some (.tuple [.v (.int .i64 r.1), .v (.int .i64 r.2)])) (H23_0 : ∀ (a0 : List Int) (a1 : List Int) r, ref04_SameInts fu a0 a1 = some r → cp 23 [.arr a0.length (lm (ik .i64) a0), .arr a1.length (lm (ik .i64) a1)] = some (.v (.bool r))) : J (go Try.prog (inlC [14, 24]) cp (ciE Try.prog (inlC [14, 24]) cp fu 14 d14 ⟨b14, [.tmp 2], [22]⟩ (ciE Try.prog (inlC [14, 24]) cp fu 24 d24 ⟨b24, [.tmp 4], [4]⟩ noI)) 0 [] d3 fu (fin Try.prog [.tmp 6] [4]) (bodyOf Try.f3) (initE 0 [.arr x1.length (lm (ik .i64) x1), .v (.int .i64 x2), .arr x3.length (lm (ik .i64) x3)]) [] []) (law04_ShapePlaces fu x1 x2 x3) e3 := by
  unfold law04_ShapePlaces e3
  refine J.chk fun h1 => ?_
  refine J.chk fun h2 => ?_
  refine J.chk fun h3 => ?_
  refine J.chk fun h4 => ?_
  refine J.chk fun h5 => ?_
  refine J.chk fun h6 => ?_
  refine J.bind fun x4 h7 => ?_
  have e_h7 := H15_0 _ _ h7
  try simp only [NN, NT, LN] at e_h7
  refine J.bind fun x5 h8 => ?_
  have e_h8 := H16_0 _ _ h8
  try simp only [NN, NT, LN] at e_h8
  refine J.bind fun x6 h9 => ?_
  have e_h9 := H17_0 _ _ h9
  try simp only [NN, NT, LN] at e_h9
  refine J.bind fun x7 h10 => ?_
  have e_h10 := H18_0 _ _ h10
  try simp only [NN, NT, LN] at e_h10
  refine J.bind fun x8 h11 => ?_
  have e_h11 := H19_0 _ _ _ h11
  try simp only [NN, NT, LN] at e_h11
  refine J.bind fun x9 h12 => ?_
  have e_h12 := H20_0 _ _ _ h12
  try simp only [NN, NT, LN] at e_h12
  refine J.bind fun x10 h13 => ?_
  have e_h13 := H21_0 _ _ _ h13
  try simp only [NN, NT, LN] at e_h13
  refine J.bind fun x11 h14 => ?_
  have e_h14 := H22_0 _ _ _ h14
  try simp only [NN, NT, LN] at e_h14
  conv => arg 1; simp (disch := first | assumption | decide | with_unfolding_all rfl | omega | (simp only [LN] <;> omega) | (simp only [RO, OF])) only [bodyOf, Try.f3, RR, RM, LN, TT, d3_at, ↓reduceIte, Nat.reduceEqDiff, Nat.reduceLT, Nat.reduceLeDiff, Nat.reduceAdd, Nat.reduceSub, Nat.reduceMul, Nat.reduceMod, Nat.reduceDiv, Nat.reduceBEq, go_b14, bodyOf, Try.f14, d14_at, RI, initE, H13, e_h7, e_h8, e_h9, e_h10, e_h11, e_h12, e_h13, e_h14]
  refine J.eq go_seq ?_
  conv => arg 1; simp (disch := first | assumption | decide | with_unfolding_all rfl | omega | (simp only [LN] <;> omega) | (simp only [RO, OF])) only [RR, RM, LN, TT, d3_at, ↓reduceIte, Nat.reduceEqDiff, Nat.reduceLT, Nat.reduceLeDiff, Nat.reduceAdd, Nat.reduceSub, Nat.reduceMul, Nat.reduceMod, Nat.reduceDiv, Nat.reduceBEq, go_b14, bodyOf, Try.f14, d14_at, RI, initE, H13, e_h7, e_h8, e_h9, e_h10, e_h11, e_h12, e_h13, e_h14]
  refine J.ite (fun h15 => ?_) (fun h15 => ?_)
  · have h15' := decide_eq_true h15
    conv => arg 1; simp (disch := first | assumption | decide | with_unfolding_all rfl | omega | (simp only [LN] <;> omega) | (simp only [RO, OF])) only [RR, RM, LN, TT, d3_at, ↓reduceIte, Nat.reduceEqDiff, Nat.reduceLT, Nat.reduceLeDiff, Nat.reduceAdd, Nat.reduceSub, Nat.reduceMul, Nat.reduceMod, Nat.reduceDiv, Nat.reduceBEq, go_b14, bodyOf, Try.f14, d14_at, RI, initE, H13, e_h7, e_h8, e_h9, e_h10, e_h11, e_h12, e_h13, e_h14, h15']
    refine J.ite (fun h16 => ?_) (fun h16 => ?_)
    · have h16' := decide_eq_true h16
      refine J.bind fun x12 h17 => ?_
      have e_h17 := H23_0 _ _ _ h17
      try simp only [NN, NT, LN] at e_h17
      conv => arg 1; simp (disch := first | assumption | decide | with_unfolding_all rfl | omega | (simp only [LN] <;> omega) | (simp only [RO, OF])) only [RR, RM, LN, TT, d3_at, ↓reduceIte, Nat.reduceEqDiff, Nat.reduceLT, Nat.reduceLeDiff, Nat.reduceAdd, Nat.reduceSub, Nat.reduceMul, Nat.reduceMod, Nat.reduceDiv, Nat.reduceBEq, go_b14, bodyOf, Try.f14, d14_at, RI, initE, H13, e_h7, e_h8, e_h9, e_h10, e_h11, e_h12, e_h13, e_h14, h15', h16', e_h17]
      refine J.ite (fun h18 => ?_) (fun h18 => ?_)
      · have h18' : x12 = true := h18
        conv => arg 1; simp (disch := first | assumption | decide | with_unfolding_all rfl | omega | (simp only [LN] <;> omega) | (simp only [RO, OF])) only [RR, RM, LN, TT, d3_at, ↓reduceIte, Nat.reduceEqDiff, Nat.reduceLT, Nat.reduceLeDiff, Nat.reduceAdd, Nat.reduceSub, Nat.reduceMul, Nat.reduceMod, Nat.reduceDiv, Nat.reduceBEq, go_b14, bodyOf, Try.f14, d14_at, RI, initE, H13, e_h7, e_h8, e_h9, e_h10, e_h11, e_h12, e_h13, e_h14, h15', h16', e_h17, h18']
        refine J.ite (fun h19 => ?_) (fun h19 => ?_)
        · have h19' := decide_eq_true h19
          refine J.bind fun x13 h20 => ?_
          have e_h20 := H23_0 _ _ _ h20
          try simp only [NN, NT, LN] at e_h20
          conv => arg 1; simp (disch := first | assumption | decide | with_unfolding_all rfl | omega | (simp only [LN] <;> omega) | (simp only [RO, OF])) only [RR, RM, LN, TT, d3_at, ↓reduceIte, Nat.reduceEqDiff, Nat.reduceLT, Nat.reduceLeDiff, Nat.reduceAdd, Nat.reduceSub, Nat.reduceMul, Nat.reduceMod, Nat.reduceDiv, Nat.reduceBEq, go_b14, bodyOf, Try.f14, d14_at, RI, initE, H13, e_h7, e_h8, e_h9, e_h10, e_h11, e_h12, e_h13, e_h14, h15', h16', e_h17, h18', h19', e_h20]
          refine J.ite (fun h21 => ?_) (fun h21 => ?_)
          · have h21' : x13 = true := h21
            conv => arg 1; simp (disch := first | assumption | decide | with_unfolding_all rfl | omega | (simp only [LN] <;> omega) | (simp only [RO, OF])) only [RR, RM, LN, TT, d3_at, ↓reduceIte, Nat.reduceEqDiff, Nat.reduceLT, Nat.reduceLeDiff, Nat.reduceAdd, Nat.reduceSub, Nat.reduceMul, Nat.reduceMod, Nat.reduceDiv, Nat.reduceBEq, go_b14, bodyOf, Try.f14, d14_at, RI, initE, H13, e_h7, e_h8, e_h9, e_h10, e_h11, e_h12, e_h13, e_h14, h15', h16', e_h17, h18', h19', e_h20, h21']
            refine J.ite (fun h22 => ?_) (fun h22 => ?_)
            · have h22' := decide_eq_true h22
              conv => arg 1; simp (disch := first | assumption | decide | with_unfolding_all rfl | omega | (simp only [LN] <;> omega) | (simp only [RO, OF])) only [RR, RM, LN, TT, d3_at, ↓reduceIte, Nat.reduceEqDiff, Nat.reduceLT, Nat.reduceLeDiff, Nat.reduceAdd, Nat.reduceSub, Nat.reduceMul, Nat.reduceMod, Nat.reduceDiv, Nat.reduceBEq, go_b14, bodyOf, Try.f14, d14_at, RI, initE, H13, e_h7, e_h8, e_h9, e_h10, e_h11, e_h12, e_h13, e_h14, h15', h16', e_h17, h18', h19', e_h20, h21', h22']
              refine J.ite (fun h23 => ?_) (fun h23 => ?_)
              · have h23' := decide_eq_true h23
                conv => arg 1; simp (disch := first | assumption | decide | with_unfolding_all rfl | omega | (simp only [LN] <;> omega) | (simp only [RO, OF])) only [RR, RM, LN, TT, d3_at, ↓reduceIte, Nat.reduceEqDiff, Nat.reduceLT, Nat.reduceLeDiff, Nat.reduceAdd, Nat.reduceSub, Nat.reduceMul, Nat.reduceMod, Nat.reduceDiv, Nat.reduceBEq, go_b14, bodyOf, Try.f14, d14_at, RI, initE, H13, e_h7, e_h8, e_h9, e_h10, e_h11, e_h12, e_h13, e_h14, h15', h16', e_h17, h18', h19', e_h20, h21', h22', h23']
                refine J.ite (fun h24 => ?_) (fun h24 => ?_)
                · have h24' := decide_eq_true h24
                  refine J.chk fun h25 => ?_
                  conv => arg 1; simp (disch := first | assumption | decide | with_unfolding_all rfl | omega | (simp only [LN] <;> omega) | (simp only [RO, OF])) only [RR, RM, LN, TT, d3_at, ↓reduceIte, Nat.reduceEqDiff, Nat.reduceLT, Nat.reduceLeDiff, Nat.reduceAdd, Nat.reduceSub, Nat.reduceMul, Nat.reduceMod, Nat.reduceDiv, Nat.reduceBEq, go_b14, bodyOf, Try.f14, d14_at, go_b24, bodyOf, Try.f24, d24_at, RI, initE, H13, e_h7, e_h8, e_h9, e_h10, e_h11, e_h12, e_h13, e_h14, h15', h16', e_h17, h18', h19', e_h20, h21', h22', h23', h24']
                  refine J.eq go_seq ?_
                  refine J.bind fun x14 h26 => ?_
                  have e_h26 := H23_0 _ _ _ h26
                  try simp only [NN, NT, LN] at e_h26
                  conv => arg 1; simp (disch := first | assumption | decide | with_unfolding_all rfl | omega | (simp only [LN] <;> omega) | (simp only [RO, OF])) only [RR, RM, LN, TT, d3_at, ↓reduceIte, Nat.reduceEqDiff, Nat.reduceLT, Nat.reduceLeDiff, Nat.reduceAdd, Nat.reduceSub, Nat.reduceMul, Nat.reduceMod, Nat.reduceDiv, Nat.reduceBEq, go_b14, bodyOf, Try.f14, d14_at, go_b24, bodyOf, Try.f24, d24_at, RI, initE, H13, e_h7, e_h8, e_h9, e_h10, e_h11, e_h12, e_h13, e_h14, h15', h16', e_h17, h18', h19', e_h20, h21', h22', h23', h24', e_h26]
                  refine J.ite (fun h27 => ?_) (fun h27 => ?_)
                  · have h27' : x14 = true := h27
                    refine J.chk fun h28 => ?_
                    refine J.at fun x15 h29 h30 h31 => ?_
                    simp only [Int.toNat_natCast] at h31
                    conv => arg 1; simp (disch := first | assumption | decide | with_unfolding_all rfl | omega | (simp only [LN] <;> omega) | (simp only [RO, OF])) only [RR, RM, LN, TT, d3_at, ↓reduceIte, Nat.reduceEqDiff, Nat.reduceLT, Nat.reduceLeDiff, Nat.reduceAdd, Nat.reduceSub, Nat.reduceMul, Nat.reduceMod, Nat.reduceDiv, Nat.reduceBEq, go_b14, bodyOf, Try.f14, d14_at, go_b24, bodyOf, Try.f24, d24_at, RI, initE, H13, e_h7, e_h8, e_h9, e_h10, e_h11, e_h12, e_h13, e_h14, h15', h16', e_h17, h18', h19', e_h20, h21', h22', h23', h24', e_h26, h27', lm_ik h31]
                    refine J.ite (fun h32 => ?_) (fun h32 => ?_)
                    · have h32' := decide_eq_true h32
                      refine J.chk fun h33 => ?_
                      refine J.at fun x16 h34 h35 h36 => ?_
                      conv => arg 1; simp (disch := first | assumption | decide | with_unfolding_all rfl | omega | (simp only [LN] <;> omega) | (simp only [RO, OF])) only [RR, RM, LN, TT, d3_at, ↓reduceIte, Nat.reduceEqDiff, Nat.reduceLT, Nat.reduceLeDiff, Nat.reduceAdd, Nat.reduceSub, Nat.reduceMul, Nat.reduceMod, Nat.reduceDiv, Nat.reduceBEq, go_b14, bodyOf, Try.f14, d14_at, go_b24, bodyOf, Try.f24, d24_at, RI, initE, H13, e_h7, e_h8, e_h9, e_h10, e_h11, e_h12, e_h13, e_h14, h15', h16', e_h17, h18', h19', e_h20, h21', h22', h23', h24', e_h26, h27', lm_ik h31, h32', lm_ik h36]
                      refine J.eq ret_seq ?_
                      conv => arg 1; simp (disch := first | assumption | decide | with_unfolding_all rfl | omega | (simp only [LN] <;> omega) | (simp only [RO, OF])) only [RR, RM, LN, TT, d3_at, ↓reduceIte, Nat.reduceEqDiff, Nat.reduceLT, Nat.reduceLeDiff, Nat.reduceAdd, Nat.reduceSub, Nat.reduceMul, Nat.reduceMod, Nat.reduceDiv, Nat.reduceBEq, go_b14, bodyOf, Try.f14, d14_at, go_b24, bodyOf, Try.f24, d24_at, RI, initE, H13, e_h7, e_h8, e_h9, e_h10, e_h11, e_h12, e_h13, e_h14, h15', h16', e_h17, h18', h19', e_h20, h21', h22', h23', h24', e_h26, h27', lm_ik h31, h32', lm_ik h36]
                      refine J.ite (fun h37 => ?_) (fun h37 => ?_)
                      · have h37' := decide_eq_true h37
                        refine J.chk fun h38 => ?_
                        conv => arg 1; simp (disch := first | assumption | decide | with_unfolding_all rfl | omega | (simp only [LN] <;> omega) | (simp only [RO, OF])) only [RR, RM, LN, TT, d3_at, ↓reduceIte, Nat.reduceEqDiff, Nat.reduceLT, Nat.reduceLeDiff, Nat.reduceAdd, Nat.reduceSub, Nat.reduceMul, Nat.reduceMod, Nat.reduceDiv, Nat.reduceBEq, go_b14, bodyOf, Try.f14, d14_at, go_b24, bodyOf, Try.f24, d24_at, RI, initE, H13, e_h7, e_h8, e_h9, e_h10, e_h11, e_h12, e_h13, e_h14, h15', h16', e_h17, h18', h19', e_h20, h21', h22', h23', h24', e_h26, h27', lm_ik h31, h32', lm_ik h36, h37']
                        refine J.eq go_seq ?_
                        refine J.bind fun x17 h39 => ?_
                        have e_h39 := H23_0 _ _ _ h39
                        try simp only [NN, NT, LN] at e_h39
                        conv => arg 1; simp (disch := first | assumption | decide | with_unfolding_all rfl | omega | (simp only [LN] <;> omega) | (simp only [RO, OF])) only [RR, RM, LN, TT, d3_at, ↓reduceIte, Nat.reduceEqDiff, Nat.reduceLT, Nat.reduceLeDiff, Nat.reduceAdd, Nat.reduceSub, Nat.reduceMul, Nat.reduceMod, Nat.reduceDiv, Nat.reduceBEq, go_b14, bodyOf, Try.f14, d14_at, go_b24, bodyOf, Try.f24, d24_at, RI, initE, H13, e_h7, e_h8, e_h9, e_h10, e_h11, e_h12, e_h13, e_h14, h15', h16', e_h17, h18', h19', e_h20, h21', h22', h23', h24', e_h26, h27', lm_ik h31, h32', lm_ik h36, h37', e_h39]
                        refine J.ite (fun h40 => ?_) (fun h40 => ?_)
                        · have h40' : x17 = true := h40
                          refine J.chk fun h41 => ?_
                          refine J.at fun x18 h42 h43 h44 => ?_
                          simp only [Int.toNat_natCast] at h44
                          conv => arg 1; simp (disch := first | assumption | decide | with_unfolding_all rfl | omega | (simp only [LN] <;> omega) | (simp only [RO, OF])) only [RR, RM, LN, TT, d3_at, ↓reduceIte, Nat.reduceEqDiff, Nat.reduceLT, Nat.reduceLeDiff, Nat.reduceAdd, Nat.reduceSub, Nat.reduceMul, Nat.reduceMod, Nat.reduceDiv, Nat.reduceBEq, go_b14, bodyOf, Try.f14, d14_at, go_b24, bodyOf, Try.f24, d24_at, RI, initE, H13, e_h7, e_h8, e_h9, e_h10, e_h11, e_h12, e_h13, e_h14, h15', h16', e_h17, h18', h19', e_h20, h21', h22', h23', h24', e_h26, h27', lm_ik h31, h32', lm_ik h36, h37', e_h39, h40', lm_ik h44]
                          refine J.ite (fun h45 => ?_) (fun h45 => ?_)
                          · have h45' := decide_eq_true h45
                            refine J.chk fun h46 => ?_
                            refine J.at fun x19 h47 h48 h49 => ?_
                            conv => arg 1; simp (disch := first | assumption | decide | with_unfolding_all rfl | omega | (simp only [LN] <;> omega) | (simp only [RO, OF])) only [RR, RM, LN, TT, d3_at, ↓reduceIte, Nat.reduceEqDiff, Nat.reduceLT, Nat.reduceLeDiff, Nat.reduceAdd, Nat.reduceSub, Nat.reduceMul, Nat.reduceMod, Nat.reduceDiv, Nat.reduceBEq, go_b14, bodyOf, Try.f14, d14_at, go_b24, bodyOf, Try.f24, d24_at, RI, initE, H13, e_h7, e_h8, e_h9, e_h10, e_h11, e_h12, e_h13, e_h14, h15', h16', e_h17, h18', h19', e_h20, h21', h22', h23', h24', e_h26, h27', lm_ik h31, h32', lm_ik h36, h37', e_h39, h40', lm_ik h44, h45', lm_ik h49]
                            refine J.eq ret_seq ?_
                            conv => arg 1; simp (disch := first | assumption | decide | with_unfolding_all rfl | omega | (simp only [LN] <;> omega) | (simp only [RO, OF])) only [RR, RM, LN, TT, d3_at, ↓reduceIte, Nat.reduceEqDiff, Nat.reduceLT, Nat.reduceLeDiff, Nat.reduceAdd, Nat.reduceSub, Nat.reduceMul, Nat.reduceMod, Nat.reduceDiv, Nat.reduceBEq, go_b14, bodyOf, Try.f14, d14_at, go_b24, bodyOf, Try.f24, d24_at, RI, initE, H13, e_h7, e_h8, e_h9, e_h10, e_h11, e_h12, e_h13, e_h14, h15', h16', e_h17, h18', h19', e_h20, h21', h22', h23', h24', e_h26, h27', lm_ik h31, h32', lm_ik h36, h37', e_h39, h40', lm_ik h44, h45', lm_ik h49]
                            refine J.eq ret_seq ?_
                            refine J.some ?_
                            simp (disch := first | assumption | decide | with_unfolding_all rfl | omega | (simp only [LN] <;> omega) | (simp only [RO, OF])) only [RR, RM, LN, TT, d3_at, ↓reduceIte, Nat.reduceEqDiff, Nat.reduceLT, Nat.reduceLeDiff, Nat.reduceAdd, Nat.reduceSub, Nat.reduceMul, Nat.reduceMod, Nat.reduceDiv, Nat.reduceBEq, go_b14, bodyOf, Try.f14, d14_at, go_b24, bodyOf, Try.f24, d24_at, RI, initE, H13, e_h7, e_h8, e_h9, e_h10, e_h11, e_h12, e_h13, e_h14, h15', h16', e_h17, h18', h19', e_h20, h21', h22', h23', h24', e_h26, h27', lm_ik h31, h32', lm_ik h36, h37', e_h39, h40', lm_ik h44, h45', lm_ik h49, FF, LN, NN, NT]
                          · have h45' := decide_eq_false h45
                            conv => arg 1; simp (disch := first | assumption | decide | with_unfolding_all rfl | omega | (simp only [LN] <;> omega) | (simp only [RO, OF])) only [RR, RM, LN, TT, d3_at, ↓reduceIte, Nat.reduceEqDiff, Nat.reduceLT, Nat.reduceLeDiff, Nat.reduceAdd, Nat.reduceSub, Nat.reduceMul, Nat.reduceMod, Nat.reduceDiv, Nat.reduceBEq, go_b14, bodyOf, Try.f14, d14_at, go_b24, bodyOf, Try.f24, d24_at, RI, initE, H13, e_h7, e_h8, e_h9, e_h10, e_h11, e_h12, e_h13, e_h14, h15', h16', e_h17, h18', h19', e_h20, h21', h22', h23', h24', e_h26, h27', lm_ik h31, h32', lm_ik h36, h37', e_h39, h40', lm_ik h44, h45']
                            refine J.eq ret_seq ?_
                            conv => arg 1; simp (disch := first | assumption | decide | with_unfolding_all rfl | omega | (simp only [LN] <;> omega) | (simp only [RO, OF])) only [RR, RM, LN, TT, d3_at, ↓reduceIte, Nat.reduceEqDiff, Nat.reduceLT, Nat.reduceLeDiff, Nat.reduceAdd, Nat.reduceSub, Nat.reduceMul, Nat.reduceMod, Nat.reduceDiv, Nat.reduceBEq, go_b14, bodyOf, Try.f14, d14_at, go_b24, bodyOf, Try.f24, d24_at, RI, initE, H13, e_h7, e_h8, e_h9, e_h10, e_h11, e_h12, e_h13, e_h14, h15', h16', e_h17, h18', h19', e_h20, h21', h22', h23', h24', e_h26, h27', lm_ik h31, h32', lm_ik h36, h37', e_h39, h40', lm_ik h44, h45']
                            refine J.eq ret_seq ?_
                            refine J.some ?_
                            simp (disch := first | assumption | decide | with_unfolding_all rfl | omega | (simp only [LN] <;> omega) | (simp only [RO, OF])) only [RR, RM, LN, TT, d3_at, ↓reduceIte, Nat.reduceEqDiff, Nat.reduceLT, Nat.reduceLeDiff, Nat.reduceAdd, Nat.reduceSub, Nat.reduceMul, Nat.reduceMod, Nat.reduceDiv, Nat.reduceBEq, go_b14, bodyOf, Try.f14, d14_at, go_b24, bodyOf, Try.f24, d24_at, RI, initE, H13, e_h7, e_h8, e_h9, e_h10, e_h11, e_h12, e_h13, e_h14, h15', h16', e_h17, h18', h19', e_h20, h21', h22', h23', h24', e_h26, h27', lm_ik h31, h32', lm_ik h36, h37', e_h39, h40', lm_ik h44, h45', FF, LN, NN, NT]
                        · have h40' : x17 = false := Bool.eq_false_iff.2 h40
                          conv => arg 1; simp (disch := first | assumption | decide | with_unfolding_all rfl | omega | (simp only [LN] <;> omega) | (simp only [RO, OF])) only [RR, RM, LN, TT, d3_at, ↓reduceIte, Nat.reduceEqDiff, Nat.reduceLT, Nat.reduceLeDiff, Nat.reduceAdd, Nat.reduceSub, Nat.reduceMul, Nat.reduceMod, Nat.reduceDiv, Nat.reduceBEq, go_b14, bodyOf, Try.f14, d14_at, go_b24, bodyOf, Try.f24, d24_at, RI, initE, H13, e_h7, e_h8, e_h9, e_h10, e_h11, e_h12, e_h13, e_h14, h15', h16', e_h17, h18', h19', e_h20, h21', h22', h23', h24', e_h26, h27', lm_ik h31, h32', lm_ik h36, h37', e_h39, h40']
                          refine J.eq ret_seq ?_
                          conv => arg 1; simp (disch := first | assumption | decide | with_unfolding_all rfl | omega | (simp only [LN] <;> omega) | (simp only [RO, OF])) only [RR, RM, LN, TT, d3_at, ↓reduceIte, Nat.reduceEqDiff, Nat.reduceLT, Nat.reduceLeDiff, Nat.reduceAdd, Nat.reduceSub, Nat.reduceMul, Nat.reduceMod, Nat.reduceDiv, Nat.reduceBEq, go_b14, bodyOf, Try.f14, d14_at, go_b24, bodyOf, Try.f24, d24_at, RI, initE, H13, e_h7, e_h8, e_h9, e_h10, e_h11, e_h12, e_h13, e_h14, h15', h16', e_h17, h18', h19', e_h20, h21', h22', h23', h24', e_h26, h27', lm_ik h31, h32', lm_ik h36, h37', e_h39, h40']
                          refine J.eq ret_seq ?_
                          refine J.some ?_
                          simp (disch := first | assumption | decide | with_unfolding_all rfl | omega | (simp only [LN] <;> omega) | (simp only [RO, OF])) only [RR, RM, LN, TT, d3_at, ↓reduceIte, Nat.reduceEqDiff, Nat.reduceLT, Nat.reduceLeDiff, Nat.reduceAdd, Nat.reduceSub, Nat.reduceMul, Nat.reduceMod, Nat.reduceDiv, Nat.reduceBEq, go_b14, bodyOf, Try.f14, d14_at, go_b24, bodyOf, Try.f24, d24_at, RI, initE, H13, e_h7, e_h8, e_h9, e_h10, e_h11, e_h12, e_h13, e_h14, h15', h16', e_h17, h18', h19', e_h20, h21', h22', h23', h24', e_h26, h27', lm_ik h31, h32', lm_ik h36, h37', e_h39, h40', FF, LN, NN, NT]
                      · have h37' := decide_eq_false h37
                        conv => arg 1; simp (disch := first | assumption | decide | with_unfolding_all rfl | omega | (simp only [LN] <;> omega) | (simp only [RO, OF])) only [RR, RM, LN, TT, d3_at, ↓reduceIte, Nat.reduceEqDiff, Nat.reduceLT, Nat.reduceLeDiff, Nat.reduceAdd, Nat.reduceSub, Nat.reduceMul, Nat.reduceMod, Nat.reduceDiv, Nat.reduceBEq, go_b14, bodyOf, Try.f14, d14_at, go_b24, bodyOf, Try.f24, d24_at, RI, initE, H13, e_h7, e_h8, e_h9, e_h10, e_h11, e_h12, e_h13, e_h14, h15', h16', e_h17, h18', h19', e_h20, h21', h22', h23', h24', e_h26, h27', lm_ik h31, h32', lm_ik h36, h37']
                        refine J.eq ret_seq ?_
                        refine J.some ?_
                        simp (disch := first | assumption | decide | with_unfolding_all rfl | omega | (simp only [LN] <;> omega) | (simp only [RO, OF])) only [RR, RM, LN, TT, d3_at, ↓reduceIte, Nat.reduceEqDiff, Nat.reduceLT, Nat.reduceLeDiff, Nat.reduceAdd, Nat.reduceSub, Nat.reduceMul, Nat.reduceMod, Nat.reduceDiv, Nat.reduceBEq, go_b14, bodyOf, Try.f14, d14_at, go_b24, bodyOf, Try.f24, d24_at, RI, initE, H13, e_h7, e_h8, e_h9, e_h10, e_h11, e_h12, e_h13, e_h14, h15', h16', e_h17, h18', h19', e_h20, h21', h22', h23', h24', e_h26, h27', lm_ik h31, h32', lm_ik h36, h37', FF, LN, NN, NT]
                    · have h32' := decide_eq_false h32
                      conv => arg 1; simp (disch := first | assumption | decide | with_unfolding_all rfl | omega | (simp only [LN] <;> omega) | (simp only [RO, OF])) only [RR, RM, LN, TT, d3_at, ↓reduceIte, Nat.reduceEqDiff, Nat.reduceLT, Nat.reduceLeDiff, Nat.reduceAdd, Nat.reduceSub, Nat.reduceMul, Nat.reduceMod, Nat.reduceDiv, Nat.reduceBEq, go_b14, bodyOf, Try.f14, d14_at, go_b24, bodyOf, Try.f24, d24_at, RI, initE, H13, e_h7, e_h8, e_h9, e_h10, e_h11, e_h12, e_h13, e_h14, h15', h16', e_h17, h18', h19', e_h20, h21', h22', h23', h24', e_h26, h27', lm_ik h31, h32']
                      refine J.eq ret_seq ?_
                      conv => arg 1; simp (disch := first | assumption | decide | with_unfolding_all rfl | omega | (simp only [LN] <;> omega) | (simp only [RO, OF])) only [RR, RM, LN, TT, d3_at, ↓reduceIte, Nat.reduceEqDiff, Nat.reduceLT, Nat.reduceLeDiff, Nat.reduceAdd, Nat.reduceSub, Nat.reduceMul, Nat.reduceMod, Nat.reduceDiv, Nat.reduceBEq, go_b14, bodyOf, Try.f14, d14_at, go_b24, bodyOf, Try.f24, d24_at, RI, initE, H13, e_h7, e_h8, e_h9, e_h10, e_h11, e_h12, e_h13, e_h14, h15', h16', e_h17, h18', h19', e_h20, h21', h22', h23', h24', e_h26, h27', lm_ik h31, h32']
                      refine J.eq ret_seq ?_
                      refine J.some ?_
                      simp (disch := first | assumption | decide | with_unfolding_all rfl | omega | (simp only [LN] <;> omega) | (simp only [RO, OF])) only [RR, RM, LN, TT, d3_at, ↓reduceIte, Nat.reduceEqDiff, Nat.reduceLT, Nat.reduceLeDiff, Nat.reduceAdd, Nat.reduceSub, Nat.reduceMul, Nat.reduceMod, Nat.reduceDiv, Nat.reduceBEq, go_b14, bodyOf, Try.f14, d14_at, go_b24, bodyOf, Try.f24, d24_at, RI, initE, H13, e_h7, e_h8, e_h9, e_h10, e_h11, e_h12, e_h13, e_h14, h15', h16', e_h17, h18', h19', e_h20, h21', h22', h23', h24', e_h26, h27', lm_ik h31, h32', FF, LN, NN, NT]
                  · have h27' : x14 = false := Bool.eq_false_iff.2 h27
                    conv => arg 1; simp (disch := first | assumption | decide | with_unfolding_all rfl | omega | (simp only [LN] <;> omega) | (simp only [RO, OF])) only [RR, RM, LN, TT, d3_at, ↓reduceIte, Nat.reduceEqDiff, Nat.reduceLT, Nat.reduceLeDiff, Nat.reduceAdd, Nat.reduceSub, Nat.reduceMul, Nat.reduceMod, Nat.reduceDiv, Nat.reduceBEq, go_b14, bodyOf, Try.f14, d14_at, go_b24, bodyOf, Try.f24, d24_at, RI, initE, H13, e_h7, e_h8, e_h9, e_h10, e_h11, e_h12, e_h13, e_h14, h15', h16', e_h17, h18', h19', e_h20, h21', h22', h23', h24', e_h26, h27']
                    refine J.eq ret_seq ?_
                    conv => arg 1; simp (disch := first | assumption | decide | with_unfolding_all rfl | omega | (simp only [LN] <;> omega) | (simp only [RO, OF])) only [RR, RM, LN, TT, d3_at, ↓reduceIte, Nat.reduceEqDiff, Nat.reduceLT, Nat.reduceLeDiff, Nat.reduceAdd, Nat.reduceSub, Nat.reduceMul, Nat.reduceMod, Nat.reduceDiv, Nat.reduceBEq, go_b14, bodyOf, Try.f14, d14_at, go_b24, bodyOf, Try.f24, d24_at, RI, initE, H13, e_h7, e_h8, e_h9, e_h10, e_h11, e_h12, e_h13, e_h14, h15', h16', e_h17, h18', h19', e_h20, h21', h22', h23', h24', e_h26, h27']
                    refine J.eq ret_seq ?_
                    refine J.some ?_
                    simp (disch := first | assumption | decide | with_unfolding_all rfl | omega | (simp only [LN] <;> omega) | (simp only [RO, OF])) only [RR, RM, LN, TT, d3_at, ↓reduceIte, Nat.reduceEqDiff, Nat.reduceLT, Nat.reduceLeDiff, Nat.reduceAdd, Nat.reduceSub, Nat.reduceMul, Nat.reduceMod, Nat.reduceDiv, Nat.reduceBEq, go_b14, bodyOf, Try.f14, d14_at, go_b24, bodyOf, Try.f24, d24_at, RI, initE, H13, e_h7, e_h8, e_h9, e_h10, e_h11, e_h12, e_h13, e_h14, h15', h16', e_h17, h18', h19', e_h20, h21', h22', h23', h24', e_h26, h27', FF, LN, NN, NT]
                · have h24' := decide_eq_false h24
                  conv => arg 1; simp (disch := first | assumption | decide | with_unfolding_all rfl | omega | (simp only [LN] <;> omega) | (simp only [RO, OF])) only [RR, RM, LN, TT, d3_at, ↓reduceIte, Nat.reduceEqDiff, Nat.reduceLT, Nat.reduceLeDiff, Nat.reduceAdd, Nat.reduceSub, Nat.reduceMul, Nat.reduceMod, Nat.reduceDiv, Nat.reduceBEq, go_b14, bodyOf, Try.f14, d14_at, go_b24, bodyOf, Try.f24, d24_at, RI, initE, H13, e_h7, e_h8, e_h9, e_h10, e_h11, e_h12, e_h13, e_h14, h15', h16', e_h17, h18', h19', e_h20, h21', h22', h23', h24']
                  refine J.eq ret_seq ?_
                  refine J.some ?_
                  simp (disch := first | assumption | decide | with_unfolding_all rfl | omega | (simp only [LN] <;> omega) | (simp only [RO, OF])) only [RR, RM, LN, TT, d3_at, ↓reduceIte, Nat.reduceEqDiff, Nat.reduceLT, Nat.reduceLeDiff, Nat.reduceAdd, Nat.reduceSub, Nat.reduceMul, Nat.reduceMod, Nat.reduceDiv, Nat.reduceBEq, go_b14, bodyOf, Try.f14, d14_at, go_b24, bodyOf, Try.f24, d24_at, RI, initE, H13, e_h7, e_h8, e_h9, e_h10, e_h11, e_h12, e_h13, e_h14, h15', h16', e_h17, h18', h19', e_h20, h21', h22', h23', h24', FF, LN, NN, NT]
              · have h23' := decide_eq_false h23
                conv => arg 1; simp (disch := first | assumption | decide | with_unfolding_all rfl | omega | (simp only [LN] <;> omega) | (simp only [RO, OF])) only [RR, RM, LN, TT, d3_at, ↓reduceIte, Nat.reduceEqDiff, Nat.reduceLT, Nat.reduceLeDiff, Nat.reduceAdd, Nat.reduceSub, Nat.reduceMul, Nat.reduceMod, Nat.reduceDiv, Nat.reduceBEq, go_b14, bodyOf, Try.f14, d14_at, go_b24, bodyOf, Try.f24, d24_at, RI, initE, H13, e_h7, e_h8, e_h9, e_h10, e_h11, e_h12, e_h13, e_h14, h15', h16', e_h17, h18', h19', e_h20, h21', h22', h23']
                refine J.eq ret_seq ?_
                refine J.some ?_
                simp (disch := first | assumption | decide | with_unfolding_all rfl | omega | (simp only [LN] <;> omega) | (simp only [RO, OF])) only [RR, RM, LN, TT, d3_at, ↓reduceIte, Nat.reduceEqDiff, Nat.reduceLT, Nat.reduceLeDiff, Nat.reduceAdd, Nat.reduceSub, Nat.reduceMul, Nat.reduceMod, Nat.reduceDiv, Nat.reduceBEq, go_b14, bodyOf, Try.f14, d14_at, go_b24, bodyOf, Try.f24, d24_at, RI, initE, H13, e_h7, e_h8, e_h9, e_h10, e_h11, e_h12, e_h13, e_h14, h15', h16', e_h17, h18', h19', e_h20, h21', h22', h23', FF, LN, NN, NT]
            · have h22' := decide_eq_false h22
              conv => arg 1; simp (disch := first | assumption | decide | with_unfolding_all rfl | omega | (simp only [LN] <;> omega) | (simp only [RO, OF])) only [RR, RM, LN, TT, d3_at, ↓reduceIte, Nat.reduceEqDiff, Nat.reduceLT, Nat.reduceLeDiff, Nat.reduceAdd, Nat.reduceSub, Nat.reduceMul, Nat.reduceMod, Nat.reduceDiv, Nat.reduceBEq, go_b14, bodyOf, Try.f14, d14_at, go_b24, bodyOf, Try.f24, d24_at, RI, initE, H13, e_h7, e_h8, e_h9, e_h10, e_h11, e_h12, e_h13, e_h14, h15', h16', e_h17, h18', h19', e_h20, h21', h22']
              refine J.eq ret_seq ?_
              refine J.some ?_
              simp (disch := first | assumption | decide | with_unfolding_all rfl | omega | (simp only [LN] <;> omega) | (simp only [RO, OF])) only [RR, RM, LN, TT, d3_at, ↓reduceIte, Nat.reduceEqDiff, Nat.reduceLT, Nat.reduceLeDiff, Nat.reduceAdd, Nat.reduceSub, Nat.reduceMul, Nat.reduceMod, Nat.reduceDiv, Nat.reduceBEq, go_b14, bodyOf, Try.f14, d14_at, go_b24, bodyOf, Try.f24, d24_at, RI, initE, H13, e_h7, e_h8, e_h9, e_h10, e_h11, e_h12, e_h13, e_h14, h15', h16', e_h17, h18', h19', e_h20, h21', h22', FF, LN, NN, NT]
          · have h21' : x13 = false := Bool.eq_false_iff.2 h21
            conv => arg 1; simp (disch := first | assumption | decide | with_unfolding_all rfl | omega | (simp only [LN] <;> omega) | (simp only [RO, OF])) only [RR, RM, LN, TT, d3_at, ↓reduceIte, Nat.reduceEqDiff, Nat.reduceLT, Nat.reduceLeDiff, Nat.reduceAdd, Nat.reduceSub, Nat.reduceMul, Nat.reduceMod, Nat.reduceDiv, Nat.reduceBEq, go_b14, bodyOf, Try.f14, d14_at, go_b24, bodyOf, Try.f24, d24_at, RI, initE, H13, e_h7, e_h8, e_h9, e_h10, e_h11, e_h12, e_h13, e_h14, h15', h16', e_h17, h18', h19', e_h20, h21']
            refine J.eq ret_seq ?_
            refine J.some ?_
            simp (disch := first | assumption | decide | with_unfolding_all rfl | omega | (simp only [LN] <;> omega) | (simp only [RO, OF])) only [RR, RM, LN, TT, d3_at, ↓reduceIte, Nat.reduceEqDiff, Nat.reduceLT, Nat.reduceLeDiff, Nat.reduceAdd, Nat.reduceSub, Nat.reduceMul, Nat.reduceMod, Nat.reduceDiv, Nat.reduceBEq, go_b14, bodyOf, Try.f14, d14_at, go_b24, bodyOf, Try.f24, d24_at, RI, initE, H13, e_h7, e_h8, e_h9, e_h10, e_h11, e_h12, e_h13, e_h14, h15', h16', e_h17, h18', h19', e_h20, h21', FF, LN, NN, NT]
        · have h19' := decide_eq_false h19
          conv => arg 1; simp (disch := first | assumption | decide | with_unfolding_all rfl | omega | (simp only [LN] <;> omega) | (simp only [RO, OF])) only [RR, RM, LN, TT, d3_at, ↓reduceIte, Nat.reduceEqDiff, Nat.reduceLT, Nat.reduceLeDiff, Nat.reduceAdd, Nat.reduceSub, Nat.reduceMul, Nat.reduceMod, Nat.reduceDiv, Nat.reduceBEq, go_b14, bodyOf, Try.f14, d14_at, go_b24, bodyOf, Try.f24, d24_at, RI, initE, H13, e_h7, e_h8, e_h9, e_h10, e_h11, e_h12, e_h13, e_h14, h15', h16', e_h17, h18', h19']
          refine J.eq ret_seq ?_
          refine J.some ?_
          simp (disch := first | assumption | decide | with_unfolding_all rfl | omega | (simp only [LN] <;> omega) | (simp only [RO, OF])) only [RR, RM, LN, TT, d3_at, ↓reduceIte, Nat.reduceEqDiff, Nat.reduceLT, Nat.reduceLeDiff, Nat.reduceAdd, Nat.reduceSub, Nat.reduceMul, Nat.reduceMod, Nat.reduceDiv, Nat.reduceBEq, go_b14, bodyOf, Try.f14, d14_at, go_b24, bodyOf, Try.f24, d24_at, RI, initE, H13, e_h7, e_h8, e_h9, e_h10, e_h11, e_h12, e_h13, e_h14, h15', h16', e_h17, h18', h19', FF, LN, NN, NT]
      · have h18' : x12 = false := Bool.eq_false_iff.2 h18
        conv => arg 1; simp (disch := first | assumption | decide | with_unfolding_all rfl | omega | (simp only [LN] <;> omega) | (simp only [RO, OF])) only [RR, RM, LN, TT, d3_at, ↓reduceIte, Nat.reduceEqDiff, Nat.reduceLT, Nat.reduceLeDiff, Nat.reduceAdd, Nat.reduceSub, Nat.reduceMul, Nat.reduceMod, Nat.reduceDiv, Nat.reduceBEq, go_b14, bodyOf, Try.f14, d14_at, go_b24, bodyOf, Try.f24, d24_at, RI, initE, H13, e_h7, e_h8, e_h9, e_h10, e_h11, e_h12, e_h13, e_h14, h15', h16', e_h17, h18']
        refine J.eq ret_seq ?_
        refine J.some ?_
        simp (disch := first | assumption | decide | with_unfolding_all rfl | omega | (simp only [LN] <;> omega) | (simp only [RO, OF])) only [RR, RM, LN, TT, d3_at, ↓reduceIte, Nat.reduceEqDiff, Nat.reduceLT, Nat.reduceLeDiff, Nat.reduceAdd, Nat.reduceSub, Nat.reduceMul, Nat.reduceMod, Nat.reduceDiv, Nat.reduceBEq, go_b14, bodyOf, Try.f14, d14_at, go_b24, bodyOf, Try.f24, d24_at, RI, initE, H13, e_h7, e_h8, e_h9, e_h10, e_h11, e_h12, e_h13, e_h14, h15', h16', e_h17, h18', FF, LN, NN, NT]
    · have h16' := decide_eq_false h16
      conv => arg 1; simp (disch := first | assumption | decide | with_unfolding_all rfl | omega | (simp only [LN] <;> omega) | (simp only [RO, OF])) only [RR, RM, LN, TT, d3_at, ↓reduceIte, Nat.reduceEqDiff, Nat.reduceLT, Nat.reduceLeDiff, Nat.reduceAdd, Nat.reduceSub, Nat.reduceMul, Nat.reduceMod, Nat.reduceDiv, Nat.reduceBEq, go_b14, bodyOf, Try.f14, d14_at, go_b24, bodyOf, Try.f24, d24_at, RI, initE, H13, e_h7, e_h8, e_h9, e_h10, e_h11, e_h12, e_h13, e_h14, h15', h16']
      refine J.eq ret_seq ?_
      refine J.some ?_
      simp (disch := first | assumption | decide | with_unfolding_all rfl | omega | (simp only [LN] <;> omega) | (simp only [RO, OF])) only [RR, RM, LN, TT, d3_at, ↓reduceIte, Nat.reduceEqDiff, Nat.reduceLT, Nat.reduceLeDiff, Nat.reduceAdd, Nat.reduceSub, Nat.reduceMul, Nat.reduceMod, Nat.reduceDiv, Nat.reduceBEq, go_b14, bodyOf, Try.f14, d14_at, go_b24, bodyOf, Try.f24, d24_at, RI, initE, H13, e_h7, e_h8, e_h9, e_h10, e_h11, e_h12, e_h13, e_h14, h15', h16', FF, LN, NN, NT]
  · have h15' := decide_eq_false h15
    conv => arg 1; simp (disch := first | assumption | decide | with_unfolding_all rfl | omega | (simp only [LN] <;> omega) | (simp only [RO, OF])) only [RR, RM, LN, TT, d3_at, ↓reduceIte, Nat.reduceEqDiff, Nat.reduceLT, Nat.reduceLeDiff, Nat.reduceAdd, Nat.reduceSub, Nat.reduceMul, Nat.reduceMod, Nat.reduceDiv, Nat.reduceBEq, go_b14, bodyOf, Try.f14, d14_at, go_b24, bodyOf, Try.f24, d24_at, RI, initE, H13, e_h7, e_h8, e_h9, e_h10, e_h11, e_h12, e_h13, e_h14, h15']
    refine J.eq ret_seq ?_
    refine J.some ?_
    simp (disch := first | assumption | decide | with_unfolding_all rfl | omega | (simp only [LN] <;> omega) | (simp only [RO, OF])) only [RR, RM, LN, TT, d3_at, ↓reduceIte, Nat.reduceEqDiff, Nat.reduceLT, Nat.reduceLeDiff, Nat.reduceAdd, Nat.reduceSub, Nat.reduceMul, Nat.reduceMod, Nat.reduceDiv, Nat.reduceBEq, go_b14, bodyOf, Try.f14, d14_at, go_b24, bodyOf, Try.f24, d24_at, RI, initE, H13, e_h7, e_h8, e_h9, e_h10, e_h11, e_h12, e_h13, e_h14, h15', FF, LN, NN, NT]
noncomputable def t3 (fu : Nat) : CallP := orE 13 (mkC (fun (_ : Unit) => ([] : List AV)) (fun _ => some true) (fun b => .v (.bool b))) (orE 15 (mkC (fun (t : List Int) => ([.arr t.length (lm (ik .i64) t)] : List AV)) (fun t => shape_Size fu t) e15) (orE 16 (mkC (fun (t : List Int) => ([.arr t.length (lm (ik .i64) t)] : List AV)) (fun t => ref04_Size fu t) e16) (orE 17 (mkC (fun (t : List Int) => ([.arr t.length (lm (ik .i64) t)] : List AV)) (fun t => shape_Strides fu t) e17) (orE 18 (mkC (fun (t : List Int) => ([.arr t.length (lm (ik .i64) t)] : List AV)) (fun t => ref04_Strides fu t) e18) (orE 19 (mkC (fun (t : (List Int) × Int) => ([.arr t.1.length (lm (ik .i64) t.1), .v (.int .i64 t.2)] : List AV)) (fun t => shape_Index fu t.1 t.2) e19) (orE 20 (mkC (fun (t : (List Int) × Int) => ([.arr t.1.length (lm (ik .i64) t.1), .v (.int .i64 t.2)] : List AV)) (fun t => ref04_Index fu t.1 t.2) e20) (orE 21 (mkC (fun (t : (List Int) × (List Int)) => ([.arr t.1.length (lm (ik .i64) t.1), .arr t.2.length (lm (ik .i64) t.2)] : List AV)) (fun t => shape_Offset fu t.1 t.2) e21) (orE 22 (mkC (fun (t : (List Int) × (List Int)) => ([.arr t.1.length (lm (ik .i64) t.1), .arr t.2.length (lm (ik .i64) t.2)] : List AV)) (fun t => ref04_Offset fu t.1 t.2) e22) (orE 23 (mkC (fun (t : (List Int) × (List Int)) => ([.arr t.1.length (lm (ik .i64) t.1), .arr t.2.length (lm (ik .i64) t.2)] : List AV)) (fun t => ref04_SameInts fu t.1 t.2) e23) (noP))))))))))
theorem t3_ok (fu : Nat) : CpOK Try.prog (t3 fu ) := orE_ok (orE_ok (orE_ok (orE_ok (orE_ok (orE_ok (orE_ok (orE_ok (orE_ok (orE_ok (noP_ok) (mkC_ok (fun t b h => ok23 fu t.1 t.2  b h))) (mkC_ok (fun t b h => ok22 fu t.1 t.2  b h))) (mkC_ok (fun t b h => ok21 fu t.1 t.2  b h))) (mkC_ok (fun t b h => ok20 fu t.1 t.2  b h))) (mkC_ok (fun t b h => ok19 fu t.1 t.2  b h))) (mkC_ok (fun t b h => ok18 fu t  b h))) (mkC_ok (fun t b h => ok17 fu t  b h))) (mkC_ok (fun t b h => ok16 fu t  b h))) (mkC_ok (fun t b h => ok15 fu t  b h))) (mkC_ok (fun _ b h => by injection h with h; subst h; exact awake13))
theorem ok3 (fu : Nat) (x1 : List Int) (x2 : Int) (x3 : List Int) (r) (h : law04_ShapePlaces fu x1 x2 x3 = some r) : PureOK Try.prog 3 [.arr x1.length (lm (ik .i64) x1), .v (.int .i64 x2), .arr x3.length (lm (ik .i64) x3)] (e3 r) :=
  pure_J mixed (cp := t3 fu ) (t3_ok fu  ) (ciE_ok mixed (t3_ok fu  ) i14 (ciE_ok mixed (t3_ok fu  ) i24 noI_ok)) i3 (w3 _ fu x1 x2 x3  (orE_hit (mkC_at (a := ()) (fun _ _ _ => rfl) rfl)) (fun a0 r h => orE_miss (by decide) (orE_hit (mkC_at (a := a0) (by intro a b h; first | (exact rfl) | (simp only [INJ] at h; first | exact h | (simp_all [Prod.ext_iff]) )) h))) (fun a0 r h => orE_miss (by decide) (orE_miss (by decide) (orE_hit (mkC_at (a := a0) (by intro a b h; first | (exact rfl) | (simp only [INJ] at h; first | exact h | (simp_all [Prod.ext_iff]) )) h)))) (fun a0 r h => orE_miss (by decide) (orE_miss (by decide) (orE_miss (by decide) (orE_hit (mkC_at (a := a0) (by intro a b h; first | (exact rfl) | (simp only [INJ] at h; first | exact h | (simp_all [Prod.ext_iff]) )) h))))) (fun a0 r h => orE_miss (by decide) (orE_miss (by decide) (orE_miss (by decide) (orE_miss (by decide) (orE_hit (mkC_at (a := a0) (by intro a b h; first | (exact rfl) | (simp only [INJ] at h; first | exact h | (simp_all [Prod.ext_iff]) )) h)))))) (fun a0 a1 r h => orE_miss (by decide) (orE_miss (by decide) (orE_miss (by decide) (orE_miss (by decide) (orE_miss (by decide) (orE_hit (mkC_at (a := (a0, a1)) (by intro a b h; first | (exact rfl) | (simp only [INJ] at h; first | exact h | (simp_all [Prod.ext_iff]) )) h))))))) (fun a0 a1 r h => orE_miss (by decide) (orE_miss (by decide) (orE_miss (by decide) (orE_miss (by decide) (orE_miss (by decide) (orE_miss (by decide) (orE_hit (mkC_at (a := (a0, a1)) (by intro a b h; first | (exact rfl) | (simp only [INJ] at h; first | exact h | (simp_all [Prod.ext_iff]) )) h)))))))) (fun a0 a1 r h => orE_miss (by decide) (orE_miss (by decide) (orE_miss (by decide) (orE_miss (by decide) (orE_miss (by decide) (orE_miss (by decide) (orE_miss (by decide) (orE_hit (mkC_at (a := (a0, a1)) (by intro a b h; first | (exact rfl) | (simp only [INJ] at h; first | exact h | (simp_all [Prod.ext_iff]) )) h))))))))) (fun a0 a1 r h => orE_miss (by decide) (orE_miss (by decide) (orE_miss (by decide) (orE_miss (by decide) (orE_miss (by decide) (orE_miss (by decide) (orE_miss (by decide) (orE_miss (by decide) (orE_hit (mkC_at (a := (a0, a1)) (by intro a b h; first | (exact rfl) | (simp only [INJ] at h; first | exact h | (simp_all [Prod.ext_iff]) )) h)))))))))) (fun a0 a1 r h => orE_miss (by decide) (orE_miss (by decide) (orE_miss (by decide) (orE_miss (by decide) (orE_miss (by decide) (orE_miss (by decide) (orE_miss (by decide) (orE_miss (by decide) (orE_miss (by decide) (orE_hit (mkC_at (a := (a0, a1)) (by intro a b h; first | (exact rfl) | (simp only [INJ] at h; first | exact h | (simp_all [Prod.ext_iff]) )) h)))))))))))) h
/-! 59: lattice/latticeref04.dim -/
def d59 : List (Nat × List Nat) := [(0, [4]), (0, []), (0, [5, 6, 7]), (0, []), (0, []), (0, []), (0, [0, 1, 9, 10, 11, 12, 13, 14, 15, 16])]
def d59_at := And.intro (show d59.getD 0 (0, []) = (0, [4]) from rfl) <| And.intro (show d59.getD 1 (0, []) = (0, []) from rfl) <| And.intro (show d59.getD 2 (0, []) = (0, [5, 6, 7]) from rfl) <| And.intro (show d59.getD 3 (0, []) = (0, []) from rfl) <| And.intro (show d59.getD 4 (0, []) = (0, []) from rfl) <| And.intro (show d59.getD 5 (0, []) = (0, []) from rfl) <| (show d59.getD 6 (0, []) = (0, [0, 1, 9, 10, 11, 12, 13, 14, 15, 16]) from rfl)
theorem i59 : finfo Try.prog 59 d59 = some ⟨bodyOf Try.f59, [.tmp 4], [3]⟩ := finfo_at Try.func59 rfl (by kernel_rfl) (by kernel_rfl)
def e59 : Int → AV := fun r => .v (.int .i64 r)
set_option maxHeartbeats 1000000 in
theorem w59 (cp : CallP) (fu : Nat) (x1 : List Int) (x2 : Int) : J (go Try.prog noC cp noI 0 [] d59 fu (fin Try.prog [.tmp 4] [3]) (bodyOf Try.f59) (initE 0 [.arr x1.length (lm (ik .i64) x1), .v (.int .i64 x2)]) [] []) (ref04_dim fu x1 x2) e59 := by
  unfold ref04_dim e59
  conv => arg 1; simp (disch := first | assumption | decide | with_unfolding_all rfl | omega | (simp only [LN] <;> omega) | (simp only [RO, OF])) only [bodyOf, Try.f59, RR, RM, LN, TT, d59_at, ↓reduceIte, Nat.reduceEqDiff, Nat.reduceLT, Nat.reduceLeDiff, Nat.reduceAdd, Nat.reduceSub, Nat.reduceMul, Nat.reduceMod, Nat.reduceDiv, Nat.reduceBEq]
  refine J.eq go_seq ?_
  conv => arg 1; simp (disch := first | assumption | decide | with_unfolding_all rfl | omega | (simp only [LN] <;> omega) | (simp only [RO, OF])) only [RR, RM, LN, TT, d59_at, ↓reduceIte, Nat.reduceEqDiff, Nat.reduceLT, Nat.reduceLeDiff, Nat.reduceAdd, Nat.reduceSub, Nat.reduceMul, Nat.reduceMod, Nat.reduceDiv, Nat.reduceBEq]
  refine J.ite (fun h1 => ?_) (fun h1 => ?_)
  · have h1' := decide_eq_true h1
    have h1'' : decide (x2 < (x1.length : Int)) = false := decide_eq_false (by omega)
    refine J.some ?_
    simp (disch := first | assumption | decide | with_unfolding_all rfl | omega | (simp only [LN] <;> omega) | (simp only [RO, OF])) only [RR, RM, LN, TT, d59_at, ↓reduceIte, Nat.reduceEqDiff, Nat.reduceLT, Nat.reduceLeDiff, Nat.reduceAdd, Nat.reduceSub, Nat.reduceMul, Nat.reduceMod, Nat.reduceDiv, Nat.reduceBEq, h1'', h1', FF, LN, NN, NT]
  · have h1' := decide_eq_false h1
    have h1'' : decide (x2 < (x1.length : Int)) = true := decide_eq_true (by omega)
    conv => arg 1; simp (disch := first | assumption | decide | with_unfolding_all rfl | omega | (simp only [LN] <;> omega) | (simp only [RO, OF])) only [RR, RM, LN, TT, d59_at, ↓reduceIte, Nat.reduceEqDiff, Nat.reduceLT, Nat.reduceLeDiff, Nat.reduceAdd, Nat.reduceSub, Nat.reduceMul, Nat.reduceMod, Nat.reduceDiv, Nat.reduceBEq, h1'', h1']
    refine J.eq ret_seq ?_
    refine J.at fun x3 h2 h3 h4 => ?_
    refine J.some ?_
    simp (disch := first | assumption | decide | with_unfolding_all rfl | omega | (simp only [LN] <;> omega) | (simp only [RO, OF])) only [RR, RM, LN, TT, d59_at, ↓reduceIte, Nat.reduceEqDiff, Nat.reduceLT, Nat.reduceLeDiff, Nat.reduceAdd, Nat.reduceSub, Nat.reduceMul, Nat.reduceMod, Nat.reduceDiv, Nat.reduceBEq, h1'', h1', lm_ik h4, FF, LN, NN, NT]
noncomputable def t59 (fu : Nat) : CallP := noP
theorem t59_ok (fu : Nat) : CpOK Try.prog (t59 fu ) := noP_ok
theorem ok59 (fu : Nat) (x1 : List Int) (x2 : Int) (r) (h : ref04_dim fu x1 x2 = some r) : PureOK Try.prog 59 [.arr x1.length (lm (ik .i64) x1), .v (.int .i64 x2)] (e59 r) :=
  pure_J mixed (cp := t59 fu ) (t59_ok fu  ) noI_ok i59 (w59 _ fu x1 x2  ) h
/-! 26: lattice/latticeref04.Broadcast -/
def d26 : List (Nat × List Nat) := [(0, [4, 5]), (0, [0, 1, 10, 12]), (0, [6, 17, 18, 19, 20, 21]), (0, []), (0, [22]), (0, []), (0, [24]), (0, []), (0, [7, 8, 25, 26, 27, 28, 29]), (0, []), (0, [30]), (0, []), (0, [32]), (0, []), (0, [9, 33, 34, 35, 36, 37]), (0, []), (0, [38, 39]), (0, []), (0, []), (0, []), (0, [40, 41]), (0, []), (0, [43, 44]), (0, []), (0, [45, 46, 47]), (0, []), (0, [48, 49, 50]), (0, []), (0, [51, 52, 53, 54, 55, 56, 57, 58, 59, 60]), (0, []), (0, []), (0, []), (0, [62]), (0, []), (0, [64]), (0, []), (0, [13, 14, 65, 66, 67, 68, 69, 70, 71]), (0, []), (0, [15, 72, 73, 74, 75, 76]), (0, []), (0, [77]), (0, []), (0, [79]), (0, []), (0, [11, 16, 80])]
def d26_at := And.intro (show d26.getD 0 (0, []) = (0, [4, 5]) from rfl) <| And.intro (show d26.getD 1 (0, []) = (0, [0, 1, 10, 12]) from rfl) <| And.intro (show d26.getD 2 (0, []) = (0, [6, 17, 18, 19, 20, 21]) from rfl) <| And.intro (show d26.getD 3 (0, []) = (0, []) from rfl) <| And.intro (show d26.getD 4 (0, []) = (0, [22]) from rfl) <| And.intro (show d26.getD 5 (0, []) = (0, []) from rfl) <| And.intro (show d26.getD 6 (0, []) = (0, [24]) from rfl) <| And.intro (show d26.getD 7 (0, []) = (0, []) from rfl) <| And.intro (show d26.getD 8 (0, []) = (0, [7, 8, 25, 26, 27, 28, 29]) from rfl) <| And.intro (show d26.getD 9 (0, []) = (0, []) from rfl) <| And.intro (show d26.getD 10 (0, []) = (0, [30]) from rfl) <| And.intro (show d26.getD 11 (0, []) = (0, []) from rfl) <| And.intro (show d26.getD 12 (0, []) = (0, [32]) from rfl) <| And.intro (show d26.getD 13 (0, []) = (0, []) from rfl) <| And.intro (show d26.getD 14 (0, []) = (0, [9, 33, 34, 35, 36, 37]) from rfl) <| And.intro (show d26.getD 15 (0, []) = (0, []) from rfl) <| And.intro (show d26.getD 16 (0, []) = (0, [38, 39]) from rfl) <| And.intro (show d26.getD 17 (0, []) = (0, []) from rfl) <| And.intro (show d26.getD 18 (0, []) = (0, []) from rfl) <| And.intro (show d26.getD 19 (0, []) = (0, []) from rfl) <| And.intro (show d26.getD 20 (0, []) = (0, [40, 41]) from rfl) <| And.intro (show d26.getD 21 (0, []) = (0, []) from rfl) <| And.intro (show d26.getD 22 (0, []) = (0, [43, 44]) from rfl) <| And.intro (show d26.getD 23 (0, []) = (0, []) from rfl) <| And.intro (show d26.getD 24 (0, []) = (0, [45, 46, 47]) from rfl) <| And.intro (show d26.getD 25 (0, []) = (0, []) from rfl) <| And.intro (show d26.getD 26 (0, []) = (0, [48, 49, 50]) from rfl) <| And.intro (show d26.getD 27 (0, []) = (0, []) from rfl) <| And.intro (show d26.getD 28 (0, []) = (0, [51, 52, 53, 54, 55, 56, 57, 58, 59, 60]) from rfl) <| And.intro (show d26.getD 29 (0, []) = (0, []) from rfl) <| And.intro (show d26.getD 30 (0, []) = (0, []) from rfl) <| And.intro (show d26.getD 31 (0, []) = (0, []) from rfl) <| And.intro (show d26.getD 32 (0, []) = (0, [62]) from rfl) <| And.intro (show d26.getD 33 (0, []) = (0, []) from rfl) <| And.intro (show d26.getD 34 (0, []) = (0, [64]) from rfl) <| And.intro (show d26.getD 35 (0, []) = (0, []) from rfl) <| And.intro (show d26.getD 36 (0, []) = (0, [13, 14, 65, 66, 67, 68, 69, 70, 71]) from rfl) <| And.intro (show d26.getD 37 (0, []) = (0, []) from rfl) <| And.intro (show d26.getD 38 (0, []) = (0, [15, 72, 73, 74, 75, 76]) from rfl) <| And.intro (show d26.getD 39 (0, []) = (0, []) from rfl) <| And.intro (show d26.getD 40 (0, []) = (0, [77]) from rfl) <| And.intro (show d26.getD 41 (0, []) = (0, []) from rfl) <| And.intro (show d26.getD 42 (0, []) = (0, [79]) from rfl) <| And.intro (show d26.getD 43 (0, []) = (0, []) from rfl) <| (show d26.getD 44 (0, []) = (0, [11, 16, 80]) from rfl)
theorem i26 : finfo Try.prog 26 d26 = some ⟨bodyOf Try.f26, [.tmp 4, .tmp 5], [22, 25]⟩ := finfo_at Try.func26 rfl (by kernel_rfl) (by kernel_rfl)
def e26 : ((List Int) × Int) → AV := fun r => .tuple [.fresh 1 r.1.length (lm (ik .i64) r.1), .v (.int .i64 r.2)]
set_option maxHeartbeats 1000000 in
theorem w26 (cp : CallP) (fu : Nat) (x1 : List Int) (x2 : List Int) (H16_0 : ∀ (a0 : List Int) r, ref04_Size fu a0 = some r → cp 16 [.arr a0.length (lm (ik .i64) a0)] = some (.tuple [.v (.int .i64 r.1), .v (.int .i64 r.2)])) (H59_0 : ∀ (a0 : List Int) (a1 : Int) r, ref04_dim fu a0 a1 = some r → cp 59 [.arr a0.length (lm (ik .i64) a0), .v (.int .i64 a1)] = some (.v (.int .i64 r))) : J (go Try.prog noC cp noI 0 [] d26 fu (fin Try.prog [.tmp 4, .tmp 5] [22, 25]) (bodyOf Try.f26) (initE 0 [.arr x1.length (lm (ik .i64) x1), .arr x2.length (lm (ik .i64) x2)]) [] []) (ref04_Broadcast fu x1 x2) e26 := by
  unfold ref04_Broadcast e26
  refine J.bind fun x3 h1 => ?_
  have e_h1 := H16_0 _ _ h1
  try simp only [NN, NT, LN] at e_h1
  conv => arg 1; simp (disch := first | assumption | decide | with_unfolding_all rfl | omega | (simp only [LN] <;> omega) | (simp only [RO, OF])) only [bodyOf, Try.f26, RR, RM, LN, TT, d26_at, ↓reduceIte, Nat.reduceEqDiff, Nat.reduceLT, Nat.reduceLeDiff, Nat.reduceAdd, Nat.reduceSub, Nat.reduceMul, Nat.reduceMod, Nat.reduceDiv, Nat.reduceBEq, e_h1]
  refine J.eq go_seq ?_
  conv => arg 1; simp (disch := first | assumption | decide | with_unfolding_all rfl | omega | (simp only [LN] <;> omega) | (simp only [RO, OF])) only [RR, RM, LN, TT, d26_at, ↓reduceIte, Nat.reduceEqDiff, Nat.reduceLT, Nat.reduceLeDiff, Nat.reduceAdd, Nat.reduceSub, Nat.reduceMul, Nat.reduceMod, Nat.reduceDiv, Nat.reduceBEq, e_h1]
  refine J.ite (fun h2 => ?_) (fun h2 => ?_)
  · have h2' := decide_eq_true h2
    conv => arg 1; simp (disch := first | assumption | decide | with_unfolding_all rfl | omega | (simp only [LN] <;> omega) | (simp only [RO, OF])) only [RR, RM, LN, TT, d26_at, ↓reduceIte, Nat.reduceEqDiff, Nat.reduceLT, Nat.reduceLeDiff, Nat.reduceAdd, Nat.reduceSub, Nat.reduceMul, Nat.reduceMod, Nat.reduceDiv, Nat.reduceBEq, e_h1, h2']
    refine J.eq ret_seq ?_
    refine J.bind fun x4 h3 => ?_
    have e_h3 := H16_0 _ _ h3
    try simp only [NN, NT, LN] at e_h3
    conv => arg 1; simp (disch := first | assumption | decide | with_unfolding_all rfl | omega | (simp only [LN] <;> omega) | (simp only [RO, OF])) only [RR, RM, LN, TT, d26_at, ↓reduceIte, Nat.reduceEqDiff, Nat.reduceLT, Nat.reduceLeDiff, Nat.reduceAdd, Nat.reduceSub, Nat.reduceMul, Nat.reduceMod, Nat.reduceDiv, Nat.reduceBEq, e_h1, h2', e_h3]
    refine J.eq go_seq ?_
    conv => arg 1; simp (disch := first | assumption | decide | with_unfolding_all rfl | omega | (simp only [LN] <;> omega) | (simp only [RO, OF])) only [RR, RM, LN, TT, d26_at, ↓reduceIte, Nat.reduceEqDiff, Nat.reduceLT, Nat.reduceLeDiff, Nat.reduceAdd, Nat.reduceSub, Nat.reduceMul, Nat.reduceMod, Nat.reduceDiv, Nat.reduceBEq, e_h1, h2', e_h3]
    refine J.ite (fun h4 => ?_) (fun h4 => ?_)
    · have h4' := decide_eq_true h4
      conv => arg 1; simp (disch := first | assumption | decide | with_unfolding_all rfl | omega | (simp only [LN] <;> omega) | (simp only [RO, OF])) only [RR, RM, LN, TT, d26_at, ↓reduceIte, Nat.reduceEqDiff, Nat.reduceLT, Nat.reduceLeDiff, Nat.reduceAdd, Nat.reduceSub, Nat.reduceMul, Nat.reduceMod, Nat.reduceDiv, Nat.reduceBEq, e_h1, h2', e_h3, h4']
      refine J.eq ret_seq ?_
      refine J.chk fun h5 => ?_
      conv => arg 1; simp (disch := first | assumption | decide | with_unfolding_all rfl | omega | (simp only [LN] <;> omega) | (simp only [RO, OF])) only [RR, RM, LN, TT, d26_at, ↓reduceIte, Nat.reduceEqDiff, Nat.reduceLT, Nat.reduceLeDiff, Nat.reduceAdd, Nat.reduceSub, Nat.reduceMul, Nat.reduceMod, Nat.reduceDiv, Nat.reduceBEq, e_h1, h2', e_h3, h4']
      refine J.joinS (fun (t : List Int) => ([(11, .own (0, 39, 0) 0 t.length t.length)], [((0, 39, 0), .sl true true 1 t.length (lm (ik .i64) t))])) (fun t => ref04_Broadcast_k1 fu t) ?_ (fun hj1 => ?_)
      · rintro x5
        show J _ (ref04_Broadcast_k1 fu x5) _
        unfold ref04_Broadcast_k1
        refine J.bind fun x6 h6 => ?_
        have e_h6 := H16_0 _ _ h6
        try simp only [NN, NT, LN] at e_h6
        conv => arg 1; simp (disch := first | assumption | decide | with_unfolding_all rfl | omega | (simp only [LN] <;> omega) | (simp only [RO, OF])) only [RR, RM, LN, TT, d26_at, ↓reduceIte, Nat.reduceEqDiff, Nat.reduceLT, Nat.reduceLeDiff, Nat.reduceAdd, Nat.reduceSub, Nat.reduceMul, Nat.reduceMod, Nat.reduceDiv, Nat.reduceBEq, e_h1, h2', e_h3, h4', e_h6]
        refine J.eq go_seq ?_
        conv => arg 1; simp (disch := first | assumption | decide | with_unfolding_all rfl | omega | (simp only [LN] <;> omega) | (simp only [RO, OF])) only [RR, RM, LN, TT, d26_at, ↓reduceIte, Nat.reduceEqDiff, Nat.reduceLT, Nat.reduceLeDiff, Nat.reduceAdd, Nat.reduceSub, Nat.reduceMul, Nat.reduceMod, Nat.reduceDiv, Nat.reduceBEq, e_h1, h2', e_h3, h4', e_h6]
        refine J.ite (fun h7 => ?_) (fun h7 => ?_)
        · have h7' := decide_eq_true h7
          conv => arg 1; simp (disch := first | assumption | decide | with_unfolding_all rfl | omega | (simp only [LN] <;> omega) | (simp only [RO, OF])) only [RR, RM, LN, TT, d26_at, ↓reduceIte, Nat.reduceEqDiff, Nat.reduceLT, Nat.reduceLeDiff, Nat.reduceAdd, Nat.reduceSub, Nat.reduceMul, Nat.reduceMod, Nat.reduceDiv, Nat.reduceBEq, e_h1, h2', e_h3, h4', e_h6, h7']
          refine J.eq ret_seq ?_
          refine J.some ?_
          simp (disch := first | assumption | decide | with_unfolding_all rfl | omega | (simp only [LN] <;> omega) | (simp only [RO, OF])) only [RR, RM, LN, TT, d26_at, ↓reduceIte, Nat.reduceEqDiff, Nat.reduceLT, Nat.reduceLeDiff, Nat.reduceAdd, Nat.reduceSub, Nat.reduceMul, Nat.reduceMod, Nat.reduceDiv, Nat.reduceBEq, e_h1, h2', e_h3, h4', e_h6, h7', FF, LN, NN, NT]
        · have h7' := decide_eq_false h7
          refine J.some ?_
          simp (disch := first | assumption | decide | with_unfolding_all rfl | omega | (simp only [LN] <;> omega) | (simp only [RO, OF])) only [RR, RM, LN, TT, d26_at, ↓reduceIte, Nat.reduceEqDiff, Nat.reduceLT, Nat.reduceLeDiff, Nat.reduceAdd, Nat.reduceSub, Nat.reduceMul, Nat.reduceMod, Nat.reduceDiv, Nat.reduceBEq, e_h1, h2', e_h3, h4', e_h6, h7', FF, LN, NN, NT]
      · conv => arg 1; simp (disch := first | assumption | decide | with_unfolding_all rfl | omega | (simp only [LN] <;> omega) | (simp only [RO, OF])) only [RR, RM, LN, TT, d26_at, ↓reduceIte, Nat.reduceEqDiff, Nat.reduceLT, Nat.reduceLeDiff, Nat.reduceAdd, Nat.reduceSub, Nat.reduceMul, Nat.reduceMod, Nat.reduceDiv, Nat.reduceBEq, e_h1, h2', e_h3, h4']
        unfold ref04_Broadcast_W1
        refine J.loop (fun (s : (List Int) × Int) => ([(0, .arr x1.length (lm (ik .i64) x1)), (1, .arr x2.length (lm (ik .i64) x2)), (10, .v (.int .i64 (imax (x1.length : Int) (x2.length : Int)))), (11, .own (0, 39, 0) 0 s.1.length s.1.length), (12, .v (.int .i64 s.2))], [((0, 39, 0), .sl true true 1 s.1.length (lm (ik .i64) s.1))])) (fun next s => ref04_Broadcast_L1 fu x1 x2 (fun x10 x11 => next (x10, x11)) s.1 s.2) (s0 := (List.replicate (imax (x1.length : Int) (x2.length : Int)).toNat (0 : Int), 0)) ?_ ?_ ?_
        · first | rfl | (simp only [LN, NN, NT])
        · first | (simp (disch := first | assumption | decide | with_unfolding_all rfl | omega | (simp only [LN] <;> omega) | (simp only [RO, OF])) only [RR, ↓reduceIte, Nat.reduceEqDiff, Nat.reduceLT, Nat.reduceLeDiff, Nat.reduceAdd, Nat.reduceSub, Nat.reduceMul, Nat.reduceMod, Nat.reduceDiv, Nat.reduceBEq, LN, NN, NT]; done) | rfl
        rintro next k1 hn1 ⟨x10, x11⟩
        let nx1 : (List Int) → Int → Option ((List Int) × Int) := (fun x10 x11 => next (x10, x11))
        show J _ (ref04_Broadcast_L1 fu x1 x2 nx1 x10 x11) _
        unfold ref04_Broadcast_L1
        refine J.eq go_seq ?_
        conv => arg 1; simp (disch := first | assumption | decide | with_unfolding_all rfl | omega | (simp only [LN] <;> omega) | (simp only [RO, OF])) only [RR, RM, LN, TT, d26_at, ↓reduceIte, Nat.reduceEqDiff, Nat.reduceLT, Nat.reduceLeDiff, Nat.reduceAdd, Nat.reduceSub, Nat.reduceMul, Nat.reduceMod, Nat.reduceDiv, Nat.reduceBEq, e_h1, h2', e_h3, h4']
        refine J.ite (fun h8 => ?_) (fun h8 => ?_)
        · have h8' := decide_eq_true h8
          have h8'' : decide ((imax (x1.length : Int) (x2.length : Int)) ≤ x11) = false := decide_eq_false (by omega)
          conv => arg 1; simp (disch := first | assumption | decide | with_unfolding_all rfl | omega | (simp only [LN] <;> omega) | (simp only [RO, OF])) only [RR, RM, LN, TT, d26_at, ↓reduceIte, Nat.reduceEqDiff, Nat.reduceLT, Nat.reduceLeDiff, Nat.reduceAdd, Nat.reduceSub, Nat.reduceMul, Nat.reduceMod, Nat.reduceDiv, Nat.reduceBEq, e_h1, h2', e_h3, h4', h8'', h8']
          refine J.eq ret_seq ?_
          refine J.eq go_seq ?_
          refine J.bind fun x15 h9 => ?_
          have e_h9 := H59_0 _ _ _ h9
          try simp only [NN, NT, LN] at e_h9
          refine J.bind fun x16 h10 => ?_
          have e_h10 := H59_0 _ _ _ h10
          try simp only [NN, NT, LN] at e_h10
          conv => arg 1; simp (disch := first | assumption | decide | with_unfolding_all rfl | omega | (simp only [LN] <;> omega) | (simp only [RO, OF])) only [RR, RM, LN, TT, d26_at, ↓reduceIte, Nat.reduceEqDiff, Nat.reduceLT, Nat.reduceLeDiff, Nat.reduceAdd, Nat.reduceSub, Nat.reduceMul, Nat.reduceMod, Nat.reduceDiv, Nat.reduceBEq, e_h1, h2', e_h3, h4', h8'', h8', e_h9, e_h10]
          refine J.joinS (fun (t : Unit) => ([(0, .arr x1.length (lm (ik .i64) x1)), (1, .arr x2.length (lm (ik .i64) x2)), (10, .v (.int .i64 (imax (x1.length : Int) (x2.length : Int)))), (11, .own (0, 39, 0) 0 x10.length x10.length), (12, .v (.int .i64 x11)), (13, .v (.int .i64 x15)), (14, .v (.int .i64 x16))], [((0, 39, 0), .sl true true 1 x10.length (lm (ik .i64) x10))])) (fun t => ref04_Broadcast_k2 fu nx1 x1 x2 x10 x11 x15 x16) ?_ (fun hj2 => ?_)
          · rintro ⟨⟩
            show J _ (ref04_Broadcast_k2 fu nx1 x1 x2 x10 x11 x15 x16) _
            unfold ref04_Broadcast_k2
            refine J.joinS (fun (t : Int) => ([(0, .arr x1.length (lm (ik .i64) x1)), (1, .arr x2.length (lm (ik .i64) x2)), (10, .v (.int .i64 (imax (x1.length : Int) (x2.length : Int)))), (11, .own (0, 39, 0) 0 x10.length x10.length), (12, .v (.int .i64 x11)), (13, .v (.int .i64 t)), (14, .v (.int .i64 x16))], [((0, 39, 0), .sl true true 1 x10.length (lm (ik .i64) x10))])) (fun t => ref04_Broadcast_k3 fu nx1 x1 x2 x10 x11 t) ?_ (fun hj3 => ?_)
            · rintro x17
              show J _ (ref04_Broadcast_k3 fu nx1 x1 x2 x10 x11 x17) _
              unfold ref04_Broadcast_k3
              refine J.chk fun h11 => ?_
              conv => arg 1; simp (disch := first | assumption | decide | with_unfolding_all rfl | omega | (simp only [LN] <;> omega) | (simp only [RO, OF])) only [RR, RM, LN, TT, d26_at, ↓reduceIte, Nat.reduceEqDiff, Nat.reduceLT, Nat.reduceLeDiff, Nat.reduceAdd, Nat.reduceSub, Nat.reduceMul, Nat.reduceMod, Nat.reduceDiv, Nat.reduceBEq, e_h1, h2', e_h3, h4', h8'', h8', e_h9, e_h10]
              refine J.eq ret_seq ?_
              conv => arg 1; simp (disch := first | assumption | decide | with_unfolding_all rfl | omega | (simp only [LN] <;> omega) | (simp only [RO, OF])) only [RR, RM, LN, TT, d26_at, ↓reduceIte, Nat.reduceEqDiff, Nat.reduceLT, Nat.reduceLeDiff, Nat.reduceAdd, Nat.reduceSub, Nat.reduceMul, Nat.reduceMod, Nat.reduceDiv, Nat.reduceBEq, e_h1, h2', e_h3, h4', h8'', h8', e_h9, e_h10]
              refine J.next (s := (x10.set (wk .i64 ((wk .i64 ((imax (x1.length : Int) (x2.length : Int)) - 1)) - x11)).toNat x17, wk .i64 (x11 + 1))) hn1 ?_ ?_
              · first | rfl | (simp only [LN, NN, NT])
              · first | (simp (disch := first | assumption | decide | with_unfolding_all rfl | omega | (simp only [LN] <;> omega) | (simp only [RO, OF])) only [RR, ↓reduceIte, Nat.reduceEqDiff, Nat.reduceLT, Nat.reduceLeDiff, Nat.reduceAdd, Nat.reduceSub, Nat.reduceMul, Nat.reduceMod, Nat.reduceDiv, Nat.reduceBEq, LN, NN, NT]; done) | rfl
            · conv => arg 1; simp (disch := first | assumption | decide | with_unfolding_all rfl | omega | (simp only [LN] <;> omega) | (simp only [RO, OF])) only [RR, RM, LN, TT, d26_at, ↓reduceIte, Nat.reduceEqDiff, Nat.reduceLT, Nat.reduceLeDiff, Nat.reduceAdd, Nat.reduceSub, Nat.reduceMul, Nat.reduceMod, Nat.reduceDiv, Nat.reduceBEq, e_h1, h2', e_h3, h4', h8'', h8', e_h9, e_h10]
              refine J.ite (fun h12 => ?_) (fun h12 => ?_)
              · have h12' := decide_eq_true h12
                conv => arg 1; simp (disch := first | assumption | decide | with_unfolding_all rfl | omega | (simp only [LN] <;> omega) | (simp only [RO, OF])) only [RR, RM, LN, TT, d26_at, ↓reduceIte, Nat.reduceEqDiff, Nat.reduceLT, Nat.reduceLeDiff, Nat.reduceAdd, Nat.reduceSub, Nat.reduceMul, Nat.reduceMod, Nat.reduceDiv, Nat.reduceBEq, e_h1, h2', e_h3, h4', h8'', h8', e_h9, e_h10, h12']
                refine J.jmp (t := x16) hj3 ?_ ?_
                · first | rfl | (simp only [LN, NN, NT])
                · first | (simp (disch := first | assumption | decide | with_unfolding_all rfl | omega | (simp only [LN] <;> omega) | (simp only [RO, OF])) only [RR, ↓reduceIte, Nat.reduceEqDiff, Nat.reduceLT, Nat.reduceLeDiff, Nat.reduceAdd, Nat.reduceSub, Nat.reduceMul, Nat.reduceMod, Nat.reduceDiv, Nat.reduceBEq, LN, NN, NT]; done) | rfl
              · have h12' := decide_eq_false h12
                conv => arg 1; simp (disch := first | assumption | decide | with_unfolding_all rfl | omega | (simp only [LN] <;> omega) | (simp only [RO, OF])) only [RR, RM, LN, TT, d26_at, ↓reduceIte, Nat.reduceEqDiff, Nat.reduceLT, Nat.reduceLeDiff, Nat.reduceAdd, Nat.reduceSub, Nat.reduceMul, Nat.reduceMod, Nat.reduceDiv, Nat.reduceBEq, e_h1, h2', e_h3, h4', h8'', h8', e_h9, e_h10, h12']
                refine J.jmp (t := x15) hj3 ?_ ?_
                · first | rfl | (simp only [LN, NN, NT])
                · first | (simp (disch := first | assumption | decide | with_unfolding_all rfl | omega | (simp only [LN] <;> omega) | (simp only [RO, OF])) only [RR, ↓reduceIte, Nat.reduceEqDiff, Nat.reduceLT, Nat.reduceLeDiff, Nat.reduceAdd, Nat.reduceSub, Nat.reduceMul, Nat.reduceMod, Nat.reduceDiv, Nat.reduceBEq, LN, NN, NT]; done) | rfl
          · refine J.eq go_seq ?_
            conv => arg 1; simp (disch := first | assumption | decide | with_unfolding_all rfl | omega | (simp only [LN] <;> omega) | (simp only [RO, OF])) only [RR, RM, LN, TT, d26_at, ↓reduceIte, Nat.reduceEqDiff, Nat.reduceLT, Nat.reduceLeDiff, Nat.reduceAdd, Nat.reduceSub, Nat.reduceMul, Nat.reduceMod, Nat.reduceDiv, Nat.reduceBEq, e_h1, h2', e_h3, h4', h8'', h8', e_h9, e_h10]
            refine J.ite (fun h13 => ?_) (fun h13 => ?_)
            · have h13' := decide_eq_true h13
              conv => arg 1; simp (disch := first | assumption | decide | with_unfolding_all rfl | omega | (simp only [LN] <;> omega) | (simp only [RO, OF])) only [RR, RM, LN, TT, d26_at, ↓reduceIte, Nat.reduceEqDiff, Nat.reduceLT, Nat.reduceLeDiff, Nat.reduceAdd, Nat.reduceSub, Nat.reduceMul, Nat.reduceMod, Nat.reduceDiv, Nat.reduceBEq, e_h1, h2', e_h3, h4', h8'', h8', e_h9, e_h10, h13']
              refine J.eq ret_seq ?_
              conv => arg 1; simp (disch := first | assumption | decide | with_unfolding_all rfl | omega | (simp only [LN] <;> omega) | (simp only [RO, OF])) only [RR, RM, LN, TT, d26_at, ↓reduceIte, Nat.reduceEqDiff, Nat.reduceLT, Nat.reduceLeDiff, Nat.reduceAdd, Nat.reduceSub, Nat.reduceMul, Nat.reduceMod, Nat.reduceDiv, Nat.reduceBEq, e_h1, h2', e_h3, h4', h8'', h8', e_h9, e_h10, h13']
              refine J.jmp (t := ()) hj2 ?_ ?_
              · first | rfl | (simp only [LN, NN, NT])
              · first | (simp (disch := first | assumption | decide | with_unfolding_all rfl | omega | (simp only [LN] <;> omega) | (simp only [RO, OF])) only [RR, ↓reduceIte, Nat.reduceEqDiff, Nat.reduceLT, Nat.reduceLeDiff, Nat.reduceAdd, Nat.reduceSub, Nat.reduceMul, Nat.reduceMod, Nat.reduceDiv, Nat.reduceBEq, LN, NN, NT]; done) | rfl
            · have h13' := decide_eq_false h13
              conv => arg 1; simp (disch := first | assumption | decide | with_unfolding_all rfl | omega | (simp only [LN] <;> omega) | (simp only [RO, OF])) only [RR, RM, LN, TT, d26_at, ↓reduceIte, Nat.reduceEqDiff, Nat.reduceLT, Nat.reduceLeDiff, Nat.reduceAdd, Nat.reduceSub, Nat.reduceMul, Nat.reduceMod, Nat.reduceDiv, Nat.reduceBEq, e_h1, h2', e_h3, h4', h8'', h8', e_h9, e_h10, h13']
              refine J.ite (fun h14 => ?_) (fun h14 => ?_)
              · have h14' := decide_eq_true h14
                conv => arg 1; simp (disch := first | assumption | decide | with_unfolding_all rfl | omega | (simp only [LN] <;> omega) | (simp only [RO, OF])) only [RR, RM, LN, TT, d26_at, ↓reduceIte, Nat.reduceEqDiff, Nat.reduceLT, Nat.reduceLeDiff, Nat.reduceAdd, Nat.reduceSub, Nat.reduceMul, Nat.reduceMod, Nat.reduceDiv, Nat.reduceBEq, e_h1, h2', e_h3, h4', h8'', h8', e_h9, e_h10, h13', h14']
                refine J.eq ret_seq ?_
                conv => arg 1; simp (disch := first | assumption | decide | with_unfolding_all rfl | omega | (simp only [LN] <;> omega) | (simp only [RO, OF])) only [RR, RM, LN, TT, d26_at, ↓reduceIte, Nat.reduceEqDiff, Nat.reduceLT, Nat.reduceLeDiff, Nat.reduceAdd, Nat.reduceSub, Nat.reduceMul, Nat.reduceMod, Nat.reduceDiv, Nat.reduceBEq, e_h1, h2', e_h3, h4', h8'', h8', e_h9, e_h10, h13', h14']
                refine J.jmp (t := ()) hj2 ?_ ?_
                · first | rfl | (simp only [LN, NN, NT])
                · first | (simp (disch := first | assumption | decide | with_unfolding_all rfl | omega | (simp only [LN] <;> omega) | (simp only [RO, OF])) only [RR, ↓reduceIte, Nat.reduceEqDiff, Nat.reduceLT, Nat.reduceLeDiff, Nat.reduceAdd, Nat.reduceSub, Nat.reduceMul, Nat.reduceMod, Nat.reduceDiv, Nat.reduceBEq, LN, NN, NT]; done) | rfl
              · have h14' := decide_eq_false h14
                conv => arg 1; simp (disch := first | assumption | decide | with_unfolding_all rfl | omega | (simp only [LN] <;> omega) | (simp only [RO, OF])) only [RR, RM, LN, TT, d26_at, ↓reduceIte, Nat.reduceEqDiff, Nat.reduceLT, Nat.reduceLeDiff, Nat.reduceAdd, Nat.reduceSub, Nat.reduceMul, Nat.reduceMod, Nat.reduceDiv, Nat.reduceBEq, e_h1, h2', e_h3, h4', h8'', h8', e_h9, e_h10, h13', h14']
                refine J.eq ret_seq ?_
                conv => arg 1; simp (disch := first | assumption | decide | with_unfolding_all rfl | omega | (simp only [LN] <;> omega) | (simp only [RO, OF])) only [RR, RM, LN, TT, d26_at, ↓reduceIte, Nat.reduceEqDiff, Nat.reduceLT, Nat.reduceLeDiff, Nat.reduceAdd, Nat.reduceSub, Nat.reduceMul, Nat.reduceMod, Nat.reduceDiv, Nat.reduceBEq, e_h1, h2', e_h3, h4', h8'', h8', e_h9, e_h10, h13', h14']
                refine J.ite (fun h15 => ?_) (fun h15 => ?_)
                · have h15' := decide_eq_true h15
                  conv => arg 1; simp (disch := first | assumption | decide | with_unfolding_all rfl | omega | (simp only [LN] <;> omega) | (simp only [RO, OF])) only [RR, RM, LN, TT, d26_at, ↓reduceIte, Nat.reduceEqDiff, Nat.reduceLT, Nat.reduceLeDiff, Nat.reduceAdd, Nat.reduceSub, Nat.reduceMul, Nat.reduceMod, Nat.reduceDiv, Nat.reduceBEq, e_h1, h2', e_h3, h4', h8'', h8', e_h9, e_h10, h13', h14', h15']
                  refine J.jmp (t := ()) hj2 ?_ ?_
                  · first | rfl | (simp only [LN, NN, NT])
                  · first | (simp (disch := first | assumption | decide | with_unfolding_all rfl | omega | (simp only [LN] <;> omega) | (simp only [RO, OF])) only [RR, ↓reduceIte, Nat.reduceEqDiff, Nat.reduceLT, Nat.reduceLeDiff, Nat.reduceAdd, Nat.reduceSub, Nat.reduceMul, Nat.reduceMod, Nat.reduceDiv, Nat.reduceBEq, LN, NN, NT]; done) | rfl
                · have h15' := decide_eq_false h15
                  refine J.some ?_
                  simp (disch := first | assumption | decide | with_unfolding_all rfl | omega | (simp only [LN] <;> omega) | (simp only [RO, OF])) only [RR, RM, LN, TT, d26_at, ↓reduceIte, Nat.reduceEqDiff, Nat.reduceLT, Nat.reduceLeDiff, Nat.reduceAdd, Nat.reduceSub, Nat.reduceMul, Nat.reduceMod, Nat.reduceDiv, Nat.reduceBEq, e_h1, h2', e_h3, h4', h8'', h8', e_h9, e_h10, h13', h14', h15', FF, LN, NN, NT]
        · have h8' := decide_eq_false h8
          have h8'' : decide ((imax (x1.length : Int) (x2.length : Int)) ≤ x11) = true := decide_eq_true (by omega)
          conv => arg 1; simp (disch := first | assumption | decide | with_unfolding_all rfl | omega | (simp only [LN] <;> omega) | (simp only [RO, OF])) only [RR, RM, LN, TT, d26_at, ↓reduceIte, Nat.reduceEqDiff, Nat.reduceLT, Nat.reduceLeDiff, Nat.reduceAdd, Nat.reduceSub, Nat.reduceMul, Nat.reduceMod, Nat.reduceDiv, Nat.reduceBEq, e_h1, h2', e_h3, h4', h8'', h8']
          refine J.jmp (t := x10) hj1 ?_ ?_
          · first | rfl | (simp only [LN, NN, NT])
          · first | (simp (disch := first | assumption | decide | with_unfolding_all rfl | omega | (simp only [LN] <;> omega) | (simp only [RO, OF])) only [RR, ↓reduceIte, Nat.reduceEqDiff, Nat.reduceLT, Nat.reduceLeDiff, Nat.reduceAdd, Nat.reduceSub, Nat.reduceMul, Nat.reduceMod, Nat.reduceDiv, Nat.reduceBEq, LN, NN, NT]; done) | rfl
    · have h4' := decide_eq_false h4
      refine J.some ?_
      simp (disch := first | assumption | decide | with_unfolding_all rfl | omega | (simp only [LN] <;> omega) | (simp only [RO, OF])) only [RR, RM, LN, TT, d26_at, ↓reduceIte, Nat.reduceEqDiff, Nat.reduceLT, Nat.reduceLeDiff, Nat.reduceAdd, Nat.reduceSub, Nat.reduceMul, Nat.reduceMod, Nat.reduceDiv, Nat.reduceBEq, e_h1, h2', e_h3, h4', FF, LN, NN, NT]
  · have h2' := decide_eq_false h2
    refine J.some ?_
    simp (disch := first | assumption | decide | with_unfolding_all rfl | omega | (simp only [LN] <;> omega) | (simp only [RO, OF])) only [RR, RM, LN, TT, d26_at, ↓reduceIte, Nat.reduceEqDiff, Nat.reduceLT, Nat.reduceLeDiff, Nat.reduceAdd, Nat.reduceSub, Nat.reduceMul, Nat.reduceMod, Nat.reduceDiv, Nat.reduceBEq, e_h1, h2', FF, LN, NN, NT]
noncomputable def t26 (fu : Nat) : CallP := orE 16 (mkC (fun (t : List Int) => ([.arr t.length (lm (ik .i64) t)] : List AV)) (fun t => ref04_Size fu t) e16) (orE 59 (mkC (fun (t : (List Int) × Int) => ([.arr t.1.length (lm (ik .i64) t.1), .v (.int .i64 t.2)] : List AV)) (fun t => ref04_dim fu t.1 t.2) e59) (noP))
theorem t26_ok (fu : Nat) : CpOK Try.prog (t26 fu ) := orE_ok (orE_ok (noP_ok) (mkC_ok (fun t b h => ok59 fu t.1 t.2  b h))) (mkC_ok (fun t b h => ok16 fu t  b h))
theorem ok26 (fu : Nat) (x1 : List Int) (x2 : List Int) (r) (h : ref04_Broadcast fu x1 x2 = some r) : PureOK Try.prog 26 [.arr x1.length (lm (ik .i64) x1), .arr x2.length (lm (ik .i64) x2)] (e26 r) :=
  pure_J mixed (cp := t26 fu ) (t26_ok fu  ) noI_ok i26 (w26 _ fu x1 x2  (fun a0 r h => orE_hit (mkC_at (a := a0) (by intro a b h; first | (exact rfl) | (simp only [INJ] at h; first | exact h | (simp_all [Prod.ext_iff]) )) h)) (fun a0 a1 r h => orE_miss (by decide) (orE_hit (mkC_at (a := (a0, a1)) (by intro a b h; first | (exact rfl) | (simp only [INJ] at h; first | exact h | (simp_all [Prod.ext_iff]) )) h)))) h
/-! 28: lattice/latticeref04.From -/
def d28 : List (Nat × List Nat) := [(0, [6, 7]), (0, [0, 14, 16, 18]), (0, [8, 20, 21, 22, 23, 24]), (0, []), (0, [25]), (0, []), (0, [27]), (0, []), (0, [9, 28, 29, 30, 31, 32]), (0, []), (0, [33]), (0, []), (0, [35]), (0, []), (0, [11, 36, 37, 38, 39, 40, 41]), (0, []), (0, [12, 13, 42, 43, 44, 45, 46, 47, 48]), (0, []), (0, []), (0, []), (0, [10, 50, 51, 52, 53, 54, 55]), (0, []), (0, []), (0, []), (0, [2, 15, 57, 58, 59, 60, 61, 62]), (0, []), (0, [1, 63, 64, 65, 66, 67]), (0, []), (0, []), (0, []), (0, []), (0, []), (0, [68, 69, 70]), (0, []), (0, [72, 73]), (0, []), (0, [74, 75, 76, 77, 78, 79]), (0, []), (0, [80, 81, 82, 83]), (0, []), (0, []), (0, []), (0, [19, 85, 86, 87, 88, 89, 90, 91, 92]), (0, []), (0, [17, 93])]
def d28_at := And.intro (show d28.getD 0 (0, []) = (0, [6, 7]) from rfl) <| And.intro (show d28.getD 1 (0, []) = (0, [0, 14, 16, 18]) from rfl) <| And.intro (show d28.getD 2 (0, []) = (0, [8, 20, 21, 22, 23, 24]) from rfl) <| And.intro (show d28.getD 3 (0, []) = (0, []) from rfl) <| And.intro (show d28.getD 4 (0, []) = (0, [25]) from rfl) <| And.intro (show d28.getD 5 (0, []) = (0, []) from rfl) <| And.intro (show d28.getD 6 (0, []) = (0, [27]) from rfl) <| And.intro (show d28.getD 7 (0, []) = (0, []) from rfl) <| And.intro (show d28.getD 8 (0, []) = (0, [9, 28, 29, 30, 31, 32]) from rfl) <| And.intro (show d28.getD 9 (0, []) = (0, []) from rfl) <| And.intro (show d28.getD 10 (0, []) = (0, [33]) from rfl) <| And.intro (show d28.getD 11 (0, []) = (0, []) from rfl) <| And.intro (show d28.getD 12 (0, []) = (0, [35]) from rfl) <| And.intro (show d28.getD 13 (0, []) = (0, []) from rfl) <| And.intro (show d28.getD 14 (0, []) = (0, [11, 36, 37, 38, 39, 40, 41]) from rfl) <| And.intro (show d28.getD 15 (0, []) = (0, []) from rfl) <| And.intro (show d28.getD 16 (0, []) = (0, [12, 13, 42, 43, 44, 45, 46, 47, 48]) from rfl) <| And.intro (show d28.getD 17 (0, []) = (0, []) from rfl) <| And.intro (show d28.getD 18 (0, []) = (0, []) from rfl) <| And.intro (show d28.getD 19 (0, []) = (0, []) from rfl) <| And.intro (show d28.getD 20 (0, []) = (0, [10, 50, 51, 52, 53, 54, 55]) from rfl) <| And.intro (show d28.getD 21 (0, []) = (0, []) from rfl) <| And.intro (show d28.getD 22 (0, []) = (0, []) from rfl) <| And.intro (show d28.getD 23 (0, []) = (0, []) from rfl) <| And.intro (show d28.getD 24 (0, []) = (0, [2, 15, 57, 58, 59, 60, 61, 62]) from rfl) <| And.intro (show d28.getD 25 (0, []) = (0, []) from rfl) <| And.intro (show d28.getD 26 (0, []) = (0, [1, 63, 64, 65, 66, 67]) from rfl) <| And.intro (show d28.getD 27 (0, []) = (0, []) from rfl) <| And.intro (show d28.getD 28 (0, []) = (0, []) from rfl) <| And.intro (show d28.getD 29 (0, []) = (0, []) from rfl) <| And.intro (show d28.getD 30 (0, []) = (0, []) from rfl) <| And.intro (show d28.getD 31 (0, []) = (0, []) from rfl) <| And.intro (show d28.getD 32 (0, []) = (0, [68, 69, 70]) from rfl) <| And.intro (show d28.getD 33 (0, []) = (0, []) from rfl) <| And.intro (show d28.getD 34 (0, []) = (0, [72, 73]) from rfl) <| And.intro (show d28.getD 35 (0, []) = (0, []) from rfl) <| And.intro (show d28.getD 36 (0, []) = (0, [74, 75, 76, 77, 78, 79]) from rfl) <| And.intro (show d28.getD 37 (0, []) = (0, []) from rfl) <| And.intro (show d28.getD 38 (0, []) = (0, [80, 81, 82, 83]) from rfl) <| And.intro (show d28.getD 39 (0, []) = (0, []) from rfl) <| And.intro (show d28.getD 40 (0, []) = (0, []) from rfl) <| And.intro (show d28.getD 41 (0, []) = (0, []) from rfl) <| And.intro (show d28.getD 42 (0, []) = (0, [19, 85, 86, 87, 88, 89, 90, 91, 92]) from rfl) <| And.intro (show d28.getD 43 (0, []) = (0, []) from rfl) <| (show d28.getD 44 (0, []) = (0, [17, 93]) from rfl)
theorem i28 : finfo Try.prog 28 d28 = some ⟨bodyOf Try.f28, [.tmp 6, .tmp 7], [3, 25]⟩ := finfo_at Try.func28 rfl (by kernel_rfl) (by kernel_rfl)
def e28 : (Int × Int) → AV := fun r => .tuple [.v (.int .i64 r.1), .v (.int .i64 r.2)]
set_option maxHeartbeats 1000000 in
theorem w28 (cp : CallP) (fu : Nat) (x1 : List Int) (x2 : List Int) (x3 : Int) (H16_0 : ∀ (a0 : List Int) r, ref04_Size fu a0 = some r → cp 16 [.arr a0.length (lm (ik .i64) a0)] = some (.tuple [.v (.int .i64 r.1), .v (.int .i64 r.2)])) (H26_0 : ∀ (a0 : List Int) (a1 : List Int) r, ref04_Broadcast fu a0 a1 = some r → cp 26 [.arr a0.length (lm (ik .i64) a0), .arr a1.length (lm (ik .i64) a1)] = some (.tuple [.fresh 1 r.1.length (lm (ik .i64) r.1), .v (.int .i64 r.2)])) (H23_0 : ∀ (a0 : List Int) (a1 : List Int) r, ref04_SameInts fu a0 a1 = some r → cp 23 [.arr a0.length (lm (ik .i64) a0), .arr a1.length (lm (ik .i64) a1)] = some (.v (.bool r))) (H20_0 : ∀ (a0 : List Int) (a1 : Int) r, ref04_Index fu a0 a1 = some r → cp 20 [.arr a0.length (lm (ik .i64) a0), .v (.int .i64 a1)] = some (.tuple [.fresh 1 r.1.length (lm (ik .i64) r.1), .v (.int .i64 r.2)])) : J (go Try.prog noC cp noI 0 [] d28 fu (fin Try.prog [.tmp 6, .tmp 7] [3, 25]) (bodyOf Try.f28) (initE 0 [.arr x1.length (lm (ik .i64) x1), .arr x2.length (lm (ik .i64) x2), .v (.int .i64 x3)]) [] []) (ref04_From fu x1 x2 x3) e28 := by
  unfold ref04_From e28
  refine J.bind fun x4 h1 => ?_
  have e_h1 := H16_0 _ _ h1
  try simp only [NN, NT, LN] at e_h1
  conv => arg 1; simp (disch := first | assumption | decide | with_unfolding_all rfl | omega | (simp only [LN] <;> omega) | (simp only [RO, OF])) only [bodyOf, Try.f28, RR, RM, LN, TT, d28_at, ↓reduceIte, Nat.reduceEqDiff, Nat.reduceLT, Nat.reduceLeDiff, Nat.reduceAdd, Nat.reduceSub, Nat.reduceMul, Nat.reduceMod, Nat.reduceDiv, Nat.reduceBEq, e_h1]
  refine J.eq go_seq ?_
  conv => arg 1; simp (disch := first | assumption | decide | with_unfolding_all rfl | omega | (simp only [LN] <;> omega) | (simp only [RO, OF])) only [RR, RM, LN, TT, d28_at, ↓reduceIte, Nat.reduceEqDiff, Nat.reduceLT, Nat.reduceLeDiff, Nat.reduceAdd, Nat.reduceSub, Nat.reduceMul, Nat.reduceMod, Nat.reduceDiv, Nat.reduceBEq, e_h1]
  refine J.ite (fun h2 => ?_) (fun h2 => ?_)
  · have h2' := decide_eq_true h2
    conv => arg 1; simp (disch := first | assumption | decide | with_unfolding_all rfl | omega | (simp only [LN] <;> omega) | (simp only [RO, OF])) only [RR, RM, LN, TT, d28_at, ↓reduceIte, Nat.reduceEqDiff, Nat.reduceLT, Nat.reduceLeDiff, Nat.reduceAdd, Nat.reduceSub, Nat.reduceMul, Nat.reduceMod, Nat.reduceDiv, Nat.reduceBEq, e_h1, h2']
    refine J.eq ret_seq ?_
    refine J.bind fun x5 h3 => ?_
    have e_h3 := H16_0 _ _ h3
    try simp only [NN, NT, LN] at e_h3
    conv => arg 1; simp (disch := first | assumption | decide | with_unfolding_all rfl | omega | (simp only [LN] <;> omega) | (simp only [RO, OF])) only [RR, RM, LN, TT, d28_at, ↓reduceIte, Nat.reduceEqDiff, Nat.reduceLT, Nat.reduceLeDiff, Nat.reduceAdd, Nat.reduceSub, Nat.reduceMul, Nat.reduceMod, Nat.reduceDiv, Nat.reduceBEq, e_h1, h2', e_h3]
    refine J.eq go_seq ?_
    conv => arg 1; simp (disch := first | assumption | decide | with_unfolding_all rfl | omega | (simp only [LN] <;> omega) | (simp only [RO, OF])) only [RR, RM, LN, TT, d28_at, ↓reduceIte, Nat.reduceEqDiff, Nat.reduceLT, Nat.reduceLeDiff, Nat.reduceAdd, Nat.reduceSub, Nat.reduceMul, Nat.reduceMod, Nat.reduceDiv, Nat.reduceBEq, e_h1, h2', e_h3]
    refine J.ite (fun h4 => ?_) (fun h4 => ?_)
    · have h4' := decide_eq_true h4
      conv => arg 1; simp (disch := first | assumption | decide | with_unfolding_all rfl | omega | (simp only [LN] <;> omega) | (simp only [RO, OF])) only [RR, RM, LN, TT, d28_at, ↓reduceIte, Nat.reduceEqDiff, Nat.reduceLT, Nat.reduceLeDiff, Nat.reduceAdd, Nat.reduceSub, Nat.reduceMul, Nat.reduceMod, Nat.reduceDiv, Nat.reduceBEq, e_h1, h2', e_h3, h4']
      refine J.eq ret_seq ?_
      refine J.bind fun x6 h5 => ?_
      have e_h5 := H26_0 _ _ _ h5
      try simp only [NN, NT, LN] at e_h5
      conv => arg 1; simp (disch := first | assumption | decide | with_unfolding_all rfl | omega | (simp only [LN] <;> omega) | (simp only [RO, OF])) only [RR, RM, LN, TT, d28_at, ↓reduceIte, Nat.reduceEqDiff, Nat.reduceLT, Nat.reduceLeDiff, Nat.reduceAdd, Nat.reduceSub, Nat.reduceMul, Nat.reduceMod, Nat.reduceDiv, Nat.reduceBEq, e_h1, h2', e_h3, h4', e_h5]
      refine J.joinS (fun (t : Unit) => ([(0, .arr x1.length (lm (ik .i64) x1)), (1, .arr x2.length (lm (ik .i64) x2)), (2, .v (.int .i64 x3)), (10, .v (.int .i64 x5.1))], [])) (fun t => ref04_From_k1 fu x1 x2 x3 x5) ?_ (fun hj1 => ?_)
      · rintro ⟨⟩
        show J _ (ref04_From_k1 fu x1 x2 x3 x5) _
        unfold ref04_From_k1
        refine J.joinS (fun (t : Unit) => ([(0, .arr x1.length (lm (ik .i64) x1)), (1, .arr x2.length (lm (ik .i64) x2)), (2, .v (.int .i64 x3))], [])) (fun t => ref04_From_k2 fu x1 x2 x3) ?_ (fun hj2 => ?_)
        · rintro ⟨⟩
          show J _ (ref04_From_k2 fu x1 x2 x3) _
          unfold ref04_From_k2
          refine J.bind fun x7 h6 => ?_
          have e_h6 := H20_0 _ _ _ h6
          try simp only [NN, NT, LN] at e_h6
          conv => arg 1; simp (disch := first | assumption | decide | with_unfolding_all rfl | omega | (simp only [LN] <;> omega) | (simp only [RO, OF])) only [RR, RM, LN, TT, d28_at, ↓reduceIte, Nat.reduceEqDiff, Nat.reduceLT, Nat.reduceLeDiff, Nat.reduceAdd, Nat.reduceSub, Nat.reduceMul, Nat.reduceMod, Nat.reduceDiv, Nat.reduceBEq, e_h1, h2', e_h3, h4', e_h5, e_h6]
          refine J.eq go_seq ?_
          conv => arg 1; simp (disch := first | assumption | decide | with_unfolding_all rfl | omega | (simp only [LN] <;> omega) | (simp only [RO, OF])) only [RR, RM, LN, TT, d28_at, ↓reduceIte, Nat.reduceEqDiff, Nat.reduceLT, Nat.reduceLeDiff, Nat.reduceAdd, Nat.reduceSub, Nat.reduceMul, Nat.reduceMod, Nat.reduceDiv, Nat.reduceBEq, e_h1, h2', e_h3, h4', e_h5, e_h6]
          unfold ref04_From_W1
          refine J.loop (fun (s : Int × Int) => ([(0, .arr x1.length (lm (ik .i64) x1)), (14, .own (0, 60, 0) 0 x7.1.length x7.1.length), (16, .v (.int .i64 (wk .i64 ((x2.length : Int) - (x1.length : Int))))), (17, .v (.int .i64 s.1)), (18, .v (.int .i64 s.2))], [((0, 60, 0), .sl true true 1 x7.1.length (lm (ik .i64) x7.1))])) (fun next s => ref04_From_L1 fu x1 x2 x7 (fun x12 x13 => next (x12, x13)) s.1 s.2) (s0 := (0, 0)) ?_ ?_ ?_
          · first | rfl | (simp only [LN, NN, NT])
          · first | (simp (disch := first | assumption | decide | with_unfolding_all rfl | omega | (simp only [LN] <;> omega) | (simp only [RO, OF])) only [RR, ↓reduceIte, Nat.reduceEqDiff, Nat.reduceLT, Nat.reduceLeDiff, Nat.reduceAdd, Nat.reduceSub, Nat.reduceMul, Nat.reduceMod, Nat.reduceDiv, Nat.reduceBEq, LN, NN, NT]; done) | rfl
          rintro next k1 hn1 ⟨x12, x13⟩
          let nx1 : Int → Int → Option (Int × Int) := (fun x12 x13 => next (x12, x13))
          show J _ (ref04_From_L1 fu x1 x2 x7 nx1 x12 x13) _
          unfold ref04_From_L1
          refine J.eq go_seq ?_
          conv => arg 1; simp (disch := first | assumption | decide | with_unfolding_all rfl | omega | (simp only [LN] <;> omega) | (simp only [RO, OF])) only [RR, RM, LN, TT, d28_at, ↓reduceIte, Nat.reduceEqDiff, Nat.reduceLT, Nat.reduceLeDiff, Nat.reduceAdd, Nat.reduceSub, Nat.reduceMul, Nat.reduceMod, Nat.reduceDiv, Nat.reduceBEq, e_h1, h2', e_h3, h4', e_h5, e_h6]
          refine J.ite (fun h7 => ?_) (fun h7 => ?_)
          · have h7' := decide_eq_true h7
            have h7'' : decide ((x1.length : Int) ≤ x13) = false := decide_eq_false (by omega)
            conv => arg 1; simp (disch := first | assumption | decide | with_unfolding_all rfl | omega | (simp only [LN] <;> omega) | (simp only [RO, OF])) only [RR, RM, LN, TT, d28_at, ↓reduceIte, Nat.reduceEqDiff, Nat.reduceLT, Nat.reduceLeDiff, Nat.reduceAdd, Nat.reduceSub, Nat.reduceMul, Nat.reduceMod, Nat.reduceDiv, Nat.reduceBEq, e_h1, h2', e_h3, h4', e_h5, e_h6, h7'', h7']
            refine J.eq ret_seq ?_
            refine J.eq go_seq ?_
            refine J.at fun x18 h8 h9 h10 => ?_
            conv => arg 1; simp (disch := first | assumption | decide | with_unfolding_all rfl | omega | (simp only [LN] <;> omega) | (simp only [RO, OF])) only [RR, RM, LN, TT, d28_at, ↓reduceIte, Nat.reduceEqDiff, Nat.reduceLT, Nat.reduceLeDiff, Nat.reduceAdd, Nat.reduceSub, Nat.reduceMul, Nat.reduceMod, Nat.reduceDiv, Nat.reduceBEq, e_h1, h2', e_h3, h4', e_h5, e_h6, h7'', h7', lm_ik h10]
            refine J.joinS (fun (t : Int) => ([(0, .arr x1.length (lm (ik .i64) x1)), (14, .own (0, 60, 0) 0 x7.1.length x7.1.length), (16, .v (.int .i64 (wk .i64 ((x2.length : Int) - (x1.length : Int))))), (17, .v (.int .i64 x12)), (18, .v (.int .i64 x13)), (19, .v (.int .i64 t))], [((0, 60, 0), .sl true true 1 x7.1.length (lm (ik .i64) x7.1))])) (fun t => ref04_From_k3 fu nx1 x1 x12 x13 t) ?_ (fun hj3 => ?_)
            · rintro x19
              show J _ (ref04_From_k3 fu nx1 x1 x12 x13 x19) _
              unfold ref04_From_k3
              refine J.at fun x20 h11 h12 h13 => ?_
              conv => arg 1; simp (disch := first | assumption | decide | with_unfolding_all rfl | omega | (simp only [LN] <;> omega) | (simp only [RO, OF])) only [RR, RM, LN, TT, d28_at, ↓reduceIte, Nat.reduceEqDiff, Nat.reduceLT, Nat.reduceLeDiff, Nat.reduceAdd, Nat.reduceSub, Nat.reduceMul, Nat.reduceMod, Nat.reduceDiv, Nat.reduceBEq, e_h1, h2', e_h3, h4', e_h5, e_h6, h7'', h7', lm_ik h10, lm_ik h13]
              refine J.eq ret_seq ?_
              conv => arg 1; simp (disch := first | assumption | decide | with_unfolding_all rfl | omega | (simp only [LN] <;> omega) | (simp only [RO, OF])) only [RR, RM, LN, TT, d28_at, ↓reduceIte, Nat.reduceEqDiff, Nat.reduceLT, Nat.reduceLeDiff, Nat.reduceAdd, Nat.reduceSub, Nat.reduceMul, Nat.reduceMod, Nat.reduceDiv, Nat.reduceBEq, e_h1, h2', e_h3, h4', e_h5, e_h6, h7'', h7', lm_ik h10, lm_ik h13]
              refine J.next (s := (wk .i64 ((wk .i64 (x12 * x20)) + x19), wk .i64 (x13 + 1))) hn1 ?_ ?_
              · first | rfl | (simp only [LN, NN, NT])
              · first | (simp (disch := first | assumption | decide | with_unfolding_all rfl | omega | (simp only [LN] <;> omega) | (simp only [RO, OF])) only [RR, ↓reduceIte, Nat.reduceEqDiff, Nat.reduceLT, Nat.reduceLeDiff, Nat.reduceAdd, Nat.reduceSub, Nat.reduceMul, Nat.reduceMod, Nat.reduceDiv, Nat.reduceBEq, LN, NN, NT]; done) | rfl
            · refine J.at fun x21 h14 h15 h16 => ?_
              conv => arg 1; simp (disch := first | assumption | decide | with_unfolding_all rfl | omega | (simp only [LN] <;> omega) | (simp only [RO, OF])) only [RR, RM, LN, TT, d28_at, ↓reduceIte, Nat.reduceEqDiff, Nat.reduceLT, Nat.reduceLeDiff, Nat.reduceAdd, Nat.reduceSub, Nat.reduceMul, Nat.reduceMod, Nat.reduceDiv, Nat.reduceBEq, e_h1, h2', e_h3, h4', e_h5, e_h6, h7'', h7', lm_ik h10, lm_ik h16]
              refine J.ite (fun h17 => ?_) (fun h17 => ?_)
              · have h17' := decide_eq_true h17
                conv => arg 1; simp (disch := first | assumption | decide | with_unfolding_all rfl | omega | (simp only [LN] <;> omega) | (simp only [RO, OF])) only [RR, RM, LN, TT, d28_at, ↓reduceIte, Nat.reduceEqDiff, Nat.reduceLT, Nat.reduceLeDiff, Nat.reduceAdd, Nat.reduceSub, Nat.reduceMul, Nat.reduceMod, Nat.reduceDiv, Nat.reduceBEq, e_h1, h2', e_h3, h4', e_h5, e_h6, h7'', h7', lm_ik h10, lm_ik h16, h17']
                refine J.jmp (t := 0) hj3 ?_ ?_
                · first | rfl | (simp only [LN, NN, NT])
                · first | (simp (disch := first | assumption | decide | with_unfolding_all rfl | omega | (simp only [LN] <;> omega) | (simp only [RO, OF])) only [RR, ↓reduceIte, Nat.reduceEqDiff, Nat.reduceLT, Nat.reduceLeDiff, Nat.reduceAdd, Nat.reduceSub, Nat.reduceMul, Nat.reduceMod, Nat.reduceDiv, Nat.reduceBEq, LN, NN, NT]; done) | rfl
              · have h17' := decide_eq_false h17
                conv => arg 1; simp (disch := first | assumption | decide | with_unfolding_all rfl | omega | (simp only [LN] <;> omega) | (simp only [RO, OF])) only [RR, RM, LN, TT, d28_at, ↓reduceIte, Nat.reduceEqDiff, Nat.reduceLT, Nat.reduceLeDiff, Nat.reduceAdd, Nat.reduceSub, Nat.reduceMul, Nat.reduceMod, Nat.reduceDiv, Nat.reduceBEq, e_h1, h2', e_h3, h4', e_h5, e_h6, h7'', h7', lm_ik h10, lm_ik h16, h17']
                refine J.jmp (t := x18) hj3 ?_ ?_
                · first | rfl | (simp only [LN, NN, NT])
                · first | (simp (disch := first | assumption | decide | with_unfolding_all rfl | omega | (simp only [LN] <;> omega) | (simp only [RO, OF])) only [RR, ↓reduceIte, Nat.reduceEqDiff, Nat.reduceLT, Nat.reduceLeDiff, Nat.reduceAdd, Nat.reduceSub, Nat.reduceMul, Nat.reduceMod, Nat.reduceDiv, Nat.reduceBEq, LN, NN, NT]; done) | rfl
          · have h7' := decide_eq_false h7
            have h7'' : decide ((x1.length : Int) ≤ x13) = true := decide_eq_true (by omega)
            conv => arg 1; simp (disch := first | assumption | decide | with_unfolding_all rfl | omega | (simp only [LN] <;> omega) | (simp only [RO, OF])) only [RR, RM, LN, TT, d28_at, ↓reduceIte, Nat.reduceEqDiff, Nat.reduceLT, Nat.reduceLeDiff, Nat.reduceAdd, Nat.reduceSub, Nat.reduceMul, Nat.reduceMod, Nat.reduceDiv, Nat.reduceBEq, e_h1, h2', e_h3, h4', e_h5, e_h6, h7'', h7']
            refine J.eq ret_seq ?_
            refine J.some ?_
            simp (disch := first | assumption | decide | with_unfolding_all rfl | omega | (simp only [LN] <;> omega) | (simp only [RO, OF])) only [RR, RM, LN, TT, d28_at, ↓reduceIte, Nat.reduceEqDiff, Nat.reduceLT, Nat.reduceLeDiff, Nat.reduceAdd, Nat.reduceSub, Nat.reduceMul, Nat.reduceMod, Nat.reduceDiv, Nat.reduceBEq, e_h1, h2', e_h3, h4', e_h5, e_h6, h7'', h7', FF, LN, NN, NT]
        · refine J.eq go_seq ?_
          conv => arg 1; simp (disch := first | assumption | decide | with_unfolding_all rfl | omega | (simp only [LN] <;> omega) | (simp only [RO, OF])) only [RR, RM, LN, TT, d28_at, ↓reduceIte, Nat.reduceEqDiff, Nat.reduceLT, Nat.reduceLeDiff, Nat.reduceAdd, Nat.reduceSub, Nat.reduceMul, Nat.reduceMod, Nat.reduceDiv, Nat.reduceBEq, e_h1, h2', e_h3, h4', e_h5]
          refine J.ite (fun h18 => ?_) (fun h18 => ?_)
          · have h18' := decide_eq_true h18
            have h18'' : decide (0 ≤ x3) = false := decide_eq_false (by omega)
            conv => arg 1; simp (disch := first | assumption | decide | with_unfolding_all rfl | omega | (simp only [LN] <;> omega) | (simp only [RO, OF])) only [RR, RM, LN, TT, d28_at, ↓reduceIte, Nat.reduceEqDiff, Nat.reduceLT, Nat.reduceLeDiff, Nat.reduceAdd, Nat.reduceSub, Nat.reduceMul, Nat.reduceMod, Nat.reduceDiv, Nat.reduceBEq, e_h1, h2', e_h3, h4', e_h5, h18'', h18']
            refine J.eq ret_seq ?_
            refine J.some ?_
            simp (disch := first | assumption | decide | with_unfolding_all rfl | omega | (simp only [LN] <;> omega) | (simp only [RO, OF])) only [RR, RM, LN, TT, d28_at, ↓reduceIte, Nat.reduceEqDiff, Nat.reduceLT, Nat.reduceLeDiff, Nat.reduceAdd, Nat.reduceSub, Nat.reduceMul, Nat.reduceMod, Nat.reduceDiv, Nat.reduceBEq, e_h1, h2', e_h3, h4', e_h5, h18'', h18', FF, LN, NN, NT]
          · have h18' := decide_eq_false h18
            have h18'' : decide (0 ≤ x3) = true := decide_eq_true (by omega)
            conv => arg 1; simp (disch := first | assumption | decide | with_unfolding_all rfl | omega | (simp only [LN] <;> omega) | (simp only [RO, OF])) only [RR, RM, LN, TT, d28_at, ↓reduceIte, Nat.reduceEqDiff, Nat.reduceLT, Nat.reduceLeDiff, Nat.reduceAdd, Nat.reduceSub, Nat.reduceMul, Nat.reduceMod, Nat.reduceDiv, Nat.reduceBEq, e_h1, h2', e_h3, h4', e_h5, h18'', h18']
            refine J.eq ret_seq ?_
            conv => arg 1; simp (disch := first | assumption | decide | with_unfolding_all rfl | omega | (simp only [LN] <;> omega) | (simp only [RO, OF])) only [RR, RM, LN, TT, d28_at, ↓reduceIte, Nat.reduceEqDiff, Nat.reduceLT, Nat.reduceLeDiff, Nat.reduceAdd, Nat.reduceSub, Nat.reduceMul, Nat.reduceMod, Nat.reduceDiv, Nat.reduceBEq, e_h1, h2', e_h3, h4', e_h5, h18'', h18']
            refine J.ite (fun h19 => ?_) (fun h19 => ?_)
            · have h19' := decide_eq_true h19
              have h19'' : decide (x3 < x5.1) = false := decide_eq_false (by omega)
              refine J.some ?_
              simp (disch := first | assumption | decide | with_unfolding_all rfl | omega | (simp only [LN] <;> omega) | (simp only [RO, OF])) only [RR, RM, LN, TT, d28_at, ↓reduceIte, Nat.reduceEqDiff, Nat.reduceLT, Nat.reduceLeDiff, Nat.reduceAdd, Nat.reduceSub, Nat.reduceMul, Nat.reduceMod, Nat.reduceDiv, Nat.reduceBEq, e_h1, h2', e_h3, h4', e_h5, h18'', h18', h19'', h19', FF, LN, NN, NT]
            · have h19' := decide_eq_false h19
              have h19'' : decide (x3 < x5.1) = true := decide_eq_true (by omega)
              conv => arg 1; simp (disch := first | assumption | decide | with_unfolding_all rfl | omega | (simp only [LN] <;> omega) | (simp only [RO, OF])) only [RR, RM, LN, TT, d28_at, ↓reduceIte, Nat.reduceEqDiff, Nat.reduceLT, Nat.reduceLeDiff, Nat.reduceAdd, Nat.reduceSub, Nat.reduceMul, Nat.reduceMod, Nat.reduceDiv, Nat.reduceBEq, e_h1, h2', e_h3, h4', e_h5, h18'', h18', h19'', h19']
              refine J.jmp (t := ()) hj2 ?_ ?_
              · first | rfl | (simp only [LN, NN, NT])
              · first | (simp (disch := first | assumption | decide | with_unfolding_all rfl | omega | (simp only [LN] <;> omega) | (simp only [RO, OF])) only [RR, ↓reduceIte, Nat.reduceEqDiff, Nat.reduceLT, Nat.reduceLeDiff, Nat.reduceAdd, Nat.reduceSub, Nat.reduceMul, Nat.reduceMod, Nat.reduceDiv, Nat.reduceBEq, LN, NN, NT]; done) | rfl
      · refine J.eq go_seq ?_
        conv => arg 1; simp (disch := first | assumption | decide | with_unfolding_all rfl | omega | (simp only [LN] <;> omega) | (simp only [RO, OF])) only [RR, RM, LN, TT, d28_at, ↓reduceIte, Nat.reduceEqDiff, Nat.reduceLT, Nat.reduceLeDiff, Nat.reduceAdd, Nat.reduceSub, Nat.reduceMul, Nat.reduceMod, Nat.reduceDiv, Nat.reduceBEq, e_h1, h2', e_h3, h4', e_h5]
        refine J.ite (fun h20 => ?_) (fun h20 => ?_)
        · have h20' := decide_eq_true h20
          refine J.bind fun x22 h21 => ?_
          have e_h21 := H23_0 _ _ _ h21
          try simp only [NN, NT, LN] at e_h21
          conv => arg 1; simp (disch := first | assumption | decide | with_unfolding_all rfl | omega | (simp only [LN] <;> omega) | (simp only [RO, OF])) only [RR, RM, LN, TT, d28_at, ↓reduceIte, Nat.reduceEqDiff, Nat.reduceLT, Nat.reduceLeDiff, Nat.reduceAdd, Nat.reduceSub, Nat.reduceMul, Nat.reduceMod, Nat.reduceDiv, Nat.reduceBEq, e_h1, h2', e_h3, h4', e_h5, h20', e_h21]
          refine J.eq ret_seq ?_
          conv => arg 1; simp (disch := first | assumption | decide | with_unfolding_all rfl | omega | (simp only [LN] <;> omega) | (simp only [RO, OF])) only [RR, RM, LN, TT, d28_at, ↓reduceIte, Nat.reduceEqDiff, Nat.reduceLT, Nat.reduceLeDiff, Nat.reduceAdd, Nat.reduceSub, Nat.reduceMul, Nat.reduceMod, Nat.reduceDiv, Nat.reduceBEq, e_h1, h2', e_h3, h4', e_h5, h20', e_h21]
          refine J.ite (fun h22 => ?_) (fun h22 => ?_)
          · have h22' : x22 = true := h22
            conv => arg 1; simp (disch := first | assumption | decide | with_unfolding_all rfl | omega | (simp only [LN] <;> omega) | (simp only [RO, OF])) only [RR, RM, LN, TT, d28_at, ↓reduceIte, Nat.reduceEqDiff, Nat.reduceLT, Nat.reduceLeDiff, Nat.reduceAdd, Nat.reduceSub, Nat.reduceMul, Nat.reduceMod, Nat.reduceDiv, Nat.reduceBEq, e_h1, h2', e_h3, h4', e_h5, h20', e_h21, h22']
            refine J.jmp (t := ()) hj1 ?_ ?_
            · first | rfl | (simp only [LN, NN, NT])
            · first | (simp (disch := first | assumption | decide | with_unfolding_all rfl | omega | (simp only [LN] <;> omega) | (simp only [RO, OF])) only [RR, ↓reduceIte, Nat.reduceEqDiff, Nat.reduceLT, Nat.reduceLeDiff, Nat.reduceAdd, Nat.reduceSub, Nat.reduceMul, Nat.reduceMod, Nat.reduceDiv, Nat.reduceBEq, LN, NN, NT]; done) | rfl
          · have h22' : x22 = false := Bool.eq_false_iff.2 h22
            refine J.some ?_
            simp (disch := first | assumption | decide | with_unfolding_all rfl | omega | (simp only [LN] <;> omega) | (simp only [RO, OF])) only [RR, RM, LN, TT, d28_at, ↓reduceIte, Nat.reduceEqDiff, Nat.reduceLT, Nat.reduceLeDiff, Nat.reduceAdd, Nat.reduceSub, Nat.reduceMul, Nat.reduceMod, Nat.reduceDiv, Nat.reduceBEq, e_h1, h2', e_h3, h4', e_h5, h20', e_h21, h22', FF, LN, NN, NT]
        · have h20' := decide_eq_false h20
          conv => arg 1; simp (disch := first | assumption | decide | with_unfolding_all rfl | omega | (simp only [LN] <;> omega) | (simp only [RO, OF])) only [RR, RM, LN, TT, d28_at, ↓reduceIte, Nat.reduceEqDiff, Nat.reduceLT, Nat.reduceLeDiff, Nat.reduceAdd, Nat.reduceSub, Nat.reduceMul, Nat.reduceMod, Nat.reduceDiv, Nat.reduceBEq, e_h1, h2', e_h3, h4', e_h5, h20']
          refine J.eq ret_seq ?_
          refine J.some ?_
          simp (disch := first | assumption | decide | with_unfolding_all rfl | omega | (simp only [LN] <;> omega) | (simp only [RO, OF])) only [RR, RM, LN, TT, d28_at, ↓reduceIte, Nat.reduceEqDiff, Nat.reduceLT, Nat.reduceLeDiff, Nat.reduceAdd, Nat.reduceSub, Nat.reduceMul, Nat.reduceMod, Nat.reduceDiv, Nat.reduceBEq, e_h1, h2', e_h3, h4', e_h5, h20', FF, LN, NN, NT]
    · have h4' := decide_eq_false h4
      refine J.some ?_
      simp (disch := first | assumption | decide | with_unfolding_all rfl | omega | (simp only [LN] <;> omega) | (simp only [RO, OF])) only [RR, RM, LN, TT, d28_at, ↓reduceIte, Nat.reduceEqDiff, Nat.reduceLT, Nat.reduceLeDiff, Nat.reduceAdd, Nat.reduceSub, Nat.reduceMul, Nat.reduceMod, Nat.reduceDiv, Nat.reduceBEq, e_h1, h2', e_h3, h4', FF, LN, NN, NT]
  · have h2' := decide_eq_false h2
    refine J.some ?_
    simp (disch := first | assumption | decide | with_unfolding_all rfl | omega | (simp only [LN] <;> omega) | (simp only [RO, OF])) only [RR, RM, LN, TT, d28_at, ↓reduceIte, Nat.reduceEqDiff, Nat.reduceLT, Nat.reduceLeDiff, Nat.reduceAdd, Nat.reduceSub, Nat.reduceMul, Nat.reduceMod, Nat.reduceDiv, Nat.reduceBEq, e_h1, h2', FF, LN, NN, NT]
noncomputable def t28 (fu : Nat) : CallP := orE 16 (mkC (fun (t : List Int) => ([.arr t.length (lm (ik .i64) t)] : List AV)) (fun t => ref04_Size fu t) e16) (orE 26 (mkC (fun (t : (List Int) × (List Int)) => ([.arr t.1.length (lm (ik .i64) t.1), .arr t.2.length (lm (ik .i64) t.2)] : List AV)) (fun t => ref04_Broadcast fu t.1 t.2) e26) (orE 23 (mkC (fun (t : (List Int) × (List Int)) => ([.arr t.1.length (lm (ik .i64) t.1), .arr t.2.length (lm (ik .i64) t.2)] : List AV)) (fun t => ref04_SameInts fu t.1 t.2) e23) (orE 20 (mkC (fun (t : (List Int) × Int) => ([.arr t.1.length (lm (ik .i64) t.1), .v (.int .i64 t.2)] : List AV)) (fun t => ref04_Index fu t.1 t.2) e20) (noP))))
theorem t28_ok (fu : Nat) : CpOK Try.prog (t28 fu ) := orE_ok (orE_ok (orE_ok (orE_ok (noP_ok) (mkC_ok (fun t b h => ok20 fu t.1 t.2  b h))) (mkC_ok (fun t b h => ok23 fu t.1 t.2  b h))) (mkC_ok (fun t b h => ok26 fu t.1 t.2  b h))) (mkC_ok (fun t b h => ok16 fu t  b h))
theorem ok28 (fu : Nat) (x1 : List Int) (x2 : List Int) (x3 : Int) (r) (h : ref04_From fu x1 x2 x3 = some r) : PureOK Try.prog 28 [.arr x1.length (lm (ik .i64) x1), .arr x2.length (lm (ik .i64) x2), .v (.int .i64 x3)] (e28 r) :=
  pure_J mixed (cp := t28 fu ) (t28_ok fu  ) noI_ok i28 (w28 _ fu x1 x2 x3  (fun a0 r h => orE_hit (mkC_at (a := a0) (by intro a b h; first | (exact rfl) | (simp only [INJ] at h; first | exact h | (simp_all [Prod.ext_iff]) )) h)) (fun a0 a1 r h => orE_miss (by decide) (orE_hit (mkC_at (a := (a0, a1)) (by intro a b h; first | (exact rfl) | (simp only [INJ] at h; first | exact h | (simp_all [Prod.ext_iff]) )) h))) (fun a0 a1 r h => orE_miss (by decide) (orE_miss (by decide) (orE_hit (mkC_at (a := (a0, a1)) (by intro a b h; first | (exact rfl) | (simp only [INJ] at h; first | exact h | (simp_all [Prod.ext_iff]) )) h)))) (fun a0 a1 r h => orE_miss (by decide) (orE_miss (by decide) (orE_miss (by decide) (orE_hit (mkC_at (a := (a0, a1)) (by intro a b h; first | (exact rfl) | (simp only [INJ] at h; first | exact h | (simp_all [Prod.ext_iff]) )) h)))))) h
end Go.Av
