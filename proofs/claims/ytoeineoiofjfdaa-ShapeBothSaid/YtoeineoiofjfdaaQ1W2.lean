/- The walks of the plain functions, part 2. Made by a program of mine. Conditions: none. -/
import Derived.Test.YtoeineoiofjfdaaQ1W1
set_option linter.unusedVariables false
set_option linter.unusedSimpArgs false
set_option linter.defProp false
set_option maxRecDepth 4000
open Go Go.Proofs
namespace Go.Av
/-! 13: lattice/latticelaw04.awake -/
def d13 : List (Nat × List Nat) := [(0, [0]), (0, []), (0, [21, 22, 23, 24, 25]), (0, []), (0, [26, 27, 28, 29, 30]), (0, []), (0, [31, 32, 33, 34, 35]), (0, []), (0, [36, 37, 38, 39, 40, 41]), (0, []), (0, [42, 43, 44, 45, 46, 47]), (0, []), (0, [48, 49, 50, 51, 52, 53]), (0, []), (0, [54, 55, 56, 57]), (0, []), (0, [58, 59, 60, 61, 62]), (0, []), (0, [17, 63, 64, 65, 66, 67]), (0, []), (0, [2, 4, 6, 8, 10, 12, 14, 16, 18, 68, 69, 70, 71, 72, 73, 74, 75, 76, 77, 78, 79, 80, 81, 82, 83, 84, 85, 86, 87, 88, 89, 90, 91, 92, 93, 94, 95, 96, 97, 98, 99, 100, 101]), (0, []), (0, [3, 5, 9, 15, 102, 103, 104, 105, 106, 107, 108, 109, 110, 111, 112, 113, 114, 115, 116, 117, 118, 119, 120, 121, 122, 123, 124, 125, 126, 127, 128, 129, 130, 131, 132, 133, 134, 135, 2000000000]), (0, []), (0, [1, 7, 11, 13, 19, 20, 136, 137, 138, 139, 140, 141, 142, 143, 144, 145, 146, 147, 148, 149, 150, 151, 152, 153, 154, 155])]
def d13_at := And.intro (show d13.getD 0 (0, []) = (0, [0]) from rfl) <| And.intro (show d13.getD 1 (0, []) = (0, []) from rfl) <| And.intro (show d13.getD 2 (0, []) = (0, [21, 22, 23, 24, 25]) from rfl) <| And.intro (show d13.getD 3 (0, []) = (0, []) from rfl) <| And.intro (show d13.getD 4 (0, []) = (0, [26, 27, 28, 29, 30]) from rfl) <| And.intro (show d13.getD 5 (0, []) = (0, []) from rfl) <| And.intro (show d13.getD 6 (0, []) = (0, [31, 32, 33, 34, 35]) from rfl) <| And.intro (show d13.getD 7 (0, []) = (0, []) from rfl) <| And.intro (show d13.getD 8 (0, []) = (0, [36, 37, 38, 39, 40, 41]) from rfl) <| And.intro (show d13.getD 9 (0, []) = (0, []) from rfl) <| And.intro (show d13.getD 10 (0, []) = (0, [42, 43, 44, 45, 46, 47]) from rfl) <| And.intro (show d13.getD 11 (0, []) = (0, []) from rfl) <| And.intro (show d13.getD 12 (0, []) = (0, [48, 49, 50, 51, 52, 53]) from rfl) <| And.intro (show d13.getD 13 (0, []) = (0, []) from rfl) <| And.intro (show d13.getD 14 (0, []) = (0, [54, 55, 56, 57]) from rfl) <| And.intro (show d13.getD 15 (0, []) = (0, []) from rfl) <| And.intro (show d13.getD 16 (0, []) = (0, [58, 59, 60, 61, 62]) from rfl) <| And.intro (show d13.getD 17 (0, []) = (0, []) from rfl) <| And.intro (show d13.getD 18 (0, []) = (0, [17, 63, 64, 65, 66, 67]) from rfl) <| And.intro (show d13.getD 19 (0, []) = (0, []) from rfl) <| And.intro (show d13.getD 20 (0, []) = (0, [2, 4, 6, 8, 10, 12, 14, 16, 18, 68, 69, 70, 71, 72, 73, 74, 75, 76, 77, 78, 79, 80, 81, 82, 83, 84, 85, 86, 87, 88, 89, 90, 91, 92, 93, 94, 95, 96, 97, 98, 99, 100, 101]) from rfl) <| And.intro (show d13.getD 21 (0, []) = (0, []) from rfl) <| And.intro (show d13.getD 22 (0, []) = (0, [3, 5, 9, 15, 102, 103, 104, 105, 106, 107, 108, 109, 110, 111, 112, 113, 114, 115, 116, 117, 118, 119, 120, 121, 122, 123, 124, 125, 126, 127, 128, 129, 130, 131, 132, 133, 134, 135, 2000000000]) from rfl) <| And.intro (show d13.getD 23 (0, []) = (0, []) from rfl) <| (show d13.getD 24 (0, []) = (0, [1, 7, 11, 13, 19, 20, 136, 137, 138, 139, 140, 141, 142, 143, 144, 145, 146, 147, 148, 149, 150, 151, 152, 153, 154, 155]) from rfl)
theorem i13 : finfo Try.prog 13 d13 = some ⟨bodyOf Try.f13, [.tmp 0], [4]⟩ := finfo_at Try.func13 rfl (by kernel_rfl) (by kernel_rfl)
def e13 : Bool → AV := fun r => .v (.bool r)
set_option maxHeartbeats 1000000 in
theorem w13 (cp : CallP) (fu : Nat) (H15_0 : ∀ (a0 : List Int) r, shape_Size fu a0 = some r → cp 15 [.arr a0.length (lm (ik .i64) a0)] = some (.tuple [.v (.int .i64 r.1), .v (.int .i64 r.2)])) (H17_0 : ∀ (a0 : List Int) r, shape_Strides fu a0 = some r → cp 17 [.arr a0.length (lm (ik .i64) a0)] = some (.tuple [.fresh 1 r.1.length (lm (ik .i64) r.1), .v (.int .i64 r.2)])) (H19_0 : ∀ (a0 : List Int) (a1 : Int) r, shape_Index fu a0 a1 = some r → cp 19 [.arr a0.length (lm (ik .i64) a0), .v (.int .i64 a1)] = some (.tuple [.fresh 1 r.1.length (lm (ik .i64) r.1), .v (.int .i64 r.2)])) (H21_0 : ∀ (a0 : List Int) (a1 : List Int) r, shape_Offset fu a0 a1 = some r → cp 21 [.arr a0.length (lm (ik .i64) a0), .arr a1.length (lm (ik .i64) a1)] = some (.tuple [.v (.int .i64 r.1), .v (.int .i64 r.2)])) (H25_0 : ∀ (a0 : List Int) (a1 : List Int) r, shape_Broadcast fu a0 a1 = some r → cp 25 [.arr a0.length (lm (ik .i64) a0), .arr a1.length (lm (ik .i64) a1)] = some (.tuple [.fresh 1 r.1.length (lm (ik .i64) r.1), .v (.int .i64 r.2)])) (H27_0 : ∀ (a0 : List Int) (a1 : List Int) (a2 : Int) r, shape_From fu a0 a1 a2 = some r → cp 27 [.arr a0.length (lm (ik .i64) a0), .arr a1.length (lm (ik .i64) a1), .v (.int .i64 a2)] = some (.tuple [.v (.int .i64 r.1), .v (.int .i64 r.2)])) (H51_0 : ∀ (a0 : Int) (a1 : Int) r, shape_Axis fu a0 a1 = some r → cp 51 [.v (.int .i64 a0), .v (.int .i64 a1)] = some (.tuple [.v (.int .i64 r.1), .v (.int .i64 r.2)])) (H52_0 : ∀ (a0 : List Int) (a1 : Int) r, shape_Axes fu a0 a1 = some r → cp 52 [.arr a0.length (lm (ik .i64) a0), .v (.int .i64 a1)] = some (.tuple [.fresh 1 r.1.length (lm (bk) r.1), .v (.int .i64 r.2)])) (H23_0 : ∀ (a0 : List Int) (a1 : List Int) r, ref04_SameInts fu a0 a1 = some r → cp 23 [.arr a0.length (lm (ik .i64) a0), .arr a1.length (lm (ik .i64) a1)] = some (.v (.bool r))) : J (go Try.prog noC cp noI 0 [] d13 fu (fin Try.prog [.tmp 0] [4]) (bodyOf Try.f13) (initE 0 []) [] []) (law04_awake fu) e13 := by
  unfold law04_awake e13
  refine J.bind fun x1 h1 => ?_
  have e_h1 := H15_0 _ _ h1
  try simp only [NN, NT, LN] at e_h1
  refine J.bind fun x2 h2 => ?_
  have e_h2 := H17_0 _ _ h2
  try simp only [NN, NT, LN] at e_h2
  refine J.bind fun x3 h3 => ?_
  have e_h3 := H19_0 _ _ _ h3
  try simp only [NN, NT, LN] at e_h3
  refine J.bind fun x4 h4 => ?_
  have e_h4 := H21_0 _ _ _ h4
  try simp only [NN, NT, LN] at e_h4
  refine J.bind fun x5 h5 => ?_
  have e_h5 := H25_0 _ _ _ h5
  try simp only [NN, NT, LN] at e_h5
  refine J.bind fun x6 h6 => ?_
  have e_h6 := H27_0 _ _ _ _ h6
  try simp only [NN, NT, LN] at e_h6
  refine J.bind fun x7 h7 => ?_
  have e_h7 := H51_0 _ _ _ h7
  try simp only [NN, NT, LN] at e_h7
  refine J.bind fun x8 h8 => ?_
  have e_h8 := H52_0 _ _ _ h8
  try simp only [NN, NT, LN] at e_h8
  refine J.bind fun x9 h9 => ?_
  have e_h9 := H15_0 _ _ h9
  try simp only [NN, NT, LN] at e_h9
  conv => arg 1; simp (disch := first | assumption | decide | with_unfolding_all rfl | omega | (simp only [LN] <;> omega) | (simp only [RO, OF])) only [bodyOf, Try.f13, RR, RM, LN, TT, d13_at, ↓reduceIte, Nat.reduceEqDiff, Nat.reduceLT, Nat.reduceLeDiff, Nat.reduceAdd, Nat.reduceSub, Nat.reduceMul, Nat.reduceMod, Nat.reduceDiv, Nat.reduceBEq, e_h1, e_h2, e_h3, e_h4, e_h5, e_h6, e_h7, e_h8, e_h9]
  refine J.joinS (fun (t : Bool) => ([(1, .v (.int .i64 x1.1)), (3, .own (0, 28, 0) 0 x2.1.length x2.1.length), (5, .own (0, 33, 0) 0 x3.1.length x3.1.length), (7, .v (.int .i64 x4.1)), (9, .own (0, 45, 0) 0 x5.1.length x5.1.length), (11, .v (.int .i64 x6.1)), (13, .v (.int .i64 x7.1)), (15, .own (0, 60, 0) 0 x8.1.length x8.1.length), (19, .v (.bool t))], [((0, 22, 0), .sl true true 1 2 ([.v (.int .i64 2), .v (.int .i64 3)])), ((0, 27, 0), .sl true true 1 3 ([.v (.int .i64 2), .v (.int .i64 3), .v (.int .i64 4)])), ((0, 28, 0), .sl true true 1 x2.1.length (lm (ik .i64) x2.1)), ((0, 32, 0), .sl true true 1 2 ([.v (.int .i64 2), .v (.int .i64 3)])), ((0, 33, 0), .sl true true 1 x3.1.length (lm (ik .i64) x3.1)), ((0, 37, 0), .sl true true 1 2 ([.v (.int .i64 2), .v (.int .i64 3)])), ((0, 38, 0), .sl true true 1 2 ([.v (.int .i64 1), .v (.int .i64 1)])), ((0, 43, 0), .sl true true 1 2 ([.v (.int .i64 3), .v (.int .i64 1)])), ((0, 44, 0), .sl true true 1 3 ([.v (.int .i64 2), .v (.int .i64 1), .v (.int .i64 4)])), ((0, 45, 0), .sl true true 1 x5.1.length (lm (ik .i64) x5.1)), ((0, 49, 0), .sl true true 1 2 ([.v (.int .i64 3), .v (.int .i64 1)])), ((0, 50, 0), .sl true true 1 3 ([.v (.int .i64 2), .v (.int .i64 3), .v (.int .i64 4)])), ((0, 59, 0), .sl true true 1 2 ([.v (.int .i64 0), .v (.int .i64 (-1))])), ((0, 60, 0), .sl true true 1 x8.1.length (lm (bk) x8.1)), ((0, 64, 0), .sl true true 1 2 ([.v (.int .i64 64), .v (.int .i64 65)]))])) (fun t => law04_awake_k1 fu x1 x2 x3 x4 x5 x6 x7 x8 t) ?_ (fun hj1 => ?_)
  · rintro x10
    show J _ (law04_awake_k1 fu x1 x2 x3 x4 x5 x6 x7 x8 x10) _
    unfold law04_awake_k1
    refine J.joinS (fun (t : Bool) => ([(1, .v (.int .i64 x1.1)), (7, .v (.int .i64 x4.1)), (11, .v (.int .i64 x6.1)), (13, .v (.int .i64 x7.1)), (19, .v (.bool x10)), (20, .v (.bool t))], [])) (fun t => law04_awake_k2 fu x1 x4 x6 x7 x10 t) ?_ (fun hj2 => ?_)
    · rintro x11
      show J _ (law04_awake_k2 fu x1 x4 x6 x7 x10 x11) _
      unfold law04_awake_k2
      refine J.eq go_seq ?_
      conv => arg 1; simp (disch := first | assumption | decide | with_unfolding_all rfl | omega | (simp only [LN] <;> omega) | (simp only [RO, OF])) only [RR, RM, LN, TT, d13_at, ↓reduceIte, Nat.reduceEqDiff, Nat.reduceLT, Nat.reduceLeDiff, Nat.reduceAdd, Nat.reduceSub, Nat.reduceMul, Nat.reduceMod, Nat.reduceDiv, Nat.reduceBEq, e_h1, e_h2, e_h3, e_h4, e_h5, e_h6, e_h7, e_h8, e_h9]
      refine J.ite (fun h10 => ?_) (fun h10 => ?_)
      · have h10' : x10 = true := h10
        conv => arg 1; simp (disch := first | assumption | decide | with_unfolding_all rfl | omega | (simp only [LN] <;> omega) | (simp only [RO, OF])) only [RR, RM, LN, TT, d13_at, ↓reduceIte, Nat.reduceEqDiff, Nat.reduceLT, Nat.reduceLeDiff, Nat.reduceAdd, Nat.reduceSub, Nat.reduceMul, Nat.reduceMod, Nat.reduceDiv, Nat.reduceBEq, e_h1, e_h2, e_h3, e_h4, e_h5, e_h6, e_h7, e_h8, e_h9, h10']
        refine J.ite (fun h11 => ?_) (fun h11 => ?_)
        · have h11' : x11 = true := h11
          conv => arg 1; simp (disch := first | assumption | decide | with_unfolding_all rfl | omega | (simp only [LN] <;> omega) | (simp only [RO, OF])) only [RR, RM, LN, TT, d13_at, ↓reduceIte, Nat.reduceEqDiff, Nat.reduceLT, Nat.reduceLeDiff, Nat.reduceAdd, Nat.reduceSub, Nat.reduceMul, Nat.reduceMod, Nat.reduceDiv, Nat.reduceBEq, e_h1, e_h2, e_h3, e_h4, e_h5, e_h6, e_h7, e_h8, e_h9, h10', h11']
          refine J.ite (fun h12 => ?_) (fun h12 => ?_)
          · have h12' := decide_eq_true h12
            conv => arg 1; simp (disch := first | assumption | decide | with_unfolding_all rfl | omega | (simp only [LN] <;> omega) | (simp only [RO, OF])) only [RR, RM, LN, TT, d13_at, ↓reduceIte, Nat.reduceEqDiff, Nat.reduceLT, Nat.reduceLeDiff, Nat.reduceAdd, Nat.reduceSub, Nat.reduceMul, Nat.reduceMod, Nat.reduceDiv, Nat.reduceBEq, e_h1, e_h2, e_h3, e_h4, e_h5, e_h6, e_h7, e_h8, e_h9, h10', h11', h12']
            refine J.ite (fun h13 => ?_) (fun h13 => ?_)
            · have h13' := decide_eq_true h13
              conv => arg 1; simp (disch := first | assumption | decide | with_unfolding_all rfl | omega | (simp only [LN] <;> omega) | (simp only [RO, OF])) only [RR, RM, LN, TT, d13_at, ↓reduceIte, Nat.reduceEqDiff, Nat.reduceLT, Nat.reduceLeDiff, Nat.reduceAdd, Nat.reduceSub, Nat.reduceMul, Nat.reduceMod, Nat.reduceDiv, Nat.reduceBEq, e_h1, e_h2, e_h3, e_h4, e_h5, e_h6, e_h7, e_h8, e_h9, h10', h11', h12', h13']
              refine J.ite (fun h14 => ?_) (fun h14 => ?_)
              · have h14' := decide_eq_true h14
                conv => arg 1; simp (disch := first | assumption | decide | with_unfolding_all rfl | omega | (simp only [LN] <;> omega) | (simp only [RO, OF])) only [RR, RM, LN, TT, d13_at, ↓reduceIte, Nat.reduceEqDiff, Nat.reduceLT, Nat.reduceLeDiff, Nat.reduceAdd, Nat.reduceSub, Nat.reduceMul, Nat.reduceMod, Nat.reduceDiv, Nat.reduceBEq, e_h1, e_h2, e_h3, e_h4, e_h5, e_h6, e_h7, e_h8, e_h9, h10', h11', h12', h13', h14']
                refine J.eq ret_seq ?_
                refine J.some ?_
                simp (disch := first | assumption | decide | with_unfolding_all rfl | omega | (simp only [LN] <;> omega) | (simp only [RO, OF])) only [RR, RM, LN, TT, d13_at, ↓reduceIte, Nat.reduceEqDiff, Nat.reduceLT, Nat.reduceLeDiff, Nat.reduceAdd, Nat.reduceSub, Nat.reduceMul, Nat.reduceMod, Nat.reduceDiv, Nat.reduceBEq, e_h1, e_h2, e_h3, e_h4, e_h5, e_h6, e_h7, e_h8, e_h9, h10', h11', h12', h13', h14', FF, LN, NN, NT]
              · have h14' := decide_eq_false h14
                conv => arg 1; simp (disch := first | assumption | decide | with_unfolding_all rfl | omega | (simp only [LN] <;> omega) | (simp only [RO, OF])) only [RR, RM, LN, TT, d13_at, ↓reduceIte, Nat.reduceEqDiff, Nat.reduceLT, Nat.reduceLeDiff, Nat.reduceAdd, Nat.reduceSub, Nat.reduceMul, Nat.reduceMod, Nat.reduceDiv, Nat.reduceBEq, e_h1, e_h2, e_h3, e_h4, e_h5, e_h6, e_h7, e_h8, e_h9, h10', h11', h12', h13', h14']
                refine J.eq ret_seq ?_
                refine J.some ?_
                simp (disch := first | assumption | decide | with_unfolding_all rfl | omega | (simp only [LN] <;> omega) | (simp only [RO, OF])) only [RR, RM, LN, TT, d13_at, ↓reduceIte, Nat.reduceEqDiff, Nat.reduceLT, Nat.reduceLeDiff, Nat.reduceAdd, Nat.reduceSub, Nat.reduceMul, Nat.reduceMod, Nat.reduceDiv, Nat.reduceBEq, e_h1, e_h2, e_h3, e_h4, e_h5, e_h6, e_h7, e_h8, e_h9, h10', h11', h12', h13', h14', FF, LN, NN, NT]
            · have h13' := decide_eq_false h13
              conv => arg 1; simp (disch := first | assumption | decide | with_unfolding_all rfl | omega | (simp only [LN] <;> omega) | (simp only [RO, OF])) only [RR, RM, LN, TT, d13_at, ↓reduceIte, Nat.reduceEqDiff, Nat.reduceLT, Nat.reduceLeDiff, Nat.reduceAdd, Nat.reduceSub, Nat.reduceMul, Nat.reduceMod, Nat.reduceDiv, Nat.reduceBEq, e_h1, e_h2, e_h3, e_h4, e_h5, e_h6, e_h7, e_h8, e_h9, h10', h11', h12', h13']
              refine J.eq ret_seq ?_
              refine J.some ?_
              simp (disch := first | assumption | decide | with_unfolding_all rfl | omega | (simp only [LN] <;> omega) | (simp only [RO, OF])) only [RR, RM, LN, TT, d13_at, ↓reduceIte, Nat.reduceEqDiff, Nat.reduceLT, Nat.reduceLeDiff, Nat.reduceAdd, Nat.reduceSub, Nat.reduceMul, Nat.reduceMod, Nat.reduceDiv, Nat.reduceBEq, e_h1, e_h2, e_h3, e_h4, e_h5, e_h6, e_h7, e_h8, e_h9, h10', h11', h12', h13', FF, LN, NN, NT]
          · have h12' := decide_eq_false h12
            conv => arg 1; simp (disch := first | assumption | decide | with_unfolding_all rfl | omega | (simp only [LN] <;> omega) | (simp only [RO, OF])) only [RR, RM, LN, TT, d13_at, ↓reduceIte, Nat.reduceEqDiff, Nat.reduceLT, Nat.reduceLeDiff, Nat.reduceAdd, Nat.reduceSub, Nat.reduceMul, Nat.reduceMod, Nat.reduceDiv, Nat.reduceBEq, e_h1, e_h2, e_h3, e_h4, e_h5, e_h6, e_h7, e_h8, e_h9, h10', h11', h12']
            refine J.eq ret_seq ?_
            refine J.some ?_
            simp (disch := first | assumption | decide | with_unfolding_all rfl | omega | (simp only [LN] <;> omega) | (simp only [RO, OF])) only [RR, RM, LN, TT, d13_at, ↓reduceIte, Nat.reduceEqDiff, Nat.reduceLT, Nat.reduceLeDiff, Nat.reduceAdd, Nat.reduceSub, Nat.reduceMul, Nat.reduceMod, Nat.reduceDiv, Nat.reduceBEq, e_h1, e_h2, e_h3, e_h4, e_h5, e_h6, e_h7, e_h8, e_h9, h10', h11', h12', FF, LN, NN, NT]
        · have h11' : x11 = false := Bool.eq_false_iff.2 h11
          conv => arg 1; simp (disch := first | assumption | decide | with_unfolding_all rfl | omega | (simp only [LN] <;> omega) | (simp only [RO, OF])) only [RR, RM, LN, TT, d13_at, ↓reduceIte, Nat.reduceEqDiff, Nat.reduceLT, Nat.reduceLeDiff, Nat.reduceAdd, Nat.reduceSub, Nat.reduceMul, Nat.reduceMod, Nat.reduceDiv, Nat.reduceBEq, e_h1, e_h2, e_h3, e_h4, e_h5, e_h6, e_h7, e_h8, e_h9, h10', h11']
          refine J.eq ret_seq ?_
          refine J.some ?_
          simp (disch := first | assumption | decide | with_unfolding_all rfl | omega | (simp only [LN] <;> omega) | (simp only [RO, OF])) only [RR, RM, LN, TT, d13_at, ↓reduceIte, Nat.reduceEqDiff, Nat.reduceLT, Nat.reduceLeDiff, Nat.reduceAdd, Nat.reduceSub, Nat.reduceMul, Nat.reduceMod, Nat.reduceDiv, Nat.reduceBEq, e_h1, e_h2, e_h3, e_h4, e_h5, e_h6, e_h7, e_h8, e_h9, h10', h11', FF, LN, NN, NT]
      · have h10' : x10 = false := Bool.eq_false_iff.2 h10
        conv => arg 1; simp (disch := first | assumption | decide | with_unfolding_all rfl | omega | (simp only [LN] <;> omega) | (simp only [RO, OF])) only [RR, RM, LN, TT, d13_at, ↓reduceIte, Nat.reduceEqDiff, Nat.reduceLT, Nat.reduceLeDiff, Nat.reduceAdd, Nat.reduceSub, Nat.reduceMul, Nat.reduceMod, Nat.reduceDiv, Nat.reduceBEq, e_h1, e_h2, e_h3, e_h4, e_h5, e_h6, e_h7, e_h8, e_h9, h10']
        refine J.eq ret_seq ?_
        refine J.some ?_
        simp (disch := first | assumption | decide | with_unfolding_all rfl | omega | (simp only [LN] <;> omega) | (simp only [RO, OF])) only [RR, RM, LN, TT, d13_at, ↓reduceIte, Nat.reduceEqDiff, Nat.reduceLT, Nat.reduceLeDiff, Nat.reduceAdd, Nat.reduceSub, Nat.reduceMul, Nat.reduceMod, Nat.reduceDiv, Nat.reduceBEq, e_h1, e_h2, e_h3, e_h4, e_h5, e_h6, e_h7, e_h8, e_h9, h10', FF, LN, NN, NT]
    · refine J.bind fun x12 h15 => ?_
      have e_h15 := H23_0 _ _ _ h15
      try simp only [NN, NT, LN] at e_h15
      conv => arg 1; simp (disch := first | assumption | decide | with_unfolding_all rfl | omega | (simp only [LN] <;> omega) | (simp only [RO, OF])) only [RR, RM, LN, TT, d13_at, ↓reduceIte, Nat.reduceEqDiff, Nat.reduceLT, Nat.reduceLeDiff, Nat.reduceAdd, Nat.reduceSub, Nat.reduceMul, Nat.reduceMod, Nat.reduceDiv, Nat.reduceBEq, e_h1, e_h2, e_h3, e_h4, e_h5, e_h6, e_h7, e_h8, e_h9, e_h15]
      refine J.ite (fun h16 => ?_) (fun h16 => ?_)
      · have h16' : x12 = true := h16
        refine J.bind fun x13 h17 => ?_
        have e_h17 := H23_0 _ _ _ h17
        try simp only [NN, NT, LN] at e_h17
        conv => arg 1; simp (disch := first | assumption | decide | with_unfolding_all rfl | omega | (simp only [LN] <;> omega) | (simp only [RO, OF])) only [RR, RM, LN, TT, d13_at, ↓reduceIte, Nat.reduceEqDiff, Nat.reduceLT, Nat.reduceLeDiff, Nat.reduceAdd, Nat.reduceSub, Nat.reduceMul, Nat.reduceMod, Nat.reduceDiv, Nat.reduceBEq, e_h1, e_h2, e_h3, e_h4, e_h5, e_h6, e_h7, e_h8, e_h9, e_h15, h16', e_h17]
        refine J.ite (fun h18 => ?_) (fun h18 => ?_)
        · have h18' : x13 = true := h18
          refine J.bind fun x14 h19 => ?_
          have e_h19 := H23_0 _ _ _ h19
          try simp only [NN, NT, LN] at e_h19
          conv => arg 1; simp (disch := first | assumption | decide | with_unfolding_all rfl | omega | (simp only [LN] <;> omega) | (simp only [RO, OF])) only [RR, RM, LN, TT, d13_at, ↓reduceIte, Nat.reduceEqDiff, Nat.reduceLT, Nat.reduceLeDiff, Nat.reduceAdd, Nat.reduceSub, Nat.reduceMul, Nat.reduceMod, Nat.reduceDiv, Nat.reduceBEq, e_h1, e_h2, e_h3, e_h4, e_h5, e_h6, e_h7, e_h8, e_h9, e_h15, h16', e_h17, h18', e_h19]
          refine J.ite (fun h20 => ?_) (fun h20 => ?_)
          · have h20' : x14 = true := h20
            conv => arg 1; simp (disch := first | assumption | decide | with_unfolding_all rfl | omega | (simp only [LN] <;> omega) | (simp only [RO, OF])) only [RR, RM, LN, TT, d13_at, ↓reduceIte, Nat.reduceEqDiff, Nat.reduceLT, Nat.reduceLeDiff, Nat.reduceAdd, Nat.reduceSub, Nat.reduceMul, Nat.reduceMod, Nat.reduceDiv, Nat.reduceBEq, e_h1, e_h2, e_h3, e_h4, e_h5, e_h6, e_h7, e_h8, e_h9, e_h15, h16', e_h17, h18', e_h19, h20']
            refine J.ite (fun h21 => ?_) (fun h21 => ?_)
            · have h21' := decide_eq_true h21
              refine J.at fun x15 h22 h23 h24 => ?_
              conv => arg 1; simp (disch := first | assumption | decide | with_unfolding_all rfl | omega | (simp only [LN] <;> omega) | (simp only [RO, OF])) only [RR, RM, LN, TT, d13_at, ↓reduceIte, Nat.reduceEqDiff, Nat.reduceLT, Nat.reduceLeDiff, Nat.reduceAdd, Nat.reduceSub, Nat.reduceMul, Nat.reduceMod, Nat.reduceDiv, Nat.reduceBEq, e_h1, e_h2, e_h3, e_h4, e_h5, e_h6, e_h7, e_h8, e_h9, e_h15, h16', e_h17, h18', e_h19, h20', h21', lm_bk h24]
              refine J.ite (fun h25 => ?_) (fun h25 => ?_)
              · have h25' : x15 = true := h25
                refine J.at fun x16 h26 h27 h28 => ?_
                conv => arg 1; simp (disch := first | assumption | decide | with_unfolding_all rfl | omega | (simp only [LN] <;> omega) | (simp only [RO, OF])) only [RR, RM, LN, TT, d13_at, ↓reduceIte, Nat.reduceEqDiff, Nat.reduceLT, Nat.reduceLeDiff, Nat.reduceAdd, Nat.reduceSub, Nat.reduceMul, Nat.reduceMod, Nat.reduceDiv, Nat.reduceBEq, e_h1, e_h2, e_h3, e_h4, e_h5, e_h6, e_h7, e_h8, e_h9, e_h15, h16', e_h17, h18', e_h19, h20', h21', lm_bk h24, h25', lm_bk h28]
                refine J.ite (fun h29 => ?_) (fun h29 => ?_)
                · have h29' : x16 = true := h29
                  conv => arg 1; simp (disch := first | assumption | decide | with_unfolding_all rfl | omega | (simp only [LN] <;> omega) | (simp only [RO, OF])) only [RR, RM, LN, TT, d13_at, ↓reduceIte, Nat.reduceEqDiff, Nat.reduceLT, Nat.reduceLeDiff, Nat.reduceAdd, Nat.reduceSub, Nat.reduceMul, Nat.reduceMod, Nat.reduceDiv, Nat.reduceBEq, e_h1, e_h2, e_h3, e_h4, e_h5, e_h6, e_h7, e_h8, e_h9, e_h15, h16', e_h17, h18', e_h19, h20', h21', lm_bk h24, h25', lm_bk h28, h29']
                  refine J.jmp (t := false) hj2 ?_ ?_
                  · first | rfl | (simp only [LN, NN, NT])
                  · first | (simp (disch := first | assumption | decide | with_unfolding_all rfl | omega | (simp only [LN] <;> omega) | (simp only [RO, OF])) only [RR, ↓reduceIte, Nat.reduceEqDiff, Nat.reduceLT, Nat.reduceLeDiff, Nat.reduceAdd, Nat.reduceSub, Nat.reduceMul, Nat.reduceMod, Nat.reduceDiv, Nat.reduceBEq, LN, NN, NT]; done) | rfl
                · have h29' : x16 = false := Bool.eq_false_iff.2 h29
                  refine J.at fun x17 h30 h31 h32 => ?_
                  conv => arg 1; simp (disch := first | assumption | decide | with_unfolding_all rfl | omega | (simp only [LN] <;> omega) | (simp only [RO, OF])) only [RR, RM, LN, TT, d13_at, ↓reduceIte, Nat.reduceEqDiff, Nat.reduceLT, Nat.reduceLeDiff, Nat.reduceAdd, Nat.reduceSub, Nat.reduceMul, Nat.reduceMod, Nat.reduceDiv, Nat.reduceBEq, e_h1, e_h2, e_h3, e_h4, e_h5, e_h6, e_h7, e_h8, e_h9, e_h15, h16', e_h17, h18', e_h19, h20', h21', lm_bk h24, h25', lm_bk h28, h29', lm_bk h32]
                  refine J.jmp (t := x17) hj2 ?_ ?_
                  · first | rfl | (simp only [LN, NN, NT])
                  · first | (simp (disch := first | assumption | decide | with_unfolding_all rfl | omega | (simp only [LN] <;> omega) | (simp only [RO, OF])) only [RR, ↓reduceIte, Nat.reduceEqDiff, Nat.reduceLT, Nat.reduceLeDiff, Nat.reduceAdd, Nat.reduceSub, Nat.reduceMul, Nat.reduceMod, Nat.reduceDiv, Nat.reduceBEq, LN, NN, NT]; done) | rfl
              · have h25' : x15 = false := Bool.eq_false_iff.2 h25
                conv => arg 1; simp (disch := first | assumption | decide | with_unfolding_all rfl | omega | (simp only [LN] <;> omega) | (simp only [RO, OF])) only [RR, RM, LN, TT, d13_at, ↓reduceIte, Nat.reduceEqDiff, Nat.reduceLT, Nat.reduceLeDiff, Nat.reduceAdd, Nat.reduceSub, Nat.reduceMul, Nat.reduceMod, Nat.reduceDiv, Nat.reduceBEq, e_h1, e_h2, e_h3, e_h4, e_h5, e_h6, e_h7, e_h8, e_h9, e_h15, h16', e_h17, h18', e_h19, h20', h21', lm_bk h24, h25']
                refine J.jmp (t := false) hj2 ?_ ?_
                · first | rfl | (simp only [LN, NN, NT])
                · first | (simp (disch := first | assumption | decide | with_unfolding_all rfl | omega | (simp only [LN] <;> omega) | (simp only [RO, OF])) only [RR, ↓reduceIte, Nat.reduceEqDiff, Nat.reduceLT, Nat.reduceLeDiff, Nat.reduceAdd, Nat.reduceSub, Nat.reduceMul, Nat.reduceMod, Nat.reduceDiv, Nat.reduceBEq, LN, NN, NT]; done) | rfl
            · have h21' := decide_eq_false h21
              conv => arg 1; simp (disch := first | assumption | decide | with_unfolding_all rfl | omega | (simp only [LN] <;> omega) | (simp only [RO, OF])) only [RR, RM, LN, TT, d13_at, ↓reduceIte, Nat.reduceEqDiff, Nat.reduceLT, Nat.reduceLeDiff, Nat.reduceAdd, Nat.reduceSub, Nat.reduceMul, Nat.reduceMod, Nat.reduceDiv, Nat.reduceBEq, e_h1, e_h2, e_h3, e_h4, e_h5, e_h6, e_h7, e_h8, e_h9, e_h15, h16', e_h17, h18', e_h19, h20', h21']
              refine J.jmp (t := false) hj2 ?_ ?_
              · first | rfl | (simp only [LN, NN, NT])
              · first | (simp (disch := first | assumption | decide | with_unfolding_all rfl | omega | (simp only [LN] <;> omega) | (simp only [RO, OF])) only [RR, ↓reduceIte, Nat.reduceEqDiff, Nat.reduceLT, Nat.reduceLeDiff, Nat.reduceAdd, Nat.reduceSub, Nat.reduceMul, Nat.reduceMod, Nat.reduceDiv, Nat.reduceBEq, LN, NN, NT]; done) | rfl
          · have h20' : x14 = false := Bool.eq_false_iff.2 h20
            conv => arg 1; simp (disch := first | assumption | decide | with_unfolding_all rfl | omega | (simp only [LN] <;> omega) | (simp only [RO, OF])) only [RR, RM, LN, TT, d13_at, ↓reduceIte, Nat.reduceEqDiff, Nat.reduceLT, Nat.reduceLeDiff, Nat.reduceAdd, Nat.reduceSub, Nat.reduceMul, Nat.reduceMod, Nat.reduceDiv, Nat.reduceBEq, e_h1, e_h2, e_h3, e_h4, e_h5, e_h6, e_h7, e_h8, e_h9, e_h15, h16', e_h17, h18', e_h19, h20']
            refine J.jmp (t := false) hj2 ?_ ?_
            · first | rfl | (simp only [LN, NN, NT])
            · first | (simp (disch := first | assumption | decide | with_unfolding_all rfl | omega | (simp only [LN] <;> omega) | (simp only [RO, OF])) only [RR, ↓reduceIte, Nat.reduceEqDiff, Nat.reduceLT, Nat.reduceLeDiff, Nat.reduceAdd, Nat.reduceSub, Nat.reduceMul, Nat.reduceMod, Nat.reduceDiv, Nat.reduceBEq, LN, NN, NT]; done) | rfl
        · have h18' : x13 = false := Bool.eq_false_iff.2 h18
          conv => arg 1; simp (disch := first | assumption | decide | with_unfolding_all rfl | omega | (simp only [LN] <;> omega) | (simp only [RO, OF])) only [RR, RM, LN, TT, d13_at, ↓reduceIte, Nat.reduceEqDiff, Nat.reduceLT, Nat.reduceLeDiff, Nat.reduceAdd, Nat.reduceSub, Nat.reduceMul, Nat.reduceMod, Nat.reduceDiv, Nat.reduceBEq, e_h1, e_h2, e_h3, e_h4, e_h5, e_h6, e_h7, e_h8, e_h9, e_h15, h16', e_h17, h18']
          refine J.jmp (t := false) hj2 ?_ ?_
          · first | rfl | (simp only [LN, NN, NT])
          · first | (simp (disch := first | assumption | decide | with_unfolding_all rfl | omega | (simp only [LN] <;> omega) | (simp only [RO, OF])) only [RR, ↓reduceIte, Nat.reduceEqDiff, Nat.reduceLT, Nat.reduceLeDiff, Nat.reduceAdd, Nat.reduceSub, Nat.reduceMul, Nat.reduceMod, Nat.reduceDiv, Nat.reduceBEq, LN, NN, NT]; done) | rfl
      · have h16' : x12 = false := Bool.eq_false_iff.2 h16
        conv => arg 1; simp (disch := first | assumption | decide | with_unfolding_all rfl | omega | (simp only [LN] <;> omega) | (simp only [RO, OF])) only [RR, RM, LN, TT, d13_at, ↓reduceIte, Nat.reduceEqDiff, Nat.reduceLT, Nat.reduceLeDiff, Nat.reduceAdd, Nat.reduceSub, Nat.reduceMul, Nat.reduceMod, Nat.reduceDiv, Nat.reduceBEq, e_h1, e_h2, e_h3, e_h4, e_h5, e_h6, e_h7, e_h8, e_h9, e_h15, h16']
        refine J.jmp (t := false) hj2 ?_ ?_
        · first | rfl | (simp only [LN, NN, NT])
        · first | (simp (disch := first | assumption | decide | with_unfolding_all rfl | omega | (simp only [LN] <;> omega) | (simp only [RO, OF])) only [RR, ↓reduceIte, Nat.reduceEqDiff, Nat.reduceLT, Nat.reduceLeDiff, Nat.reduceAdd, Nat.reduceSub, Nat.reduceMul, Nat.reduceMod, Nat.reduceDiv, Nat.reduceBEq, LN, NN, NT]; done) | rfl
  · conv => arg 1; simp (disch := first | assumption | decide | with_unfolding_all rfl | omega | (simp only [LN] <;> omega) | (simp only [RO, OF])) only [RR, RM, LN, TT, d13_at, ↓reduceIte, Nat.reduceEqDiff, Nat.reduceLT, Nat.reduceLeDiff, Nat.reduceAdd, Nat.reduceSub, Nat.reduceMul, Nat.reduceMod, Nat.reduceDiv, Nat.reduceBEq, e_h1, e_h2, e_h3, e_h4, e_h5, e_h6, e_h7, e_h8, e_h9]
    refine J.ite (fun h33 => ?_) (fun h33 => ?_)
    · have h33' := decide_eq_true h33
      conv => arg 1; simp (disch := first | assumption | decide | with_unfolding_all rfl | omega | (simp only [LN] <;> omega) | (simp only [RO, OF])) only [RR, RM, LN, TT, d13_at, ↓reduceIte, Nat.reduceEqDiff, Nat.reduceLT, Nat.reduceLeDiff, Nat.reduceAdd, Nat.reduceSub, Nat.reduceMul, Nat.reduceMod, Nat.reduceDiv, Nat.reduceBEq, e_h1, e_h2, e_h3, e_h4, e_h5, e_h6, e_h7, e_h8, e_h9, h33']
      refine J.ite (fun h34 => ?_) (fun h34 => ?_)
      · have h34' := decide_eq_true h34
        conv => arg 1; simp (disch := first | assumption | decide | with_unfolding_all rfl | omega | (simp only [LN] <;> omega) | (simp only [RO, OF])) only [RR, RM, LN, TT, d13_at, ↓reduceIte, Nat.reduceEqDiff, Nat.reduceLT, Nat.reduceLeDiff, Nat.reduceAdd, Nat.reduceSub, Nat.reduceMul, Nat.reduceMod, Nat.reduceDiv, Nat.reduceBEq, e_h1, e_h2, e_h3, e_h4, e_h5, e_h6, e_h7, e_h8, e_h9, h33', h34']
        refine J.ite (fun h35 => ?_) (fun h35 => ?_)
        · have h35' := decide_eq_true h35
          conv => arg 1; simp (disch := first | assumption | decide | with_unfolding_all rfl | omega | (simp only [LN] <;> omega) | (simp only [RO, OF])) only [RR, RM, LN, TT, d13_at, ↓reduceIte, Nat.reduceEqDiff, Nat.reduceLT, Nat.reduceLeDiff, Nat.reduceAdd, Nat.reduceSub, Nat.reduceMul, Nat.reduceMod, Nat.reduceDiv, Nat.reduceBEq, e_h1, e_h2, e_h3, e_h4, e_h5, e_h6, e_h7, e_h8, e_h9, h33', h34', h35']
          refine J.ite (fun h36 => ?_) (fun h36 => ?_)
          · have h36' := decide_eq_true h36
            conv => arg 1; simp (disch := first | assumption | decide | with_unfolding_all rfl | omega | (simp only [LN] <;> omega) | (simp only [RO, OF])) only [RR, RM, LN, TT, d13_at, ↓reduceIte, Nat.reduceEqDiff, Nat.reduceLT, Nat.reduceLeDiff, Nat.reduceAdd, Nat.reduceSub, Nat.reduceMul, Nat.reduceMod, Nat.reduceDiv, Nat.reduceBEq, e_h1, e_h2, e_h3, e_h4, e_h5, e_h6, e_h7, e_h8, e_h9, h33', h34', h35', h36']
            refine J.ite (fun h37 => ?_) (fun h37 => ?_)
            · have h37' := decide_eq_true h37
              conv => arg 1; simp (disch := first | assumption | decide | with_unfolding_all rfl | omega | (simp only [LN] <;> omega) | (simp only [RO, OF])) only [RR, RM, LN, TT, d13_at, ↓reduceIte, Nat.reduceEqDiff, Nat.reduceLT, Nat.reduceLeDiff, Nat.reduceAdd, Nat.reduceSub, Nat.reduceMul, Nat.reduceMod, Nat.reduceDiv, Nat.reduceBEq, e_h1, e_h2, e_h3, e_h4, e_h5, e_h6, e_h7, e_h8, e_h9, h33', h34', h35', h36', h37']
              refine J.ite (fun h38 => ?_) (fun h38 => ?_)
              · have h38' := decide_eq_true h38
                conv => arg 1; simp (disch := first | assumption | decide | with_unfolding_all rfl | omega | (simp only [LN] <;> omega) | (simp only [RO, OF])) only [RR, RM, LN, TT, d13_at, ↓reduceIte, Nat.reduceEqDiff, Nat.reduceLT, Nat.reduceLeDiff, Nat.reduceAdd, Nat.reduceSub, Nat.reduceMul, Nat.reduceMod, Nat.reduceDiv, Nat.reduceBEq, e_h1, e_h2, e_h3, e_h4, e_h5, e_h6, e_h7, e_h8, e_h9, h33', h34', h35', h36', h37', h38']
                refine J.ite (fun h39 => ?_) (fun h39 => ?_)
                · have h39' := decide_eq_true h39
                  conv => arg 1; simp (disch := first | assumption | decide | with_unfolding_all rfl | omega | (simp only [LN] <;> omega) | (simp only [RO, OF])) only [RR, RM, LN, TT, d13_at, ↓reduceIte, Nat.reduceEqDiff, Nat.reduceLT, Nat.reduceLeDiff, Nat.reduceAdd, Nat.reduceSub, Nat.reduceMul, Nat.reduceMod, Nat.reduceDiv, Nat.reduceBEq, e_h1, e_h2, e_h3, e_h4, e_h5, e_h6, e_h7, e_h8, e_h9, h33', h34', h35', h36', h37', h38', h39']
                  refine J.ite (fun h40 => ?_) (fun h40 => ?_)
                  · have h40' := decide_eq_true h40
                    conv => arg 1; simp (disch := first | assumption | decide | with_unfolding_all rfl | omega | (simp only [LN] <;> omega) | (simp only [RO, OF])) only [RR, RM, LN, TT, d13_at, ↓reduceIte, Nat.reduceEqDiff, Nat.reduceLT, Nat.reduceLeDiff, Nat.reduceAdd, Nat.reduceSub, Nat.reduceMul, Nat.reduceMod, Nat.reduceDiv, Nat.reduceBEq, e_h1, e_h2, e_h3, e_h4, e_h5, e_h6, e_h7, e_h8, e_h9, h33', h34', h35', h36', h37', h38', h39', h40']
                    refine J.jmp (t := decide (x9.2 = 4)) hj1 ?_ ?_
                    · first | rfl | (simp only [LN, NN, NT])
                    · first | (simp (disch := first | assumption | decide | with_unfolding_all rfl | omega | (simp only [LN] <;> omega) | (simp only [RO, OF])) only [RR, ↓reduceIte, Nat.reduceEqDiff, Nat.reduceLT, Nat.reduceLeDiff, Nat.reduceAdd, Nat.reduceSub, Nat.reduceMul, Nat.reduceMod, Nat.reduceDiv, Nat.reduceBEq, LN, NN, NT]; done) | rfl
                  · have h40' := decide_eq_false h40
                    conv => arg 1; simp (disch := first | assumption | decide | with_unfolding_all rfl | omega | (simp only [LN] <;> omega) | (simp only [RO, OF])) only [RR, RM, LN, TT, d13_at, ↓reduceIte, Nat.reduceEqDiff, Nat.reduceLT, Nat.reduceLeDiff, Nat.reduceAdd, Nat.reduceSub, Nat.reduceMul, Nat.reduceMod, Nat.reduceDiv, Nat.reduceBEq, e_h1, e_h2, e_h3, e_h4, e_h5, e_h6, e_h7, e_h8, e_h9, h33', h34', h35', h36', h37', h38', h39', h40']
                    refine J.jmp (t := false) hj1 ?_ ?_
                    · first | rfl | (simp only [LN, NN, NT])
                    · first | (simp (disch := first | assumption | decide | with_unfolding_all rfl | omega | (simp only [LN] <;> omega) | (simp only [RO, OF])) only [RR, ↓reduceIte, Nat.reduceEqDiff, Nat.reduceLT, Nat.reduceLeDiff, Nat.reduceAdd, Nat.reduceSub, Nat.reduceMul, Nat.reduceMod, Nat.reduceDiv, Nat.reduceBEq, LN, NN, NT]; done) | rfl
                · have h39' := decide_eq_false h39
                  conv => arg 1; simp (disch := first | assumption | decide | with_unfolding_all rfl | omega | (simp only [LN] <;> omega) | (simp only [RO, OF])) only [RR, RM, LN, TT, d13_at, ↓reduceIte, Nat.reduceEqDiff, Nat.reduceLT, Nat.reduceLeDiff, Nat.reduceAdd, Nat.reduceSub, Nat.reduceMul, Nat.reduceMod, Nat.reduceDiv, Nat.reduceBEq, e_h1, e_h2, e_h3, e_h4, e_h5, e_h6, e_h7, e_h8, e_h9, h33', h34', h35', h36', h37', h38', h39']
                  refine J.jmp (t := false) hj1 ?_ ?_
                  · first | rfl | (simp only [LN, NN, NT])
                  · first | (simp (disch := first | assumption | decide | with_unfolding_all rfl | omega | (simp only [LN] <;> omega) | (simp only [RO, OF])) only [RR, ↓reduceIte, Nat.reduceEqDiff, Nat.reduceLT, Nat.reduceLeDiff, Nat.reduceAdd, Nat.reduceSub, Nat.reduceMul, Nat.reduceMod, Nat.reduceDiv, Nat.reduceBEq, LN, NN, NT]; done) | rfl
              · have h38' := decide_eq_false h38
                conv => arg 1; simp (disch := first | assumption | decide | with_unfolding_all rfl | omega | (simp only [LN] <;> omega) | (simp only [RO, OF])) only [RR, RM, LN, TT, d13_at, ↓reduceIte, Nat.reduceEqDiff, Nat.reduceLT, Nat.reduceLeDiff, Nat.reduceAdd, Nat.reduceSub, Nat.reduceMul, Nat.reduceMod, Nat.reduceDiv, Nat.reduceBEq, e_h1, e_h2, e_h3, e_h4, e_h5, e_h6, e_h7, e_h8, e_h9, h33', h34', h35', h36', h37', h38']
                refine J.jmp (t := false) hj1 ?_ ?_
                · first | rfl | (simp only [LN, NN, NT])
                · first | (simp (disch := first | assumption | decide | with_unfolding_all rfl | omega | (simp only [LN] <;> omega) | (simp only [RO, OF])) only [RR, ↓reduceIte, Nat.reduceEqDiff, Nat.reduceLT, Nat.reduceLeDiff, Nat.reduceAdd, Nat.reduceSub, Nat.reduceMul, Nat.reduceMod, Nat.reduceDiv, Nat.reduceBEq, LN, NN, NT]; done) | rfl
            · have h37' := decide_eq_false h37
              conv => arg 1; simp (disch := first | assumption | decide | with_unfolding_all rfl | omega | (simp only [LN] <;> omega) | (simp only [RO, OF])) only [RR, RM, LN, TT, d13_at, ↓reduceIte, Nat.reduceEqDiff, Nat.reduceLT, Nat.reduceLeDiff, Nat.reduceAdd, Nat.reduceSub, Nat.reduceMul, Nat.reduceMod, Nat.reduceDiv, Nat.reduceBEq, e_h1, e_h2, e_h3, e_h4, e_h5, e_h6, e_h7, e_h8, e_h9, h33', h34', h35', h36', h37']
              refine J.jmp (t := false) hj1 ?_ ?_
              · first | rfl | (simp only [LN, NN, NT])
              · first | (simp (disch := first | assumption | decide | with_unfolding_all rfl | omega | (simp only [LN] <;> omega) | (simp only [RO, OF])) only [RR, ↓reduceIte, Nat.reduceEqDiff, Nat.reduceLT, Nat.reduceLeDiff, Nat.reduceAdd, Nat.reduceSub, Nat.reduceMul, Nat.reduceMod, Nat.reduceDiv, Nat.reduceBEq, LN, NN, NT]; done) | rfl
          · have h36' := decide_eq_false h36
            conv => arg 1; simp (disch := first | assumption | decide | with_unfolding_all rfl | omega | (simp only [LN] <;> omega) | (simp only [RO, OF])) only [RR, RM, LN, TT, d13_at, ↓reduceIte, Nat.reduceEqDiff, Nat.reduceLT, Nat.reduceLeDiff, Nat.reduceAdd, Nat.reduceSub, Nat.reduceMul, Nat.reduceMod, Nat.reduceDiv, Nat.reduceBEq, e_h1, e_h2, e_h3, e_h4, e_h5, e_h6, e_h7, e_h8, e_h9, h33', h34', h35', h36']
            refine J.jmp (t := false) hj1 ?_ ?_
            · first | rfl | (simp only [LN, NN, NT])
            · first | (simp (disch := first | assumption | decide | with_unfolding_all rfl | omega | (simp only [LN] <;> omega) | (simp only [RO, OF])) only [RR, ↓reduceIte, Nat.reduceEqDiff, Nat.reduceLT, Nat.reduceLeDiff, Nat.reduceAdd, Nat.reduceSub, Nat.reduceMul, Nat.reduceMod, Nat.reduceDiv, Nat.reduceBEq, LN, NN, NT]; done) | rfl
        · have h35' := decide_eq_false h35
          conv => arg 1; simp (disch := first | assumption | decide | with_unfolding_all rfl | omega | (simp only [LN] <;> omega) | (simp only [RO, OF])) only [RR, RM, LN, TT, d13_at, ↓reduceIte, Nat.reduceEqDiff, Nat.reduceLT, Nat.reduceLeDiff, Nat.reduceAdd, Nat.reduceSub, Nat.reduceMul, Nat.reduceMod, Nat.reduceDiv, Nat.reduceBEq, e_h1, e_h2, e_h3, e_h4, e_h5, e_h6, e_h7, e_h8, e_h9, h33', h34', h35']
          refine J.jmp (t := false) hj1 ?_ ?_
          · first | rfl | (simp only [LN, NN, NT])
          · first | (simp (disch := first | assumption | decide | with_unfolding_all rfl | omega | (simp only [LN] <;> omega) | (simp only [RO, OF])) only [RR, ↓reduceIte, Nat.reduceEqDiff, Nat.reduceLT, Nat.reduceLeDiff, Nat.reduceAdd, Nat.reduceSub, Nat.reduceMul, Nat.reduceMod, Nat.reduceDiv, Nat.reduceBEq, LN, NN, NT]; done) | rfl
      · have h34' := decide_eq_false h34
        conv => arg 1; simp (disch := first | assumption | decide | with_unfolding_all rfl | omega | (simp only [LN] <;> omega) | (simp only [RO, OF])) only [RR, RM, LN, TT, d13_at, ↓reduceIte, Nat.reduceEqDiff, Nat.reduceLT, Nat.reduceLeDiff, Nat.reduceAdd, Nat.reduceSub, Nat.reduceMul, Nat.reduceMod, Nat.reduceDiv, Nat.reduceBEq, e_h1, e_h2, e_h3, e_h4, e_h5, e_h6, e_h7, e_h8, e_h9, h33', h34']
        refine J.jmp (t := false) hj1 ?_ ?_
        · first | rfl | (simp only [LN, NN, NT])
        · first | (simp (disch := first | assumption | decide | with_unfolding_all rfl | omega | (simp only [LN] <;> omega) | (simp only [RO, OF])) only [RR, ↓reduceIte, Nat.reduceEqDiff, Nat.reduceLT, Nat.reduceLeDiff, Nat.reduceAdd, Nat.reduceSub, Nat.reduceMul, Nat.reduceMod, Nat.reduceDiv, Nat.reduceBEq, LN, NN, NT]; done) | rfl
    · have h33' := decide_eq_false h33
      conv => arg 1; simp (disch := first | assumption | decide | with_unfolding_all rfl | omega | (simp only [LN] <;> omega) | (simp only [RO, OF])) only [RR, RM, LN, TT, d13_at, ↓reduceIte, Nat.reduceEqDiff, Nat.reduceLT, Nat.reduceLeDiff, Nat.reduceAdd, Nat.reduceSub, Nat.reduceMul, Nat.reduceMod, Nat.reduceDiv, Nat.reduceBEq, e_h1, e_h2, e_h3, e_h4, e_h5, e_h6, e_h7, e_h8, e_h9, h33']
      refine J.jmp (t := false) hj1 ?_ ?_
      · first | rfl | (simp only [LN, NN, NT])
      · first | (simp (disch := first | assumption | decide | with_unfolding_all rfl | omega | (simp only [LN] <;> omega) | (simp only [RO, OF])) only [RR, ↓reduceIte, Nat.reduceEqDiff, Nat.reduceLT, Nat.reduceLeDiff, Nat.reduceAdd, Nat.reduceSub, Nat.reduceMul, Nat.reduceMod, Nat.reduceDiv, Nat.reduceBEq, LN, NN, NT]; done) | rfl
noncomputable def t13 (fu : Nat) : CallP := orE 15 (mkC (fun (t : List Int) => ([.arr t.length (lm (ik .i64) t)] : List AV)) (fun t => shape_Size fu t) e15) (orE 17 (mkC (fun (t : List Int) => ([.arr t.length (lm (ik .i64) t)] : List AV)) (fun t => shape_Strides fu t) e17) (orE 19 (mkC (fun (t : (List Int) × Int) => ([.arr t.1.length (lm (ik .i64) t.1), .v (.int .i64 t.2)] : List AV)) (fun t => shape_Index fu t.1 t.2) e19) (orE 21 (mkC (fun (t : (List Int) × (List Int)) => ([.arr t.1.length (lm (ik .i64) t.1), .arr t.2.length (lm (ik .i64) t.2)] : List AV)) (fun t => shape_Offset fu t.1 t.2) e21) (orE 25 (mkC (fun (t : (List Int) × (List Int)) => ([.arr t.1.length (lm (ik .i64) t.1), .arr t.2.length (lm (ik .i64) t.2)] : List AV)) (fun t => shape_Broadcast fu t.1 t.2) e25) (orE 27 (mkC (fun (t : (List Int) × (List Int) × Int) => ([.arr t.1.length (lm (ik .i64) t.1), .arr t.2.1.length (lm (ik .i64) t.2.1), .v (.int .i64 t.2.2)] : List AV)) (fun t => shape_From fu t.1 t.2.1 t.2.2) e27) (orE 51 (mkC (fun (t : Int × Int) => ([.v (.int .i64 t.1), .v (.int .i64 t.2)] : List AV)) (fun t => shape_Axis fu t.1 t.2) e51) (orE 52 (mkC (fun (t : (List Int) × Int) => ([.arr t.1.length (lm (ik .i64) t.1), .v (.int .i64 t.2)] : List AV)) (fun t => shape_Axes fu t.1 t.2) e52) (orE 23 (mkC (fun (t : (List Int) × (List Int)) => ([.arr t.1.length (lm (ik .i64) t.1), .arr t.2.length (lm (ik .i64) t.2)] : List AV)) (fun t => ref04_SameInts fu t.1 t.2) e23) (noP)))))))))
theorem t13_ok (fu : Nat) : CpOK Try.prog (t13 fu ) := orE_ok (orE_ok (orE_ok (orE_ok (orE_ok (orE_ok (orE_ok (orE_ok (orE_ok (noP_ok) (mkC_ok (fun t b h => ok23 fu t.1 t.2  b h))) (mkC_ok (fun t b h => ok52 fu t.1 t.2  b h))) (mkC_ok (fun t b h => ok51 fu t.1 t.2  b h))) (mkC_ok (fun t b h => ok27 fu t.1 t.2.1 t.2.2  b h))) (mkC_ok (fun t b h => ok25 fu t.1 t.2  b h))) (mkC_ok (fun t b h => ok21 fu t.1 t.2  b h))) (mkC_ok (fun t b h => ok19 fu t.1 t.2  b h))) (mkC_ok (fun t b h => ok17 fu t  b h))) (mkC_ok (fun t b h => ok15 fu t  b h))
theorem ok13 (fu : Nat) (r) (h : law04_awake fu = some r) : PureOK Try.prog 13 [] (e13 r) :=
  pure_J mixed (cp := t13 fu ) (t13_ok fu  ) noI_ok i13 (w13 _ fu   (fun a0 r h => orE_hit (mkC_at (a := a0) (by intro a b h; first | (exact rfl) | (simp only [INJ] at h; first | exact h | (simp_all [Prod.ext_iff]) )) h)) (fun a0 r h => orE_miss (by decide) (orE_hit (mkC_at (a := a0) (by intro a b h; first | (exact rfl) | (simp only [INJ] at h; first | exact h | (simp_all [Prod.ext_iff]) )) h))) (fun a0 a1 r h => orE_miss (by decide) (orE_miss (by decide) (orE_hit (mkC_at (a := (a0, a1)) (by intro a b h; first | (exact rfl) | (simp only [INJ] at h; first | exact h | (simp_all [Prod.ext_iff]) )) h)))) (fun a0 a1 r h => orE_miss (by decide) (orE_miss (by decide) (orE_miss (by decide) (orE_hit (mkC_at (a := (a0, a1)) (by intro a b h; first | (exact rfl) | (simp only [INJ] at h; first | exact h | (simp_all [Prod.ext_iff]) )) h))))) (fun a0 a1 r h => orE_miss (by decide) (orE_miss (by decide) (orE_miss (by decide) (orE_miss (by decide) (orE_hit (mkC_at (a := (a0, a1)) (by intro a b h; first | (exact rfl) | (simp only [INJ] at h; first | exact h | (simp_all [Prod.ext_iff]) )) h)))))) (fun a0 a1 a2 r h => orE_miss (by decide) (orE_miss (by decide) (orE_miss (by decide) (orE_miss (by decide) (orE_miss (by decide) (orE_hit (mkC_at (a := (a0, a1, a2)) (by intro a b h; first | (exact rfl) | (simp only [INJ] at h; first | exact h | (simp_all [Prod.ext_iff]) )) h))))))) (fun a0 a1 r h => orE_miss (by decide) (orE_miss (by decide) (orE_miss (by decide) (orE_miss (by decide) (orE_miss (by decide) (orE_miss (by decide) (orE_hit (mkC_at (a := (a0, a1)) (by intro a b h; first | (exact rfl) | (simp only [INJ] at h; first | exact h | (simp_all [Prod.ext_iff]) )) h)))))))) (fun a0 a1 r h => orE_miss (by decide) (orE_miss (by decide) (orE_miss (by decide) (orE_miss (by decide) (orE_miss (by decide) (orE_miss (by decide) (orE_miss (by decide) (orE_hit (mkC_at (a := (a0, a1)) (by intro a b h; first | (exact rfl) | (simp only [INJ] at h; first | exact h | (simp_all [Prod.ext_iff]) )) h))))))))) (fun a0 a1 r h => orE_miss (by decide) (orE_miss (by decide) (orE_miss (by decide) (orE_miss (by decide) (orE_miss (by decide) (orE_miss (by decide) (orE_miss (by decide) (orE_miss (by decide) (orE_hit (mkC_at (a := (a0, a1)) (by intro a b h; first | (exact rfl) | (simp only [INJ] at h; first | exact h | (simp_all [Prod.ext_iff]) )) h))))))))))) h
theorem awake13 : PureOK Try.prog 13 [] (.v (.bool true)) := ok13 64 true (by kernel_rfl)
/-! 5: lattice/latticelaw04.ShapeBack -/
def d5 : List (Nat × List Nat) := [(0, [4]), (0, [0, 9, 11, 16]), (0, [17]), (0, []), (0, [18, 19, 20, 21, 22]), (0, []), (0, [7, 23]), (0, []), (0, [25, 26, 27, 28, 29]), (0, []), (0, [30]), (0, []), (0, [31, 32, 33, 34, 35, 36, 37, 38, 39, 40]), (0, []), (0, [42, 43, 44, 45]), (0, []), (0, [1, 46, 47, 48, 49, 50, 51]), (0, []), (0, [6, 52]), (0, []), (0, [54, 55, 56, 57, 58]), (0, []), (0, [59, 60, 61, 62, 63]), (0, []), (0, [64, 65, 66, 67, 68, 69]), (0, []), (0, [10, 12, 13, 14, 70, 71, 72, 73, 74, 75, 76, 77, 78, 79, 80, 81, 82, 83, 84, 85, 86, 87, 88, 89, 90, 91, 92, 93, 94, 95, 96, 97]), (0, []), (0, []), (0, []), (0, []), (0, []), (0, []), (0, []), (0, [99, 100, 101]), (0, []), (0, [103, 104]), (0, []), (16, [105, 106, 107, 108, 109, 110, 111, 112, 113, 114, 115, 116, 117, 118, 119]), (0, []), (0, []), (0, []), (12, [121, 122, 123, 124, 125, 126, 127, 128, 129, 130, 131]), (0, []), (0, [5, 8, 15, 132, 133, 134, 135, 136, 137])]
def d5_at := And.intro (show d5.getD 0 (0, []) = (0, [4]) from rfl) <| And.intro (show d5.getD 1 (0, []) = (0, [0, 9, 11, 16]) from rfl) <| And.intro (show d5.getD 2 (0, []) = (0, [17]) from rfl) <| And.intro (show d5.getD 3 (0, []) = (0, []) from rfl) <| And.intro (show d5.getD 4 (0, []) = (0, [18, 19, 20, 21, 22]) from rfl) <| And.intro (show d5.getD 5 (0, []) = (0, []) from rfl) <| And.intro (show d5.getD 6 (0, []) = (0, [7, 23]) from rfl) <| And.intro (show d5.getD 7 (0, []) = (0, []) from rfl) <| And.intro (show d5.getD 8 (0, []) = (0, [25, 26, 27, 28, 29]) from rfl) <| And.intro (show d5.getD 9 (0, []) = (0, []) from rfl) <| And.intro (show d5.getD 10 (0, []) = (0, [30]) from rfl) <| And.intro (show d5.getD 11 (0, []) = (0, []) from rfl) <| And.intro (show d5.getD 12 (0, []) = (0, [31, 32, 33, 34, 35, 36, 37, 38, 39, 40]) from rfl) <| And.intro (show d5.getD 13 (0, []) = (0, []) from rfl) <| And.intro (show d5.getD 14 (0, []) = (0, [42, 43, 44, 45]) from rfl) <| And.intro (show d5.getD 15 (0, []) = (0, []) from rfl) <| And.intro (show d5.getD 16 (0, []) = (0, [1, 46, 47, 48, 49, 50, 51]) from rfl) <| And.intro (show d5.getD 17 (0, []) = (0, []) from rfl) <| And.intro (show d5.getD 18 (0, []) = (0, [6, 52]) from rfl) <| And.intro (show d5.getD 19 (0, []) = (0, []) from rfl) <| And.intro (show d5.getD 20 (0, []) = (0, [54, 55, 56, 57, 58]) from rfl) <| And.intro (show d5.getD 21 (0, []) = (0, []) from rfl) <| And.intro (show d5.getD 22 (0, []) = (0, [59, 60, 61, 62, 63]) from rfl) <| And.intro (show d5.getD 23 (0, []) = (0, []) from rfl) <| And.intro (show d5.getD 24 (0, []) = (0, [64, 65, 66, 67, 68, 69]) from rfl) <| And.intro (show d5.getD 25 (0, []) = (0, []) from rfl) <| And.intro (show d5.getD 26 (0, []) = (0, [10, 12, 13, 14, 70, 71, 72, 73, 74, 75, 76, 77, 78, 79, 80, 81, 82, 83, 84, 85, 86, 87, 88, 89, 90, 91, 92, 93, 94, 95, 96, 97]) from rfl) <| And.intro (show d5.getD 27 (0, []) = (0, []) from rfl) <| And.intro (show d5.getD 28 (0, []) = (0, []) from rfl) <| And.intro (show d5.getD 29 (0, []) = (0, []) from rfl) <| And.intro (show d5.getD 30 (0, []) = (0, []) from rfl) <| And.intro (show d5.getD 31 (0, []) = (0, []) from rfl) <| And.intro (show d5.getD 32 (0, []) = (0, []) from rfl) <| And.intro (show d5.getD 33 (0, []) = (0, []) from rfl) <| And.intro (show d5.getD 34 (0, []) = (0, [99, 100, 101]) from rfl) <| And.intro (show d5.getD 35 (0, []) = (0, []) from rfl) <| And.intro (show d5.getD 36 (0, []) = (0, [103, 104]) from rfl) <| And.intro (show d5.getD 37 (0, []) = (0, []) from rfl) <| And.intro (show d5.getD 38 (0, []) = (16, [105, 106, 107, 108, 109, 110, 111, 112, 113, 114, 115, 116, 117, 118, 119]) from rfl) <| And.intro (show d5.getD 39 (0, []) = (0, []) from rfl) <| And.intro (show d5.getD 40 (0, []) = (0, []) from rfl) <| And.intro (show d5.getD 41 (0, []) = (0, []) from rfl) <| And.intro (show d5.getD 42 (0, []) = (12, [121, 122, 123, 124, 125, 126, 127, 128, 129, 130, 131]) from rfl) <| And.intro (show d5.getD 43 (0, []) = (0, []) from rfl) <| (show d5.getD 44 (0, []) = (0, [5, 8, 15, 132, 133, 134, 135, 136, 137]) from rfl)
theorem i5 : finfo Try.prog 5 d5 = some ⟨bodyOf Try.f5, [.tmp 4], [4]⟩ := finfo_at Try.func5 rfl (by kernel_rfl) (by kernel_rfl)
def e5 : Bool → AV := fun r => .v (.bool r)
set_option maxHeartbeats 1000000 in
theorem w5 (cp : CallP) (fu : Nat) (x1 : List Int) (x2 : Int) (H13 : cp 13 [] = some (.v (.bool true))) (H15_0 : ∀ (a0 : List Int) r, shape_Size fu a0 = some r → cp 15 [.arr a0.length (lm (ik .i64) a0)] = some (.tuple [.v (.int .i64 r.1), .v (.int .i64 r.2)])) (H19_0 : ∀ (a0 : List Int) (a1 : Int) r, shape_Index fu a0 a1 = some r → cp 19 [.arr a0.length (lm (ik .i64) a0), .v (.int .i64 a1)] = some (.tuple [.fresh 1 r.1.length (lm (ik .i64) r.1), .v (.int .i64 r.2)])) (H17_0 : ∀ (a0 : List Int) r, shape_Strides fu a0 = some r → cp 17 [.arr a0.length (lm (ik .i64) a0)] = some (.tuple [.fresh 1 r.1.length (lm (ik .i64) r.1), .v (.int .i64 r.2)])) (H21_0 : ∀ (a0 : List Int) (a1 : List Int) r, shape_Offset fu a0 a1 = some r → cp 21 [.arr a0.length (lm (ik .i64) a0), .arr a1.length (lm (ik .i64) a1)] = some (.tuple [.v (.int .i64 r.1), .v (.int .i64 r.2)])) : J (go Try.prog noC cp noI 0 [] d5 fu (fin Try.prog [.tmp 4] [4]) (bodyOf Try.f5) (initE 0 [.arr x1.length (lm (ik .i64) x1), .v (.int .i64 x2)]) [] []) (law04_ShapeBack fu x1 x2) e5 := by
  unfold law04_ShapeBack e5
  refine J.bind fun x3 h1 => ?_
  have e_h1 := H15_0 _ _ h1
  try simp only [NN, NT, LN] at e_h1
  conv => arg 1; simp (disch := first | assumption | decide | with_unfolding_all rfl | omega | (simp only [LN] <;> omega) | (simp only [RO, OF])) only [bodyOf, Try.f5, RR, RM, LN, TT, d5_at, ↓reduceIte, Nat.reduceEqDiff, Nat.reduceLT, Nat.reduceLeDiff, Nat.reduceAdd, Nat.reduceSub, Nat.reduceMul, Nat.reduceMod, Nat.reduceDiv, Nat.reduceBEq, H13, e_h1]
  refine J.eq go_seq ?_
  conv => arg 1; simp (disch := first | assumption | decide | with_unfolding_all rfl | omega | (simp only [LN] <;> omega) | (simp only [RO, OF])) only [RR, RM, LN, TT, d5_at, ↓reduceIte, Nat.reduceEqDiff, Nat.reduceLT, Nat.reduceLeDiff, Nat.reduceAdd, Nat.reduceSub, Nat.reduceMul, Nat.reduceMod, Nat.reduceDiv, Nat.reduceBEq, H13, e_h1]
  refine J.ite (fun h2 => ?_) (fun h2 => ?_)
  · have h2' := decide_eq_true h2
    conv => arg 1; simp (disch := first | assumption | decide | with_unfolding_all rfl | omega | (simp only [LN] <;> omega) | (simp only [RO, OF])) only [RR, RM, LN, TT, d5_at, ↓reduceIte, Nat.reduceEqDiff, Nat.reduceLT, Nat.reduceLeDiff, Nat.reduceAdd, Nat.reduceSub, Nat.reduceMul, Nat.reduceMod, Nat.reduceDiv, Nat.reduceBEq, H13, e_h1, h2']
    refine J.eq ret_seq ?_
    conv => arg 1; simp (disch := first | assumption | decide | with_unfolding_all rfl | omega | (simp only [LN] <;> omega) | (simp only [RO, OF])) only [RR, RM, LN, TT, d5_at, ↓reduceIte, Nat.reduceEqDiff, Nat.reduceLT, Nat.reduceLeDiff, Nat.reduceAdd, Nat.reduceSub, Nat.reduceMul, Nat.reduceMod, Nat.reduceDiv, Nat.reduceBEq, H13, e_h1, h2']
    refine J.joinS (fun (t : Int) => ([(0, .arr x1.length (lm (ik .i64) x1)), (1, .v (.int .i64 x2)), (5, .v (.bool true)), (6, .v (.int .i64 x3.1)), (8, .v (.int .i64 t))], [])) (fun t => law04_ShapeBack_k1 fu x1 x3 t) ?_ (fun hj1 => ?_)
    · rintro x4
      show J _ (law04_ShapeBack_k1 fu x1 x3 x4) _
      unfold law04_ShapeBack_k1
      refine J.bind fun x5 h3 => ?_
      have e_h3 := H19_0 _ _ _ h3
      try simp only [NN, NT, LN] at e_h3
      conv => arg 1; simp (disch := first | assumption | decide | with_unfolding_all rfl | omega | (simp only [LN] <;> omega) | (simp only [RO, OF])) only [RR, RM, LN, TT, d5_at, ↓reduceIte, Nat.reduceEqDiff, Nat.reduceLT, Nat.reduceLeDiff, Nat.reduceAdd, Nat.reduceSub, Nat.reduceMul, Nat.reduceMod, Nat.reduceDiv, Nat.reduceBEq, H13, e_h1, h2', e_h3]
      refine J.eq go_seq ?_
      conv => arg 1; simp (disch := first | assumption | decide | with_unfolding_all rfl | omega | (simp only [LN] <;> omega) | (simp only [RO, OF])) only [RR, RM, LN, TT, d5_at, ↓reduceIte, Nat.reduceEqDiff, Nat.reduceLT, Nat.reduceLeDiff, Nat.reduceAdd, Nat.reduceSub, Nat.reduceMul, Nat.reduceMod, Nat.reduceDiv, Nat.reduceBEq, H13, e_h1, h2', e_h3]
      refine J.ite (fun h4 => ?_) (fun h4 => ?_)
      · have h4' := decide_eq_true h4
        conv => arg 1; simp (disch := first | assumption | decide | with_unfolding_all rfl | omega | (simp only [LN] <;> omega) | (simp only [RO, OF])) only [RR, RM, LN, TT, d5_at, ↓reduceIte, Nat.reduceEqDiff, Nat.reduceLT, Nat.reduceLeDiff, Nat.reduceAdd, Nat.reduceSub, Nat.reduceMul, Nat.reduceMod, Nat.reduceDiv, Nat.reduceBEq, H13, e_h1, h2', e_h3, h4']
        refine J.joinS (fun (t : Unit) => ([(0, .arr x1.length (lm (ik .i64) x1)), (4, .v (.bool (decide (x5.2 = 2)))), (5, .v (.bool true)), (8, .v (.int .i64 x4)), (9, .own (0, 49, 0) 0 x5.1.length x5.1.length), (10, .v (.int .i64 x5.2))], [((0, 49, 0), .sl true true 1 x5.1.length (lm (ik .i64) x5.1))])) (fun t => law04_ShapeBack_k2 fu x5) ?_ (fun hj2 => ?_)
        · rintro ⟨⟩
          show J _ (law04_ShapeBack_k2 fu x5) _
          unfold law04_ShapeBack_k2
          refine J.some ?_
          simp (disch := first | assumption | decide | with_unfolding_all rfl | omega | (simp only [LN] <;> omega) | (simp only [RO, OF])) only [RR, RM, LN, TT, d5_at, ↓reduceIte, Nat.reduceEqDiff, Nat.reduceLT, Nat.reduceLeDiff, Nat.reduceAdd, Nat.reduceSub, Nat.reduceMul, Nat.reduceMod, Nat.reduceDiv, Nat.reduceBEq, H13, e_h1, h2', e_h3, h4', FF, LN, NN, NT]
        · conv => arg 1; simp (disch := first | assumption | decide | with_unfolding_all rfl | omega | (simp only [LN] <;> omega) | (simp only [RO, OF])) only [RR, RM, LN, TT, d5_at, ↓reduceIte, Nat.reduceEqDiff, Nat.reduceLT, Nat.reduceLeDiff, Nat.reduceAdd, Nat.reduceSub, Nat.reduceMul, Nat.reduceMod, Nat.reduceDiv, Nat.reduceBEq, H13, e_h1, h2', e_h3, h4']
          refine J.jmp (t := ()) hj2 ?_ ?_
          · first | rfl | (simp only [LN, NN, NT])
          · first | (simp (disch := first | assumption | decide | with_unfolding_all rfl | omega | (simp only [LN] <;> omega) | (simp only [RO, OF])) only [RR, ↓reduceIte, Nat.reduceEqDiff, Nat.reduceLT, Nat.reduceLeDiff, Nat.reduceAdd, Nat.reduceSub, Nat.reduceMul, Nat.reduceMod, Nat.reduceDiv, Nat.reduceBEq, LN, NN, NT]; done) | rfl
      · have h4' := decide_eq_false h4
        conv => arg 1; simp (disch := first | assumption | decide | with_unfolding_all rfl | omega | (simp only [LN] <;> omega) | (simp only [RO, OF])) only [RR, RM, LN, TT, d5_at, ↓reduceIte, Nat.reduceEqDiff, Nat.reduceLT, Nat.reduceLeDiff, Nat.reduceAdd, Nat.reduceSub, Nat.reduceMul, Nat.reduceMod, Nat.reduceDiv, Nat.reduceBEq, H13, e_h1, h2', e_h3, h4']
        refine J.eq ret_seq ?_
        refine J.bind fun x6 h5 => ?_
        have e_h5 := H17_0 _ _ h5
        try simp only [NN, NT, LN] at e_h5
        refine J.bind fun x7 h6 => ?_
        have e_h6 := H21_0 _ _ _ h6
        try simp only [NN, NT, LN] at e_h6
        conv => arg 1; simp (disch := first | assumption | decide | with_unfolding_all rfl | omega | (simp only [LN] <;> omega) | (simp only [RO, OF])) only [RR, RM, LN, TT, d5_at, ↓reduceIte, Nat.reduceEqDiff, Nat.reduceLT, Nat.reduceLeDiff, Nat.reduceAdd, Nat.reduceSub, Nat.reduceMul, Nat.reduceMod, Nat.reduceDiv, Nat.reduceBEq, H13, e_h1, h2', e_h3, h4', e_h5, e_h6]
        refine J.joinS (fun (t : Unit) => ([(0, .arr x1.length (lm (ik .i64) x1)), (5, .v (.bool true)), (8, .v (.int .i64 x4)), (9, .own (0, 49, 0) 0 x5.1.length x5.1.length), (11, .own (0, 61, 0) 0 x6.1.length x6.1.length)], [((0, 49, 0), .sl true true 1 x5.1.length (lm (ik .i64) x5.1)), ((0, 61, 0), .sl true true 1 x6.1.length (lm (ik .i64) x6.1))])) (fun t => law04_ShapeBack_k3 fu x1 x4 x5 x6) ?_ (fun hj3 => ?_)
        · rintro ⟨⟩
          show J _ (law04_ShapeBack_k3 fu x1 x4 x5 x6) _
          unfold law04_ShapeBack_k3
          conv => arg 1; simp (disch := first | assumption | decide | with_unfolding_all rfl | omega | (simp only [LN] <;> omega) | (simp only [RO, OF])) only [RR, RM, LN, TT, d5_at, ↓reduceIte, Nat.reduceEqDiff, Nat.reduceLT, Nat.reduceLeDiff, Nat.reduceAdd, Nat.reduceSub, Nat.reduceMul, Nat.reduceMod, Nat.reduceDiv, Nat.reduceBEq, H13, e_h1, h2', e_h3, h4', e_h5, e_h6]
          refine J.joinS (fun (t : Int) => ([(5, .v (.bool true)), (8, .v (.int .i64 x4)), (15, .v (.int .i64 t))], [((0, 49, 0), .sl true true 1 x5.1.length (lm (ik .i64) x5.1)), ((0, 61, 0), .sl true true 1 x6.1.length (lm (ik .i64) x6.1))])) (fun t => law04_ShapeBack_k4 fu x4 t) ?_ (fun hj4 => ?_)
          · rintro x8
            show J _ (law04_ShapeBack_k4 fu x4 x8) _
            unfold law04_ShapeBack_k4
            refine J.eq go_seq ?_
            conv => arg 1; simp (disch := first | assumption | decide | with_unfolding_all rfl | omega | (simp only [LN] <;> omega) | (simp only [RO, OF])) only [RR, RM, LN, TT, d5_at, ↓reduceIte, Nat.reduceEqDiff, Nat.reduceLT, Nat.reduceLeDiff, Nat.reduceAdd, Nat.reduceSub, Nat.reduceMul, Nat.reduceMod, Nat.reduceDiv, Nat.reduceBEq, H13, e_h1, h2', e_h3, h4', e_h5, e_h6]
            refine J.eq ret_seq ?_
            refine J.some ?_
            simp (disch := first | assumption | decide | with_unfolding_all rfl | omega | (simp only [LN] <;> omega) | (simp only [RO, OF])) only [RR, RM, LN, TT, d5_at, ↓reduceIte, Nat.reduceEqDiff, Nat.reduceLT, Nat.reduceLeDiff, Nat.reduceAdd, Nat.reduceSub, Nat.reduceMul, Nat.reduceMod, Nat.reduceDiv, Nat.reduceBEq, H13, e_h1, h2', e_h3, h4', e_h5, e_h6, FF, LN, NN, NT]
          · conv => arg 1; simp (disch := first | assumption | decide | with_unfolding_all rfl | omega | (simp only [LN] <;> omega) | (simp only [RO, OF])) only [RR, RM, LN, TT, d5_at, ↓reduceIte, Nat.reduceEqDiff, Nat.reduceLT, Nat.reduceLeDiff, Nat.reduceAdd, Nat.reduceSub, Nat.reduceMul, Nat.reduceMod, Nat.reduceDiv, Nat.reduceBEq, H13, e_h1, h2', e_h3, h4', e_h5, e_h6]
            unfold law04_ShapeBack_W1
            refine J.loop (fun (s : Int × Int) => ([(0, .arr x1.length (lm (ik .i64) x1)), (5, .v (.bool true)), (8, .v (.int .i64 x4)), (9, .own (0, 49, 0) 0 x5.1.length x5.1.length), (11, .own (0, 61, 0) 0 x6.1.length x6.1.length), (15, .v (.int .i64 s.1)), (16, .v (.int .i64 s.2))], [((0, 49, 0), .sl true true 1 x5.1.length (lm (ik .i64) x5.1)), ((0, 61, 0), .sl true true 1 x6.1.length (lm (ik .i64) x6.1))])) (fun next s => law04_ShapeBack_L1 fu x1 x4 x5 x6 (fun x13 x14 => next (x13, x14)) s.1 s.2) (s0 := (0, 0)) ?_ ?_ ?_
            · first | rfl | (simp only [LN, NN, NT])
            · first | (simp (disch := first | assumption | decide | with_unfolding_all rfl | omega | (simp only [LN] <;> omega) | (simp only [RO, OF])) only [RR, ↓reduceIte, Nat.reduceEqDiff, Nat.reduceLT, Nat.reduceLeDiff, Nat.reduceAdd, Nat.reduceSub, Nat.reduceMul, Nat.reduceMod, Nat.reduceDiv, Nat.reduceBEq, LN, NN, NT]; done) | rfl
            rintro next k1 hn1 ⟨x13, x14⟩
            let nx1 : Int → Int → Option Bool := (fun x13 x14 => next (x13, x14))
            show J _ (law04_ShapeBack_L1 fu x1 x4 x5 x6 nx1 x13 x14) _
            unfold law04_ShapeBack_L1
            refine J.eq go_seq ?_
            conv => arg 1; simp (disch := first | assumption | decide | with_unfolding_all rfl | omega | (simp only [LN] <;> omega) | (simp only [RO, OF])) only [RR, RM, LN, TT, d5_at, ↓reduceIte, Nat.reduceEqDiff, Nat.reduceLT, Nat.reduceLeDiff, Nat.reduceAdd, Nat.reduceSub, Nat.reduceMul, Nat.reduceMod, Nat.reduceDiv, Nat.reduceBEq, H13, e_h1, h2', e_h3, h4', e_h5, e_h6]
            refine J.ite (fun h7 => ?_) (fun h7 => ?_)
            · have h7' := decide_eq_true h7
              have h7'' : decide (((x5.1.length : Nat) : Int) ≤ x14) = false := decide_eq_false (by omega)
              conv => arg 1; simp (disch := first | assumption | decide | with_unfolding_all rfl | omega | (simp only [LN] <;> omega) | (simp only [RO, OF])) only [RR, RM, LN, TT, d5_at, ↓reduceIte, Nat.reduceEqDiff, Nat.reduceLT, Nat.reduceLeDiff, Nat.reduceAdd, Nat.reduceSub, Nat.reduceMul, Nat.reduceMod, Nat.reduceDiv, Nat.reduceBEq, H13, e_h1, h2', e_h3, h4', e_h5, e_h6, h7'', h7']
              refine J.eq ret_seq ?_
              refine J.eq go_seq ?_
              conv => arg 1; simp (disch := first | assumption | decide | with_unfolding_all rfl | omega | (simp only [LN] <;> omega) | (simp only [RO, OF])) only [RR, RM, LN, TT, d5_at, ↓reduceIte, Nat.reduceEqDiff, Nat.reduceLT, Nat.reduceLeDiff, Nat.reduceAdd, Nat.reduceSub, Nat.reduceMul, Nat.reduceMod, Nat.reduceDiv, Nat.reduceBEq, H13, e_h1, h2', e_h3, h4', e_h5, e_h6, h7'', h7']
              refine J.joinS (fun (t : Unit) => ([(0, .arr x1.length (lm (ik .i64) x1)), (5, .v (.bool true)), (8, .v (.int .i64 x4)), (9, .own (0, 49, 0) 0 x5.1.length x5.1.length), (11, .own (0, 61, 0) 0 x6.1.length x6.1.length), (15, .v (.int .i64 x13)), (16, .v (.int .i64 x14))], [((0, 49, 0), .sl true true 1 x5.1.length (lm (ik .i64) x5.1)), ((0, 61, 0), .sl true true 1 x6.1.length (lm (ik .i64) x6.1))])) (fun t => law04_ShapeBack_k5 fu nx1 x5 x6 x13 x14) ?_ (fun hj5 => ?_)
              · rintro ⟨⟩
                show J _ (law04_ShapeBack_k5 fu nx1 x5 x6 x13 x14) _
                unfold law04_ShapeBack_k5
                refine J.at fun x19 h8 h9 h10 => ?_
                refine J.at fun x20 h11 h12 h13 => ?_
                conv => arg 1; simp (disch := first | assumption | decide | with_unfolding_all rfl | omega | (simp only [LN] <;> omega) | (simp only [RO, OF])) only [RR, RM, LN, TT, d5_at, ↓reduceIte, Nat.reduceEqDiff, Nat.reduceLT, Nat.reduceLeDiff, Nat.reduceAdd, Nat.reduceSub, Nat.reduceMul, Nat.reduceMod, Nat.reduceDiv, Nat.reduceBEq, H13, e_h1, h2', e_h3, h4', e_h5, e_h6, h7'', h7', lm_ik h10, lm_ik h13]
                refine J.eq ret_seq ?_
                conv => arg 1; simp (disch := first | assumption | decide | with_unfolding_all rfl | omega | (simp only [LN] <;> omega) | (simp only [RO, OF])) only [RR, RM, LN, TT, d5_at, ↓reduceIte, Nat.reduceEqDiff, Nat.reduceLT, Nat.reduceLeDiff, Nat.reduceAdd, Nat.reduceSub, Nat.reduceMul, Nat.reduceMod, Nat.reduceDiv, Nat.reduceBEq, H13, e_h1, h2', e_h3, h4', e_h5, e_h6, h7'', h7', lm_ik h10, lm_ik h13]
                refine J.next (s := (wk .i64 (x13 + (wk .i64 (x19 * x20))), wk .i64 (x14 + 1))) hn1 ?_ ?_
                · first | rfl | (simp only [LN, NN, NT])
                · first | (simp (disch := first | assumption | decide | with_unfolding_all rfl | omega | (simp only [LN] <;> omega) | (simp only [RO, OF])) only [RR, ↓reduceIte, Nat.reduceEqDiff, Nat.reduceLT, Nat.reduceLeDiff, Nat.reduceAdd, Nat.reduceSub, Nat.reduceMul, Nat.reduceMod, Nat.reduceDiv, Nat.reduceBEq, LN, NN, NT]; done) | rfl
              · refine J.eq go_seq ?_
                refine J.at fun x21 h14 h15 h16 => ?_
                conv => arg 1; simp (disch := first | assumption | decide | with_unfolding_all rfl | omega | (simp only [LN] <;> omega) | (simp only [RO, OF])) only [RR, RM, LN, TT, d5_at, ↓reduceIte, Nat.reduceEqDiff, Nat.reduceLT, Nat.reduceLeDiff, Nat.reduceAdd, Nat.reduceSub, Nat.reduceMul, Nat.reduceMod, Nat.reduceDiv, Nat.reduceBEq, H13, e_h1, h2', e_h3, h4', e_h5, e_h6, h7'', h7', lm_ik h16]
                refine J.ite (fun h17 => ?_) (fun h17 => ?_)
                · have h17' := decide_eq_true h17
                  have h17'' : decide (0 ≤ x21) = false := decide_eq_false (by omega)
                  conv => arg 1; simp (disch := first | assumption | decide | with_unfolding_all rfl | omega | (simp only [LN] <;> omega) | (simp only [RO, OF])) only [RR, RM, LN, TT, d5_at, ↓reduceIte, Nat.reduceEqDiff, Nat.reduceLT, Nat.reduceLeDiff, Nat.reduceAdd, Nat.reduceSub, Nat.reduceMul, Nat.reduceMod, Nat.reduceDiv, Nat.reduceBEq, H13, e_h1, h2', e_h3, h4', e_h5, e_h6, h7'', h7', lm_ik h16, h17'', h17']
                  refine J.eq ret_seq ?_
                  refine J.some ?_
                  simp (disch := first | assumption | decide | with_unfolding_all rfl | omega | (simp only [LN] <;> omega) | (simp only [RO, OF])) only [RR, RM, LN, TT, d5_at, ↓reduceIte, Nat.reduceEqDiff, Nat.reduceLT, Nat.reduceLeDiff, Nat.reduceAdd, Nat.reduceSub, Nat.reduceMul, Nat.reduceMod, Nat.reduceDiv, Nat.reduceBEq, H13, e_h1, h2', e_h3, h4', e_h5, e_h6, h7'', h7', lm_ik h16, h17'', h17', FF, LN, NN, NT]
                · have h17' := decide_eq_false h17
                  have h17'' : decide (0 ≤ x21) = true := decide_eq_true (by omega)
                  refine J.at fun x22 h18 h19 h20 => ?_
                  conv => arg 1; simp (disch := first | assumption | decide | with_unfolding_all rfl | omega | (simp only [LN] <;> omega) | (simp only [RO, OF])) only [RR, RM, LN, TT, d5_at, ↓reduceIte, Nat.reduceEqDiff, Nat.reduceLT, Nat.reduceLeDiff, Nat.reduceAdd, Nat.reduceSub, Nat.reduceMul, Nat.reduceMod, Nat.reduceDiv, Nat.reduceBEq, H13, e_h1, h2', e_h3, h4', e_h5, e_h6, h7'', h7', lm_ik h16, h17'', h17', lm_ik h20]
                  refine J.eq ret_seq ?_
                  conv => arg 1; simp (disch := first | assumption | decide | with_unfolding_all rfl | omega | (simp only [LN] <;> omega) | (simp only [RO, OF])) only [RR, RM, LN, TT, d5_at, ↓reduceIte, Nat.reduceEqDiff, Nat.reduceLT, Nat.reduceLeDiff, Nat.reduceAdd, Nat.reduceSub, Nat.reduceMul, Nat.reduceMod, Nat.reduceDiv, Nat.reduceBEq, H13, e_h1, h2', e_h3, h4', e_h5, e_h6, h7'', h7', lm_ik h16, h17'', h17', lm_ik h20]
                  refine J.ite (fun h21 => ?_) (fun h21 => ?_)
                  · have h21' := decide_eq_true h21
                    have h21'' : decide (x21 < x22) = false := decide_eq_false (by omega)
                    refine J.some ?_
                    simp (disch := first | assumption | decide | with_unfolding_all rfl | omega | (simp only [LN] <;> omega) | (simp only [RO, OF])) only [RR, RM, LN, TT, d5_at, ↓reduceIte, Nat.reduceEqDiff, Nat.reduceLT, Nat.reduceLeDiff, Nat.reduceAdd, Nat.reduceSub, Nat.reduceMul, Nat.reduceMod, Nat.reduceDiv, Nat.reduceBEq, H13, e_h1, h2', e_h3, h4', e_h5, e_h6, h7'', h7', lm_ik h16, h17'', h17', lm_ik h20, h21'', h21', FF, LN, NN, NT]
                  · have h21' := decide_eq_false h21
                    have h21'' : decide (x21 < x22) = true := decide_eq_true (by omega)
                    conv => arg 1; simp (disch := first | assumption | decide | with_unfolding_all rfl | omega | (simp only [LN] <;> omega) | (simp only [RO, OF])) only [RR, RM, LN, TT, d5_at, ↓reduceIte, Nat.reduceEqDiff, Nat.reduceLT, Nat.reduceLeDiff, Nat.reduceAdd, Nat.reduceSub, Nat.reduceMul, Nat.reduceMod, Nat.reduceDiv, Nat.reduceBEq, H13, e_h1, h2', e_h3, h4', e_h5, e_h6, h7'', h7', lm_ik h16, h17'', h17', lm_ik h20, h21'', h21']
                    refine J.jmp (t := ()) hj5 ?_ ?_
                    · first | rfl | (simp only [LN, NN, NT])
                    · first | (simp (disch := first | assumption | decide | with_unfolding_all rfl | omega | (simp only [LN] <;> omega) | (simp only [RO, OF])) only [RR, ↓reduceIte, Nat.reduceEqDiff, Nat.reduceLT, Nat.reduceLeDiff, Nat.reduceAdd, Nat.reduceSub, Nat.reduceMul, Nat.reduceMod, Nat.reduceDiv, Nat.reduceBEq, LN, NN, NT]; done) | rfl
            · have h7' := decide_eq_false h7
              have h7'' : decide (((x5.1.length : Nat) : Int) ≤ x14) = true := decide_eq_true (by omega)
              conv => arg 1; simp (disch := first | assumption | decide | with_unfolding_all rfl | omega | (simp only [LN] <;> omega) | (simp only [RO, OF])) only [RR, RM, LN, TT, d5_at, ↓reduceIte, Nat.reduceEqDiff, Nat.reduceLT, Nat.reduceLeDiff, Nat.reduceAdd, Nat.reduceSub, Nat.reduceMul, Nat.reduceMod, Nat.reduceDiv, Nat.reduceBEq, H13, e_h1, h2', e_h3, h4', e_h5, e_h6, h7'', h7']
              refine J.jmp (t := x13) hj4 ?_ ?_
              · first | rfl | (simp only [LN, NN, NT])
              · first | (simp (disch := first | assumption | decide | with_unfolding_all rfl | omega | (simp only [LN] <;> omega) | (simp only [RO, OF])) only [RR, ↓reduceIte, Nat.reduceEqDiff, Nat.reduceLT, Nat.reduceLeDiff, Nat.reduceAdd, Nat.reduceSub, Nat.reduceMul, Nat.reduceMod, Nat.reduceDiv, Nat.reduceBEq, LN, NN, NT]; done) | rfl
        · refine J.eq go_seq ?_
          conv => arg 1; simp (disch := first | assumption | decide | with_unfolding_all rfl | omega | (simp only [LN] <;> omega) | (simp only [RO, OF])) only [RR, RM, LN, TT, d5_at, ↓reduceIte, Nat.reduceEqDiff, Nat.reduceLT, Nat.reduceLeDiff, Nat.reduceAdd, Nat.reduceSub, Nat.reduceMul, Nat.reduceMod, Nat.reduceDiv, Nat.reduceBEq, H13, e_h1, h2', e_h3, h4', e_h5, e_h6]
          refine J.ite (fun h22 => ?_) (fun h22 => ?_)
          · have h22' := decide_eq_true h22
            conv => arg 1; simp (disch := first | assumption | decide | with_unfolding_all rfl | omega | (simp only [LN] <;> omega) | (simp only [RO, OF])) only [RR, RM, LN, TT, d5_at, ↓reduceIte, Nat.reduceEqDiff, Nat.reduceLT, Nat.reduceLeDiff, Nat.reduceAdd, Nat.reduceSub, Nat.reduceMul, Nat.reduceMod, Nat.reduceDiv, Nat.reduceBEq, H13, e_h1, h2', e_h3, h4', e_h5, e_h6, h22']
            refine J.ite (fun h23 => ?_) (fun h23 => ?_)
            · have h23' := decide_eq_true h23
              conv => arg 1; simp (disch := first | assumption | decide | with_unfolding_all rfl | omega | (simp only [LN] <;> omega) | (simp only [RO, OF])) only [RR, RM, LN, TT, d5_at, ↓reduceIte, Nat.reduceEqDiff, Nat.reduceLT, Nat.reduceLeDiff, Nat.reduceAdd, Nat.reduceSub, Nat.reduceMul, Nat.reduceMod, Nat.reduceDiv, Nat.reduceBEq, H13, e_h1, h2', e_h3, h4', e_h5, e_h6, h22', h23']
              refine J.ite (fun h24 => ?_) (fun h24 => ?_)
              · have h24' := decide_eq_true h24
                conv => arg 1; simp (disch := first | assumption | decide | with_unfolding_all rfl | omega | (simp only [LN] <;> omega) | (simp only [RO, OF])) only [RR, RM, LN, TT, d5_at, ↓reduceIte, Nat.reduceEqDiff, Nat.reduceLT, Nat.reduceLeDiff, Nat.reduceAdd, Nat.reduceSub, Nat.reduceMul, Nat.reduceMod, Nat.reduceDiv, Nat.reduceBEq, H13, e_h1, h2', e_h3, h4', e_h5, e_h6, h22', h23', h24']
                refine J.ite (fun h25 => ?_) (fun h25 => ?_)
                · have h25' := decide_eq_true h25
                  conv => arg 1; simp (disch := first | assumption | decide | with_unfolding_all rfl | omega | (simp only [LN] <;> omega) | (simp only [RO, OF])) only [RR, RM, LN, TT, d5_at, ↓reduceIte, Nat.reduceEqDiff, Nat.reduceLT, Nat.reduceLeDiff, Nat.reduceAdd, Nat.reduceSub, Nat.reduceMul, Nat.reduceMod, Nat.reduceDiv, Nat.reduceBEq, H13, e_h1, h2', e_h3, h4', e_h5, e_h6, h22', h23', h24', h25']
                  refine J.ite (fun h26 => ?_) (fun h26 => ?_)
                  · have h26' := decide_eq_true h26
                    conv => arg 1; simp (disch := first | assumption | decide | with_unfolding_all rfl | omega | (simp only [LN] <;> omega) | (simp only [RO, OF])) only [RR, RM, LN, TT, d5_at, ↓reduceIte, Nat.reduceEqDiff, Nat.reduceLT, Nat.reduceLeDiff, Nat.reduceAdd, Nat.reduceSub, Nat.reduceMul, Nat.reduceMod, Nat.reduceDiv, Nat.reduceBEq, H13, e_h1, h2', e_h3, h4', e_h5, e_h6, h22', h23', h24', h25', h26']
                    refine J.eq ret_seq ?_
                    conv => arg 1; simp (disch := first | assumption | decide | with_unfolding_all rfl | omega | (simp only [LN] <;> omega) | (simp only [RO, OF])) only [RR, RM, LN, TT, d5_at, ↓reduceIte, Nat.reduceEqDiff, Nat.reduceLT, Nat.reduceLeDiff, Nat.reduceAdd, Nat.reduceSub, Nat.reduceMul, Nat.reduceMod, Nat.reduceDiv, Nat.reduceBEq, H13, e_h1, h2', e_h3, h4', e_h5, e_h6, h22', h23', h24', h25', h26']
                    refine J.ite (fun h27 => ?_) (fun h27 => ?_)
                    · have h27' := decide_eq_true h27
                      conv => arg 1; simp (disch := first | assumption | decide | with_unfolding_all rfl | omega | (simp only [LN] <;> omega) | (simp only [RO, OF])) only [RR, RM, LN, TT, d5_at, ↓reduceIte, Nat.reduceEqDiff, Nat.reduceLT, Nat.reduceLeDiff, Nat.reduceAdd, Nat.reduceSub, Nat.reduceMul, Nat.reduceMod, Nat.reduceDiv, Nat.reduceBEq, H13, e_h1, h2', e_h3, h4', e_h5, e_h6, h22', h23', h24', h25', h26', h27']
                      refine J.jmp (t := ()) hj3 ?_ ?_
                      · first | rfl | (simp only [LN, NN, NT])
                      · first | (simp (disch := first | assumption | decide | with_unfolding_all rfl | omega | (simp only [LN] <;> omega) | (simp only [RO, OF])) only [RR, ↓reduceIte, Nat.reduceEqDiff, Nat.reduceLT, Nat.reduceLeDiff, Nat.reduceAdd, Nat.reduceSub, Nat.reduceMul, Nat.reduceMod, Nat.reduceDiv, Nat.reduceBEq, LN, NN, NT]; done) | rfl
                    · have h27' := decide_eq_false h27
                      refine J.some ?_
                      simp (disch := first | assumption | decide | with_unfolding_all rfl | omega | (simp only [LN] <;> omega) | (simp only [RO, OF])) only [RR, RM, LN, TT, d5_at, ↓reduceIte, Nat.reduceEqDiff, Nat.reduceLT, Nat.reduceLeDiff, Nat.reduceAdd, Nat.reduceSub, Nat.reduceMul, Nat.reduceMod, Nat.reduceDiv, Nat.reduceBEq, H13, e_h1, h2', e_h3, h4', e_h5, e_h6, h22', h23', h24', h25', h26', h27', FF, LN, NN, NT]
                  · have h26' := decide_eq_false h26
                    conv => arg 1; simp (disch := first | assumption | decide | with_unfolding_all rfl | omega | (simp only [LN] <;> omega) | (simp only [RO, OF])) only [RR, RM, LN, TT, d5_at, ↓reduceIte, Nat.reduceEqDiff, Nat.reduceLT, Nat.reduceLeDiff, Nat.reduceAdd, Nat.reduceSub, Nat.reduceMul, Nat.reduceMod, Nat.reduceDiv, Nat.reduceBEq, H13, e_h1, h2', e_h3, h4', e_h5, e_h6, h22', h23', h24', h25', h26']
                    refine J.eq ret_seq ?_
                    refine J.some ?_
                    simp (disch := first | assumption | decide | with_unfolding_all rfl | omega | (simp only [LN] <;> omega) | (simp only [RO, OF])) only [RR, RM, LN, TT, d5_at, ↓reduceIte, Nat.reduceEqDiff, Nat.reduceLT, Nat.reduceLeDiff, Nat.reduceAdd, Nat.reduceSub, Nat.reduceMul, Nat.reduceMod, Nat.reduceDiv, Nat.reduceBEq, H13, e_h1, h2', e_h3, h4', e_h5, e_h6, h22', h23', h24', h25', h26', FF, LN, NN, NT]
                · have h25' := decide_eq_false h25
                  conv => arg 1; simp (disch := first | assumption | decide | with_unfolding_all rfl | omega | (simp only [LN] <;> omega) | (simp only [RO, OF])) only [RR, RM, LN, TT, d5_at, ↓reduceIte, Nat.reduceEqDiff, Nat.reduceLT, Nat.reduceLeDiff, Nat.reduceAdd, Nat.reduceSub, Nat.reduceMul, Nat.reduceMod, Nat.reduceDiv, Nat.reduceBEq, H13, e_h1, h2', e_h3, h4', e_h5, e_h6, h22', h23', h24', h25']
                  refine J.eq ret_seq ?_
                  refine J.some ?_
                  simp (disch := first | assumption | decide | with_unfolding_all rfl | omega | (simp only [LN] <;> omega) | (simp only [RO, OF])) only [RR, RM, LN, TT, d5_at, ↓reduceIte, Nat.reduceEqDiff, Nat.reduceLT, Nat.reduceLeDiff, Nat.reduceAdd, Nat.reduceSub, Nat.reduceMul, Nat.reduceMod, Nat.reduceDiv, Nat.reduceBEq, H13, e_h1, h2', e_h3, h4', e_h5, e_h6, h22', h23', h24', h25', FF, LN, NN, NT]
              · have h24' := decide_eq_false h24
                conv => arg 1; simp (disch := first | assumption | decide | with_unfolding_all rfl | omega | (simp only [LN] <;> omega) | (simp only [RO, OF])) only [RR, RM, LN, TT, d5_at, ↓reduceIte, Nat.reduceEqDiff, Nat.reduceLT, Nat.reduceLeDiff, Nat.reduceAdd, Nat.reduceSub, Nat.reduceMul, Nat.reduceMod, Nat.reduceDiv, Nat.reduceBEq, H13, e_h1, h2', e_h3, h4', e_h5, e_h6, h22', h23', h24']
                refine J.eq ret_seq ?_
                refine J.some ?_
                simp (disch := first | assumption | decide | with_unfolding_all rfl | omega | (simp only [LN] <;> omega) | (simp only [RO, OF])) only [RR, RM, LN, TT, d5_at, ↓reduceIte, Nat.reduceEqDiff, Nat.reduceLT, Nat.reduceLeDiff, Nat.reduceAdd, Nat.reduceSub, Nat.reduceMul, Nat.reduceMod, Nat.reduceDiv, Nat.reduceBEq, H13, e_h1, h2', e_h3, h4', e_h5, e_h6, h22', h23', h24', FF, LN, NN, NT]
            · have h23' := decide_eq_false h23
              conv => arg 1; simp (disch := first | assumption | decide | with_unfolding_all rfl | omega | (simp only [LN] <;> omega) | (simp only [RO, OF])) only [RR, RM, LN, TT, d5_at, ↓reduceIte, Nat.reduceEqDiff, Nat.reduceLT, Nat.reduceLeDiff, Nat.reduceAdd, Nat.reduceSub, Nat.reduceMul, Nat.reduceMod, Nat.reduceDiv, Nat.reduceBEq, H13, e_h1, h2', e_h3, h4', e_h5, e_h6, h22', h23']
              refine J.eq ret_seq ?_
              refine J.some ?_
              simp (disch := first | assumption | decide | with_unfolding_all rfl | omega | (simp only [LN] <;> omega) | (simp only [RO, OF])) only [RR, RM, LN, TT, d5_at, ↓reduceIte, Nat.reduceEqDiff, Nat.reduceLT, Nat.reduceLeDiff, Nat.reduceAdd, Nat.reduceSub, Nat.reduceMul, Nat.reduceMod, Nat.reduceDiv, Nat.reduceBEq, H13, e_h1, h2', e_h3, h4', e_h5, e_h6, h22', h23', FF, LN, NN, NT]
          · have h22' := decide_eq_false h22
            conv => arg 1; simp (disch := first | assumption | decide | with_unfolding_all rfl | omega | (simp only [LN] <;> omega) | (simp only [RO, OF])) only [RR, RM, LN, TT, d5_at, ↓reduceIte, Nat.reduceEqDiff, Nat.reduceLT, Nat.reduceLeDiff, Nat.reduceAdd, Nat.reduceSub, Nat.reduceMul, Nat.reduceMod, Nat.reduceDiv, Nat.reduceBEq, H13, e_h1, h2', e_h3, h4', e_h5, e_h6, h22']
            refine J.eq ret_seq ?_
            refine J.some ?_
            simp (disch := first | assumption | decide | with_unfolding_all rfl | omega | (simp only [LN] <;> omega) | (simp only [RO, OF])) only [RR, RM, LN, TT, d5_at, ↓reduceIte, Nat.reduceEqDiff, Nat.reduceLT, Nat.reduceLeDiff, Nat.reduceAdd, Nat.reduceSub, Nat.reduceMul, Nat.reduceMod, Nat.reduceDiv, Nat.reduceBEq, H13, e_h1, h2', e_h3, h4', e_h5, e_h6, h22', FF, LN, NN, NT]
    · refine J.eq go_seq ?_
      conv => arg 1; simp (disch := first | assumption | decide | with_unfolding_all rfl | omega | (simp only [LN] <;> omega) | (simp only [RO, OF])) only [RR, RM, LN, TT, d5_at, ↓reduceIte, Nat.reduceEqDiff, Nat.reduceLT, Nat.reduceLeDiff, Nat.reduceAdd, Nat.reduceSub, Nat.reduceMul, Nat.reduceMod, Nat.reduceDiv, Nat.reduceBEq, H13, e_h1, h2']
      refine J.ite (fun h28 => ?_) (fun h28 => ?_)
      · have h28' := decide_eq_true h28
        have h28'' : decide (x3.1 ≤ 0) = false := decide_eq_false (by omega)
        conv => arg 1; simp (disch := first | assumption | decide | with_unfolding_all rfl | omega | (simp only [LN] <;> omega) | (simp only [RO, OF])) only [RR, RM, LN, TT, d5_at, ↓reduceIte, Nat.reduceEqDiff, Nat.reduceLT, Nat.reduceLeDiff, Nat.reduceAdd, Nat.reduceSub, Nat.reduceMul, Nat.reduceMod, Nat.reduceDiv, Nat.reduceBEq, H13, e_h1, h2', h28'', h28']
        refine J.ite (fun h29 => ?_) (fun h29 => ?_)
        · have h29' := decide_eq_true h29
          have h29'' : decide (0 ≤ x2) = false := decide_eq_false (by omega)
          conv => arg 1; simp (disch := first | assumption | decide | with_unfolding_all rfl | omega | (simp only [LN] <;> omega) | (simp only [RO, OF])) only [RR, RM, LN, TT, d5_at, ↓reduceIte, Nat.reduceEqDiff, Nat.reduceLT, Nat.reduceLeDiff, Nat.reduceAdd, Nat.reduceSub, Nat.reduceMul, Nat.reduceMod, Nat.reduceDiv, Nat.reduceBEq, H13, e_h1, h2', h28'', h28', h29'', h29']
          refine J.eq ret_seq ?_
          refine J.chk fun h30 => ?_
          conv => arg 1; simp (disch := first | assumption | decide | with_unfolding_all rfl | omega | (simp only [LN] <;> omega) | (simp only [RO, OF])) only [RR, RM, LN, TT, d5_at, ↓reduceIte, Nat.reduceEqDiff, Nat.reduceLT, Nat.reduceLeDiff, Nat.reduceAdd, Nat.reduceSub, Nat.reduceMul, Nat.reduceMod, Nat.reduceDiv, Nat.reduceBEq, H13, e_h1, h2', h28'', h28', h29'', h29']
          refine J.jmp (t := Int.tmod (band .i64 x2 65535) x3.1) hj1 ?_ ?_
          · first | rfl | (simp only [LN, NN, NT])
          · first | (simp (disch := first | assumption | decide | with_unfolding_all rfl | omega | (simp only [LN] <;> omega) | (simp only [RO, OF])) only [RR, ↓reduceIte, Nat.reduceEqDiff, Nat.reduceLT, Nat.reduceLeDiff, Nat.reduceAdd, Nat.reduceSub, Nat.reduceMul, Nat.reduceMod, Nat.reduceDiv, Nat.reduceBEq, LN, NN, NT]; done) | rfl
        · have h29' := decide_eq_false h29
          have h29'' : decide (0 ≤ x2) = true := decide_eq_true (by omega)
          conv => arg 1; simp (disch := first | assumption | decide | with_unfolding_all rfl | omega | (simp only [LN] <;> omega) | (simp only [RO, OF])) only [RR, RM, LN, TT, d5_at, ↓reduceIte, Nat.reduceEqDiff, Nat.reduceLT, Nat.reduceLeDiff, Nat.reduceAdd, Nat.reduceSub, Nat.reduceMul, Nat.reduceMod, Nat.reduceDiv, Nat.reduceBEq, H13, e_h1, h2', h28'', h28', h29'', h29']
          refine J.eq ret_seq ?_
          conv => arg 1; simp (disch := first | assumption | decide | with_unfolding_all rfl | omega | (simp only [LN] <;> omega) | (simp only [RO, OF])) only [RR, RM, LN, TT, d5_at, ↓reduceIte, Nat.reduceEqDiff, Nat.reduceLT, Nat.reduceLeDiff, Nat.reduceAdd, Nat.reduceSub, Nat.reduceMul, Nat.reduceMod, Nat.reduceDiv, Nat.reduceBEq, H13, e_h1, h2', h28'', h28', h29'', h29']
          refine J.ite (fun h31 => ?_) (fun h31 => ?_)
          · have h31' := decide_eq_true h31
            have h31'' : decide (x2 < x3.1) = false := decide_eq_false (by omega)
            refine J.chk fun h32 => ?_
            conv => arg 1; simp (disch := first | assumption | decide | with_unfolding_all rfl | omega | (simp only [LN] <;> omega) | (simp only [RO, OF])) only [RR, RM, LN, TT, d5_at, ↓reduceIte, Nat.reduceEqDiff, Nat.reduceLT, Nat.reduceLeDiff, Nat.reduceAdd, Nat.reduceSub, Nat.reduceMul, Nat.reduceMod, Nat.reduceDiv, Nat.reduceBEq, H13, e_h1, h2', h28'', h28', h29'', h29', h31'', h31']
            refine J.jmp (t := Int.tmod (band .i64 x2 65535) x3.1) hj1 ?_ ?_
            · first | rfl | (simp only [LN, NN, NT])
            · first | (simp (disch := first | assumption | decide | with_unfolding_all rfl | omega | (simp only [LN] <;> omega) | (simp only [RO, OF])) only [RR, ↓reduceIte, Nat.reduceEqDiff, Nat.reduceLT, Nat.reduceLeDiff, Nat.reduceAdd, Nat.reduceSub, Nat.reduceMul, Nat.reduceMod, Nat.reduceDiv, Nat.reduceBEq, LN, NN, NT]; done) | rfl
          · have h31' := decide_eq_false h31
            have h31'' : decide (x2 < x3.1) = true := decide_eq_true (by omega)
            conv => arg 1; simp (disch := first | assumption | decide | with_unfolding_all rfl | omega | (simp only [LN] <;> omega) | (simp only [RO, OF])) only [RR, RM, LN, TT, d5_at, ↓reduceIte, Nat.reduceEqDiff, Nat.reduceLT, Nat.reduceLeDiff, Nat.reduceAdd, Nat.reduceSub, Nat.reduceMul, Nat.reduceMod, Nat.reduceDiv, Nat.reduceBEq, H13, e_h1, h2', h28'', h28', h29'', h29', h31'', h31']
            refine J.jmp (t := x2) hj1 ?_ ?_
            · first | rfl | (simp only [LN, NN, NT])
            · first | (simp (disch := first | assumption | decide | with_unfolding_all rfl | omega | (simp only [LN] <;> omega) | (simp only [RO, OF])) only [RR, ↓reduceIte, Nat.reduceEqDiff, Nat.reduceLT, Nat.reduceLeDiff, Nat.reduceAdd, Nat.reduceSub, Nat.reduceMul, Nat.reduceMod, Nat.reduceDiv, Nat.reduceBEq, LN, NN, NT]; done) | rfl
      · have h28' := decide_eq_false h28
        have h28'' : decide (x3.1 ≤ 0) = true := decide_eq_true (by omega)
        conv => arg 1; simp (disch := first | assumption | decide | with_unfolding_all rfl | omega | (simp only [LN] <;> omega) | (simp only [RO, OF])) only [RR, RM, LN, TT, d5_at, ↓reduceIte, Nat.reduceEqDiff, Nat.reduceLT, Nat.reduceLeDiff, Nat.reduceAdd, Nat.reduceSub, Nat.reduceMul, Nat.reduceMod, Nat.reduceDiv, Nat.reduceBEq, H13, e_h1, h2', h28'', h28']
        refine J.eq ret_seq ?_
        conv => arg 1; simp (disch := first | assumption | decide | with_unfolding_all rfl | omega | (simp only [LN] <;> omega) | (simp only [RO, OF])) only [RR, RM, LN, TT, d5_at, ↓reduceIte, Nat.reduceEqDiff, Nat.reduceLT, Nat.reduceLeDiff, Nat.reduceAdd, Nat.reduceSub, Nat.reduceMul, Nat.reduceMod, Nat.reduceDiv, Nat.reduceBEq, H13, e_h1, h2', h28'', h28']
        refine J.jmp (t := x2) hj1 ?_ ?_
        · first | rfl | (simp only [LN, NN, NT])
        · first | (simp (disch := first | assumption | decide | with_unfolding_all rfl | omega | (simp only [LN] <;> omega) | (simp only [RO, OF])) only [RR, ↓reduceIte, Nat.reduceEqDiff, Nat.reduceLT, Nat.reduceLeDiff, Nat.reduceAdd, Nat.reduceSub, Nat.reduceMul, Nat.reduceMod, Nat.reduceDiv, Nat.reduceBEq, LN, NN, NT]; done) | rfl
  · have h2' := decide_eq_false h2
    conv => arg 1; simp (disch := first | assumption | decide | with_unfolding_all rfl | omega | (simp only [LN] <;> omega) | (simp only [RO, OF])) only [RR, RM, LN, TT, d5_at, ↓reduceIte, Nat.reduceEqDiff, Nat.reduceLT, Nat.reduceLeDiff, Nat.reduceAdd, Nat.reduceSub, Nat.reduceMul, Nat.reduceMod, Nat.reduceDiv, Nat.reduceBEq, H13, e_h1, h2']
    refine J.joinS (fun (t : Unit) => ([(0, .arr x1.length (lm (ik .i64) x1)), (1, .v (.int .i64 x2)), (4, .v (.bool (decide (x3.1 = 0)))), (5, .v (.bool true)), (6, .v (.int .i64 x3.1))], [])) (fun t => law04_ShapeBack_k6 fu x3) ?_ (fun hj6 => ?_)
    · rintro ⟨⟩
      show J _ (law04_ShapeBack_k6 fu x3) _
      unfold law04_ShapeBack_k6
      refine J.some ?_
      simp (disch := first | assumption | decide | with_unfolding_all rfl | omega | (simp only [LN] <;> omega) | (simp only [RO, OF])) only [RR, RM, LN, TT, d5_at, ↓reduceIte, Nat.reduceEqDiff, Nat.reduceLT, Nat.reduceLeDiff, Nat.reduceAdd, Nat.reduceSub, Nat.reduceMul, Nat.reduceMod, Nat.reduceDiv, Nat.reduceBEq, H13, e_h1, h2', FF, LN, NN, NT]
    · conv => arg 1; simp (disch := first | assumption | decide | with_unfolding_all rfl | omega | (simp only [LN] <;> omega) | (simp only [RO, OF])) only [RR, RM, LN, TT, d5_at, ↓reduceIte, Nat.reduceEqDiff, Nat.reduceLT, Nat.reduceLeDiff, Nat.reduceAdd, Nat.reduceSub, Nat.reduceMul, Nat.reduceMod, Nat.reduceDiv, Nat.reduceBEq, H13, e_h1, h2']
      refine J.jmp (t := ()) hj6 ?_ ?_
      · first | rfl | (simp only [LN, NN, NT])
      · first | (simp (disch := first | assumption | decide | with_unfolding_all rfl | omega | (simp only [LN] <;> omega) | (simp only [RO, OF])) only [RR, ↓reduceIte, Nat.reduceEqDiff, Nat.reduceLT, Nat.reduceLeDiff, Nat.reduceAdd, Nat.reduceSub, Nat.reduceMul, Nat.reduceMod, Nat.reduceDiv, Nat.reduceBEq, LN, NN, NT]; done) | rfl
noncomputable def t5 (fu : Nat) : CallP := orE 13 (mkC (fun (_ : Unit) => ([] : List AV)) (fun _ => some true) (fun b => .v (.bool b))) (orE 15 (mkC (fun (t : List Int) => ([.arr t.length (lm (ik .i64) t)] : List AV)) (fun t => shape_Size fu t) e15) (orE 19 (mkC (fun (t : (List Int) × Int) => ([.arr t.1.length (lm (ik .i64) t.1), .v (.int .i64 t.2)] : List AV)) (fun t => shape_Index fu t.1 t.2) e19) (orE 17 (mkC (fun (t : List Int) => ([.arr t.length (lm (ik .i64) t)] : List AV)) (fun t => shape_Strides fu t) e17) (orE 21 (mkC (fun (t : (List Int) × (List Int)) => ([.arr t.1.length (lm (ik .i64) t.1), .arr t.2.length (lm (ik .i64) t.2)] : List AV)) (fun t => shape_Offset fu t.1 t.2) e21) (noP)))))
theorem t5_ok (fu : Nat) : CpOK Try.prog (t5 fu ) := orE_ok (orE_ok (orE_ok (orE_ok (orE_ok (noP_ok) (mkC_ok (fun t b h => ok21 fu t.1 t.2  b h))) (mkC_ok (fun t b h => ok17 fu t  b h))) (mkC_ok (fun t b h => ok19 fu t.1 t.2  b h))) (mkC_ok (fun t b h => ok15 fu t  b h))) (mkC_ok (fun _ b h => by injection h with h; subst h; exact awake13))
theorem ok5 (fu : Nat) (x1 : List Int) (x2 : Int) (r) (h : law04_ShapeBack fu x1 x2 = some r) : PureOK Try.prog 5 [.arr x1.length (lm (ik .i64) x1), .v (.int .i64 x2)] (e5 r) :=
  pure_J mixed (cp := t5 fu ) (t5_ok fu  ) noI_ok i5 (w5 _ fu x1 x2  (orE_hit (mkC_at (a := ()) (fun _ _ _ => rfl) rfl)) (fun a0 r h => orE_miss (by decide) (orE_hit (mkC_at (a := a0) (by intro a b h; first | (exact rfl) | (simp only [INJ] at h; first | exact h | (simp_all [Prod.ext_iff]) )) h))) (fun a0 a1 r h => orE_miss (by decide) (orE_miss (by decide) (orE_hit (mkC_at (a := (a0, a1)) (by intro a b h; first | (exact rfl) | (simp only [INJ] at h; first | exact h | (simp_all [Prod.ext_iff]) )) h)))) (fun a0 r h => orE_miss (by decide) (orE_miss (by decide) (orE_miss (by decide) (orE_hit (mkC_at (a := a0) (by intro a b h; first | (exact rfl) | (simp only [INJ] at h; first | exact h | (simp_all [Prod.ext_iff]) )) h))))) (fun a0 a1 r h => orE_miss (by decide) (orE_miss (by decide) (orE_miss (by decide) (orE_miss (by decide) (orE_hit (mkC_at (a := (a0, a1)) (by intro a b h; first | (exact rfl) | (simp only [INJ] at h; first | exact h | (simp_all [Prod.ext_iff]) )) h))))))) h
/-! 6: lattice/latticelaw04.ShapeBoth -/
def d6 : List (Nat × List Nat) := [(0, [4]), (0, []), (0, [24]), (0, []), (0, [25, 26, 27, 28, 29, 30]), (0, []), (0, [31, 32, 33, 34, 35, 36]), (0, []), (0, [7, 37]), (0, []), (0, [39, 40, 41, 42, 43, 44, 45, 46, 47, 48, 49, 50, 51, 52, 53]), (0, []), (0, [54, 55, 56, 57, 58, 59]), (0, []), (0, [1, 60, 61, 62, 63, 64, 65]), (0, []), (0, [66, 67, 68, 69, 70, 71]), (0, []), (0, [72, 73, 74, 75, 76]), (0, []), (0, [8, 9, 10, 11, 12, 13, 14, 15, 17, 77, 78, 79, 80, 81, 82, 83, 84, 85, 86, 87, 88, 89, 90, 91, 92, 93, 94, 95, 96, 97, 98, 99, 100, 101, 102, 103, 104, 105, 106, 107, 108, 109, 110, 111, 112, 113, 114, 115, 116, 117]), (0, []), (0, []), (0, []), (0, [119]), (0, []), (0, [121]), (0, []), (0, [16, 122, 123, 124, 125, 126, 127, 128, 129]), (0, []), (0, [6, 130, 131, 132, 133, 134, 135]), (0, []), (0, [0, 136, 137, 138, 139, 140]), (0, []), (0, [5, 18, 19, 20, 21, 22, 23, 141, 142, 143, 144, 145, 146, 147, 148, 149, 150, 151, 152, 153, 154, 155, 156, 157, 158, 159, 160, 161, 162, 163])]
def d6_at := And.intro (show d6.getD 0 (0, []) = (0, [4]) from rfl) <| And.intro (show d6.getD 1 (0, []) = (0, []) from rfl) <| And.intro (show d6.getD 2 (0, []) = (0, [24]) from rfl) <| And.intro (show d6.getD 3 (0, []) = (0, []) from rfl) <| And.intro (show d6.getD 4 (0, []) = (0, [25, 26, 27, 28, 29, 30]) from rfl) <| And.intro (show d6.getD 5 (0, []) = (0, []) from rfl) <| And.intro (show d6.getD 6 (0, []) = (0, [31, 32, 33, 34, 35, 36]) from rfl) <| And.intro (show d6.getD 7 (0, []) = (0, []) from rfl) <| And.intro (show d6.getD 8 (0, []) = (0, [7, 37]) from rfl) <| And.intro (show d6.getD 9 (0, []) = (0, []) from rfl) <| And.intro (show d6.getD 10 (0, []) = (0, [39, 40, 41, 42, 43, 44, 45, 46, 47, 48, 49, 50, 51, 52, 53]) from rfl) <| And.intro (show d6.getD 11 (0, []) = (0, []) from rfl) <| And.intro (show d6.getD 12 (0, []) = (0, [54, 55, 56, 57, 58, 59]) from rfl) <| And.intro (show d6.getD 13 (0, []) = (0, []) from rfl) <| And.intro (show d6.getD 14 (0, []) = (0, [1, 60, 61, 62, 63, 64, 65]) from rfl) <| And.intro (show d6.getD 15 (0, []) = (0, []) from rfl) <| And.intro (show d6.getD 16 (0, []) = (0, [66, 67, 68, 69, 70, 71]) from rfl) <| And.intro (show d6.getD 17 (0, []) = (0, []) from rfl) <| And.intro (show d6.getD 18 (0, []) = (0, [72, 73, 74, 75, 76]) from rfl) <| And.intro (show d6.getD 19 (0, []) = (0, []) from rfl) <| And.intro (show d6.getD 20 (0, []) = (0, [8, 9, 10, 11, 12, 13, 14, 15, 17, 77, 78, 79, 80, 81, 82, 83, 84, 85, 86, 87, 88, 89, 90, 91, 92, 93, 94, 95, 96, 97, 98, 99, 100, 101, 102, 103, 104, 105, 106, 107, 108, 109, 110, 111, 112, 113, 114, 115, 116, 117]) from rfl) <| And.intro (show d6.getD 21 (0, []) = (0, []) from rfl) <| And.intro (show d6.getD 22 (0, []) = (0, []) from rfl) <| And.intro (show d6.getD 23 (0, []) = (0, []) from rfl) <| And.intro (show d6.getD 24 (0, []) = (0, [119]) from rfl) <| And.intro (show d6.getD 25 (0, []) = (0, []) from rfl) <| And.intro (show d6.getD 26 (0, []) = (0, [121]) from rfl) <| And.intro (show d6.getD 27 (0, []) = (0, []) from rfl) <| And.intro (show d6.getD 28 (0, []) = (0, [16, 122, 123, 124, 125, 126, 127, 128, 129]) from rfl) <| And.intro (show d6.getD 29 (0, []) = (0, []) from rfl) <| And.intro (show d6.getD 30 (0, []) = (0, [6, 130, 131, 132, 133, 134, 135]) from rfl) <| And.intro (show d6.getD 31 (0, []) = (0, []) from rfl) <| And.intro (show d6.getD 32 (0, []) = (0, [0, 136, 137, 138, 139, 140]) from rfl) <| And.intro (show d6.getD 33 (0, []) = (0, []) from rfl) <| (show d6.getD 34 (0, []) = (0, [5, 18, 19, 20, 21, 22, 23, 141, 142, 143, 144, 145, 146, 147, 148, 149, 150, 151, 152, 153, 154, 155, 156, 157, 158, 159, 160, 161, 162, 163]) from rfl)
theorem i6 : finfo Try.prog 6 d6 = some ⟨bodyOf Try.f6, [.tmp 4], [4]⟩ := finfo_at Try.func6 rfl (by kernel_rfl) (by kernel_rfl)
def e6 : Bool → AV := fun r => .v (.bool r)
set_option maxHeartbeats 1000000 in
theorem w6 (cp : CallP) (fu : Nat) (x1 : List Int) (x2 : List Int) (H13 : cp 13 [] = some (.v (.bool true))) (H25_0 : ∀ (a0 : List Int) (a1 : List Int) r, shape_Broadcast fu a0 a1 = some r → cp 25 [.arr a0.length (lm (ik .i64) a0), .arr a1.length (lm (ik .i64) a1)] = some (.tuple [.fresh 1 r.1.length (lm (ik .i64) r.1), .v (.int .i64 r.2)])) (H15_0 : ∀ (a0 : List Int) r, shape_Size fu a0 = some r → cp 15 [.arr a0.length (lm (ik .i64) a0)] = some (.tuple [.v (.int .i64 r.1), .v (.int .i64 r.2)])) (H23_0 : ∀ (a0 : List Int) (a1 : List Int) r, ref04_SameInts fu a0 a1 = some r → cp 23 [.arr a0.length (lm (ik .i64) a0), .arr a1.length (lm (ik .i64) a1)] = some (.v (.bool r))) (H27_0 : ∀ (a0 : List Int) (a1 : List Int) (a2 : Int) r, shape_From fu a0 a1 a2 = some r → cp 27 [.arr a0.length (lm (ik .i64) a0), .arr a1.length (lm (ik .i64) a1), .v (.int .i64 a2)] = some (.tuple [.v (.int .i64 r.1), .v (.int .i64 r.2)])) : J (go Try.prog noC cp noI 0 [] d6 fu (fin Try.prog [.tmp 4] [4]) (bodyOf Try.f6) (initE 0 [.arr x1.length (lm (ik .i64) x1), .arr x2.length (lm (ik .i64) x2)]) [] []) (law04_ShapeBoth fu x1 x2) e6 := by
  unfold law04_ShapeBoth e6
  refine J.bind fun x3 h1 => ?_
  have e_h1 := H25_0 _ _ _ h1
  try simp only [NN, NT, LN] at e_h1
  refine J.bind fun x4 h2 => ?_
  have e_h2 := H25_0 _ _ _ h2
  try simp only [NN, NT, LN] at e_h2
  conv => arg 1; simp (disch := first | assumption | decide | with_unfolding_all rfl | omega | (simp only [LN] <;> omega) | (simp only [RO, OF])) only [bodyOf, Try.f6, RR, RM, LN, TT, d6_at, ↓reduceIte, Nat.reduceEqDiff, Nat.reduceLT, Nat.reduceLeDiff, Nat.reduceAdd, Nat.reduceSub, Nat.reduceMul, Nat.reduceMod, Nat.reduceDiv, Nat.reduceBEq, H13, e_h1, e_h2]
  refine J.eq go_seq ?_
  conv => arg 1; simp (disch := first | assumption | decide | with_unfolding_all rfl | omega | (simp only [LN] <;> omega) | (simp only [RO, OF])) only [RR, RM, LN, TT, d6_at, ↓reduceIte, Nat.reduceEqDiff, Nat.reduceLT, Nat.reduceLeDiff, Nat.reduceAdd, Nat.reduceSub, Nat.reduceMul, Nat.reduceMod, Nat.reduceDiv, Nat.reduceBEq, H13, e_h1, e_h2]
  refine J.ite (fun h3 => ?_) (fun h3 => ?_)
  · have h3' := decide_eq_true h3
    conv => arg 1; simp (disch := first | assumption | decide | with_unfolding_all rfl | omega | (simp only [LN] <;> omega) | (simp only [RO, OF])) only [RR, RM, LN, TT, d6_at, ↓reduceIte, Nat.reduceEqDiff, Nat.reduceLT, Nat.reduceLeDiff, Nat.reduceAdd, Nat.reduceSub, Nat.reduceMul, Nat.reduceMod, Nat.reduceDiv, Nat.reduceBEq, H13, e_h1, e_h2, h3']
    refine J.eq ret_seq ?_
    refine J.bind fun x5 h4 => ?_
    have e_h4 := H25_0 _ _ _ h4
    try simp only [NN, NT, LN] at e_h4
    refine J.bind fun x6 h5 => ?_
    have e_h5 := H25_0 _ _ _ h5
    try simp only [NN, NT, LN] at e_h5
    refine J.bind fun x7 h6 => ?_
    have e_h6 := H25_0 _ _ _ h6
    try simp only [NN, NT, LN] at e_h6
    refine J.bind fun x8 h7 => ?_
    have e_h7 := H15_0 _ _ h7
    try simp only [NN, NT, LN] at e_h7
    conv => arg 1; simp (disch := first | assumption | decide | with_unfolding_all rfl | omega | (simp only [LN] <;> omega) | (simp only [RO, OF])) only [RR, RM, LN, TT, d6_at, ↓reduceIte, Nat.reduceEqDiff, Nat.reduceLT, Nat.reduceLeDiff, Nat.reduceAdd, Nat.reduceSub, Nat.reduceMul, Nat.reduceMod, Nat.reduceDiv, Nat.reduceBEq, H13, e_h1, e_h2, h3', e_h4, e_h5, e_h6, e_h7]
    refine J.joinS (fun (t : Unit) => ([(0, .arr x1.length (lm (ik .i64) x1)), (5, .v (.bool true)), (6, .own (0, 28, 0) 0 x3.1.length x3.1.length), (16, .v (.int .i64 x8.1))], [((0, 28, 0), .sl true true 1 x3.1.length (lm (ik .i64) x3.1))])) (fun t => law04_ShapeBoth_k1 fu x1 x3 x8) ?_ (fun hj1 => ?_)
    · rintro ⟨⟩
      show J _ (law04_ShapeBoth_k1 fu x1 x3 x8) _
      unfold law04_ShapeBoth_k1
      refine J.eq go_seq ?_
      conv => arg 1; simp (disch := first | assumption | decide | with_unfolding_all rfl | omega | (simp only [LN] <;> omega) | (simp only [RO, OF])) only [RR, RM, LN, TT, d6_at, ↓reduceIte, Nat.reduceEqDiff, Nat.reduceLT, Nat.reduceLeDiff, Nat.reduceAdd, Nat.reduceSub, Nat.reduceMul, Nat.reduceMod, Nat.reduceDiv, Nat.reduceBEq, H13, e_h1, e_h2, h3', e_h4, e_h5, e_h6, e_h7]
      refine J.ite (fun h8 => ?_) (fun h8 => ?_)
      · have h8' := decide_eq_true h8
        refine J.some ?_
        simp (disch := first | assumption | decide | with_unfolding_all rfl | omega | (simp only [LN] <;> omega) | (simp only [RO, OF])) only [RR, RM, LN, TT, d6_at, ↓reduceIte, Nat.reduceEqDiff, Nat.reduceLT, Nat.reduceLeDiff, Nat.reduceAdd, Nat.reduceSub, Nat.reduceMul, Nat.reduceMod, Nat.reduceDiv, Nat.reduceBEq, H13, e_h1, e_h2, h3', e_h4, e_h5, e_h6, e_h7, h8', FF, LN, NN, NT]
      · have h8' := decide_eq_false h8
        conv => arg 1; simp (disch := first | assumption | decide | with_unfolding_all rfl | omega | (simp only [LN] <;> omega) | (simp only [RO, OF])) only [RR, RM, LN, TT, d6_at, ↓reduceIte, Nat.reduceEqDiff, Nat.reduceLT, Nat.reduceLeDiff, Nat.reduceAdd, Nat.reduceSub, Nat.reduceMul, Nat.reduceMod, Nat.reduceDiv, Nat.reduceBEq, H13, e_h1, e_h2, h3', e_h4, e_h5, e_h6, e_h7, h8']
        refine J.eq ret_seq ?_
        refine J.bind fun x9 h9 => ?_
        have e_h9 := H27_0 _ _ _ _ h9
        try simp only [NN, NT, LN] at e_h9
        refine J.bind fun x10 h10 => ?_
        have e_h10 := H27_0 _ _ _ _ h10
        try simp only [NN, NT, LN] at e_h10
        refine J.bind fun x11 h11 => ?_
        have e_h11 := H15_0 _ _ h11
        try simp only [NN, NT, LN] at e_h11
        conv => arg 1; simp (disch := first | assumption | decide | with_unfolding_all rfl | omega | (simp only [LN] <;> omega) | (simp only [RO, OF])) only [RR, RM, LN, TT, d6_at, ↓reduceIte, Nat.reduceEqDiff, Nat.reduceLT, Nat.reduceLeDiff, Nat.reduceAdd, Nat.reduceSub, Nat.reduceMul, Nat.reduceMod, Nat.reduceDiv, Nat.reduceBEq, H13, e_h1, e_h2, h3', e_h4, e_h5, e_h6, e_h7, h8', e_h9, e_h10, e_h11]
        refine J.eq go_seq ?_
        conv => arg 1; simp (disch := first | assumption | decide | with_unfolding_all rfl | omega | (simp only [LN] <;> omega) | (simp only [RO, OF])) only [RR, RM, LN, TT, d6_at, ↓reduceIte, Nat.reduceEqDiff, Nat.reduceLT, Nat.reduceLeDiff, Nat.reduceAdd, Nat.reduceSub, Nat.reduceMul, Nat.reduceMod, Nat.reduceDiv, Nat.reduceBEq, H13, e_h1, e_h2, h3', e_h4, e_h5, e_h6, e_h7, h8', e_h9, e_h10, e_h11]
        refine J.ite (fun h12 => ?_) (fun h12 => ?_)
        · have h12' := decide_eq_true h12
          conv => arg 1; simp (disch := first | assumption | decide | with_unfolding_all rfl | omega | (simp only [LN] <;> omega) | (simp only [RO, OF])) only [RR, RM, LN, TT, d6_at, ↓reduceIte, Nat.reduceEqDiff, Nat.reduceLT, Nat.reduceLeDiff, Nat.reduceAdd, Nat.reduceSub, Nat.reduceMul, Nat.reduceMod, Nat.reduceDiv, Nat.reduceBEq, H13, e_h1, e_h2, h3', e_h4, e_h5, e_h6, e_h7, h8', e_h9, e_h10, e_h11, h12']
          refine J.ite (fun h13 => ?_) (fun h13 => ?_)
          · have h13' := decide_eq_true h13
            conv => arg 1; simp (disch := first | assumption | decide | with_unfolding_all rfl | omega | (simp only [LN] <;> omega) | (simp only [RO, OF])) only [RR, RM, LN, TT, d6_at, ↓reduceIte, Nat.reduceEqDiff, Nat.reduceLT, Nat.reduceLeDiff, Nat.reduceAdd, Nat.reduceSub, Nat.reduceMul, Nat.reduceMod, Nat.reduceDiv, Nat.reduceBEq, H13, e_h1, e_h2, h3', e_h4, e_h5, e_h6, e_h7, h8', e_h9, e_h10, e_h11, h12', h13']
            refine J.ite (fun h14 => ?_) (fun h14 => ?_)
            · have h14' := decide_eq_true h14
              conv => arg 1; simp (disch := first | assumption | decide | with_unfolding_all rfl | omega | (simp only [LN] <;> omega) | (simp only [RO, OF])) only [RR, RM, LN, TT, d6_at, ↓reduceIte, Nat.reduceEqDiff, Nat.reduceLT, Nat.reduceLeDiff, Nat.reduceAdd, Nat.reduceSub, Nat.reduceMul, Nat.reduceMod, Nat.reduceDiv, Nat.reduceBEq, H13, e_h1, e_h2, h3', e_h4, e_h5, e_h6, e_h7, h8', e_h9, e_h10, e_h11, h12', h13', h14']
              refine J.ite (fun h15 => ?_) (fun h15 => ?_)
              · have h15' := decide_eq_true h15
                conv => arg 1; simp (disch := first | assumption | decide | with_unfolding_all rfl | omega | (simp only [LN] <;> omega) | (simp only [RO, OF])) only [RR, RM, LN, TT, d6_at, ↓reduceIte, Nat.reduceEqDiff, Nat.reduceLT, Nat.reduceLeDiff, Nat.reduceAdd, Nat.reduceSub, Nat.reduceMul, Nat.reduceMod, Nat.reduceDiv, Nat.reduceBEq, H13, e_h1, e_h2, h3', e_h4, e_h5, e_h6, e_h7, h8', e_h9, e_h10, e_h11, h12', h13', h14', h15']
                refine J.eq ret_seq ?_
                refine J.some ?_
                simp (disch := first | assumption | decide | with_unfolding_all rfl | omega | (simp only [LN] <;> omega) | (simp only [RO, OF])) only [RR, RM, LN, TT, d6_at, ↓reduceIte, Nat.reduceEqDiff, Nat.reduceLT, Nat.reduceLeDiff, Nat.reduceAdd, Nat.reduceSub, Nat.reduceMul, Nat.reduceMod, Nat.reduceDiv, Nat.reduceBEq, H13, e_h1, e_h2, h3', e_h4, e_h5, e_h6, e_h7, h8', e_h9, e_h10, e_h11, h12', h13', h14', h15', FF, LN, NN, NT]
              · have h15' := decide_eq_false h15
                conv => arg 1; simp (disch := first | assumption | decide | with_unfolding_all rfl | omega | (simp only [LN] <;> omega) | (simp only [RO, OF])) only [RR, RM, LN, TT, d6_at, ↓reduceIte, Nat.reduceEqDiff, Nat.reduceLT, Nat.reduceLeDiff, Nat.reduceAdd, Nat.reduceSub, Nat.reduceMul, Nat.reduceMod, Nat.reduceDiv, Nat.reduceBEq, H13, e_h1, e_h2, h3', e_h4, e_h5, e_h6, e_h7, h8', e_h9, e_h10, e_h11, h12', h13', h14', h15']
                refine J.eq ret_seq ?_
                refine J.some ?_
                simp (disch := first | assumption | decide | with_unfolding_all rfl | omega | (simp only [LN] <;> omega) | (simp only [RO, OF])) only [RR, RM, LN, TT, d6_at, ↓reduceIte, Nat.reduceEqDiff, Nat.reduceLT, Nat.reduceLeDiff, Nat.reduceAdd, Nat.reduceSub, Nat.reduceMul, Nat.reduceMod, Nat.reduceDiv, Nat.reduceBEq, H13, e_h1, e_h2, h3', e_h4, e_h5, e_h6, e_h7, h8', e_h9, e_h10, e_h11, h12', h13', h14', h15', FF, LN, NN, NT]
            · have h14' := decide_eq_false h14
              conv => arg 1; simp (disch := first | assumption | decide | with_unfolding_all rfl | omega | (simp only [LN] <;> omega) | (simp only [RO, OF])) only [RR, RM, LN, TT, d6_at, ↓reduceIte, Nat.reduceEqDiff, Nat.reduceLT, Nat.reduceLeDiff, Nat.reduceAdd, Nat.reduceSub, Nat.reduceMul, Nat.reduceMod, Nat.reduceDiv, Nat.reduceBEq, H13, e_h1, e_h2, h3', e_h4, e_h5, e_h6, e_h7, h8', e_h9, e_h10, e_h11, h12', h13', h14']
              refine J.eq ret_seq ?_
              refine J.some ?_
              simp (disch := first | assumption | decide | with_unfolding_all rfl | omega | (simp only [LN] <;> omega) | (simp only [RO, OF])) only [RR, RM, LN, TT, d6_at, ↓reduceIte, Nat.reduceEqDiff, Nat.reduceLT, Nat.reduceLeDiff, Nat.reduceAdd, Nat.reduceSub, Nat.reduceMul, Nat.reduceMod, Nat.reduceDiv, Nat.reduceBEq, H13, e_h1, e_h2, h3', e_h4, e_h5, e_h6, e_h7, h8', e_h9, e_h10, e_h11, h12', h13', h14', FF, LN, NN, NT]
          · have h13' := decide_eq_false h13
            conv => arg 1; simp (disch := first | assumption | decide | with_unfolding_all rfl | omega | (simp only [LN] <;> omega) | (simp only [RO, OF])) only [RR, RM, LN, TT, d6_at, ↓reduceIte, Nat.reduceEqDiff, Nat.reduceLT, Nat.reduceLeDiff, Nat.reduceAdd, Nat.reduceSub, Nat.reduceMul, Nat.reduceMod, Nat.reduceDiv, Nat.reduceBEq, H13, e_h1, e_h2, h3', e_h4, e_h5, e_h6, e_h7, h8', e_h9, e_h10, e_h11, h12', h13']
            refine J.eq ret_seq ?_
            refine J.some ?_
            simp (disch := first | assumption | decide | with_unfolding_all rfl | omega | (simp only [LN] <;> omega) | (simp only [RO, OF])) only [RR, RM, LN, TT, d6_at, ↓reduceIte, Nat.reduceEqDiff, Nat.reduceLT, Nat.reduceLeDiff, Nat.reduceAdd, Nat.reduceSub, Nat.reduceMul, Nat.reduceMod, Nat.reduceDiv, Nat.reduceBEq, H13, e_h1, e_h2, h3', e_h4, e_h5, e_h6, e_h7, h8', e_h9, e_h10, e_h11, h12', h13', FF, LN, NN, NT]
        · have h12' := decide_eq_false h12
          conv => arg 1; simp (disch := first | assumption | decide | with_unfolding_all rfl | omega | (simp only [LN] <;> omega) | (simp only [RO, OF])) only [RR, RM, LN, TT, d6_at, ↓reduceIte, Nat.reduceEqDiff, Nat.reduceLT, Nat.reduceLeDiff, Nat.reduceAdd, Nat.reduceSub, Nat.reduceMul, Nat.reduceMod, Nat.reduceDiv, Nat.reduceBEq, H13, e_h1, e_h2, h3', e_h4, e_h5, e_h6, e_h7, h8', e_h9, e_h10, e_h11, h12']
          refine J.eq ret_seq ?_
          refine J.some ?_
          simp (disch := first | assumption | decide | with_unfolding_all rfl | omega | (simp only [LN] <;> omega) | (simp only [RO, OF])) only [RR, RM, LN, TT, d6_at, ↓reduceIte, Nat.reduceEqDiff, Nat.reduceLT, Nat.reduceLeDiff, Nat.reduceAdd, Nat.reduceSub, Nat.reduceMul, Nat.reduceMod, Nat.reduceDiv, Nat.reduceBEq, H13, e_h1, e_h2, h3', e_h4, e_h5, e_h6, e_h7, h8', e_h9, e_h10, e_h11, h12', FF, LN, NN, NT]
    · refine J.eq go_seq ?_
      conv => arg 1; simp (disch := first | assumption | decide | with_unfolding_all rfl | omega | (simp only [LN] <;> omega) | (simp only [RO, OF])) only [RR, RM, LN, TT, d6_at, ↓reduceIte, Nat.reduceEqDiff, Nat.reduceLT, Nat.reduceLeDiff, Nat.reduceAdd, Nat.reduceSub, Nat.reduceMul, Nat.reduceMod, Nat.reduceDiv, Nat.reduceBEq, H13, e_h1, e_h2, h3', e_h4, e_h5, e_h6, e_h7]
      refine J.ite (fun h16 => ?_) (fun h16 => ?_)
      · have h16' := decide_eq_true h16
        conv => arg 1; simp (disch := first | assumption | decide | with_unfolding_all rfl | omega | (simp only [LN] <;> omega) | (simp only [RO, OF])) only [RR, RM, LN, TT, d6_at, ↓reduceIte, Nat.reduceEqDiff, Nat.reduceLT, Nat.reduceLeDiff, Nat.reduceAdd, Nat.reduceSub, Nat.reduceMul, Nat.reduceMod, Nat.reduceDiv, Nat.reduceBEq, H13, e_h1, e_h2, h3', e_h4, e_h5, e_h6, e_h7, h16']
        refine J.ite (fun h17 => ?_) (fun h17 => ?_)
        · have h17' := decide_eq_true h17
          conv => arg 1; simp (disch := first | assumption | decide | with_unfolding_all rfl | omega | (simp only [LN] <;> omega) | (simp only [RO, OF])) only [RR, RM, LN, TT, d6_at, ↓reduceIte, Nat.reduceEqDiff, Nat.reduceLT, Nat.reduceLeDiff, Nat.reduceAdd, Nat.reduceSub, Nat.reduceMul, Nat.reduceMod, Nat.reduceDiv, Nat.reduceBEq, H13, e_h1, e_h2, h3', e_h4, e_h5, e_h6, e_h7, h16', h17']
          refine J.ite (fun h18 => ?_) (fun h18 => ?_)
          · have h18' := decide_eq_true h18
            conv => arg 1; simp (disch := first | assumption | decide | with_unfolding_all rfl | omega | (simp only [LN] <;> omega) | (simp only [RO, OF])) only [RR, RM, LN, TT, d6_at, ↓reduceIte, Nat.reduceEqDiff, Nat.reduceLT, Nat.reduceLeDiff, Nat.reduceAdd, Nat.reduceSub, Nat.reduceMul, Nat.reduceMod, Nat.reduceDiv, Nat.reduceBEq, H13, e_h1, e_h2, h3', e_h4, e_h5, e_h6, e_h7, h16', h17', h18']
            refine J.ite (fun h19 => ?_) (fun h19 => ?_)
            · have h19' := decide_eq_true h19
              conv => arg 1; simp (disch := first | assumption | decide | with_unfolding_all rfl | omega | (simp only [LN] <;> omega) | (simp only [RO, OF])) only [RR, RM, LN, TT, d6_at, ↓reduceIte, Nat.reduceEqDiff, Nat.reduceLT, Nat.reduceLeDiff, Nat.reduceAdd, Nat.reduceSub, Nat.reduceMul, Nat.reduceMod, Nat.reduceDiv, Nat.reduceBEq, H13, e_h1, e_h2, h3', e_h4, e_h5, e_h6, e_h7, h16', h17', h18', h19']
              refine J.ite (fun h20 => ?_) (fun h20 => ?_)
              · have h20' := decide_eq_true h20
                refine J.bind fun x12 h21 => ?_
                have e_h21 := H23_0 _ _ _ h21
                try simp only [NN, NT, LN] at e_h21
                conv => arg 1; simp (disch := first | assumption | decide | with_unfolding_all rfl | omega | (simp only [LN] <;> omega) | (simp only [RO, OF])) only [RR, RM, LN, TT, d6_at, ↓reduceIte, Nat.reduceEqDiff, Nat.reduceLT, Nat.reduceLeDiff, Nat.reduceAdd, Nat.reduceSub, Nat.reduceMul, Nat.reduceMod, Nat.reduceDiv, Nat.reduceBEq, H13, e_h1, e_h2, h3', e_h4, e_h5, e_h6, e_h7, h16', h17', h18', h19', h20', e_h21]
                refine J.ite (fun h22 => ?_) (fun h22 => ?_)
                · have h22' : x12 = true := h22
                  refine J.bind fun x13 h23 => ?_
                  have e_h23 := H23_0 _ _ _ h23
                  try simp only [NN, NT, LN] at e_h23
                  conv => arg 1; simp (disch := first | assumption | decide | with_unfolding_all rfl | omega | (simp only [LN] <;> omega) | (simp only [RO, OF])) only [RR, RM, LN, TT, d6_at, ↓reduceIte, Nat.reduceEqDiff, Nat.reduceLT, Nat.reduceLeDiff, Nat.reduceAdd, Nat.reduceSub, Nat.reduceMul, Nat.reduceMod, Nat.reduceDiv, Nat.reduceBEq, H13, e_h1, e_h2, h3', e_h4, e_h5, e_h6, e_h7, h16', h17', h18', h19', h20', e_h21, h22', e_h23]
                  refine J.ite (fun h24 => ?_) (fun h24 => ?_)
                  · have h24' : x13 = true := h24
                    refine J.bind fun x14 h25 => ?_
                    have e_h25 := H23_0 _ _ _ h25
                    try simp only [NN, NT, LN] at e_h25
                    conv => arg 1; simp (disch := first | assumption | decide | with_unfolding_all rfl | omega | (simp only [LN] <;> omega) | (simp only [RO, OF])) only [RR, RM, LN, TT, d6_at, ↓reduceIte, Nat.reduceEqDiff, Nat.reduceLT, Nat.reduceLeDiff, Nat.reduceAdd, Nat.reduceSub, Nat.reduceMul, Nat.reduceMod, Nat.reduceDiv, Nat.reduceBEq, H13, e_h1, e_h2, h3', e_h4, e_h5, e_h6, e_h7, h16', h17', h18', h19', h20', e_h21, h22', e_h23, h24', e_h25]
                    refine J.ite (fun h26 => ?_) (fun h26 => ?_)
                    · have h26' : x14 = true := h26
                      refine J.bind fun x15 h27 => ?_
                      have e_h27 := H23_0 _ _ _ h27
                      try simp only [NN, NT, LN] at e_h27
                      conv => arg 1; simp (disch := first | assumption | decide | with_unfolding_all rfl | omega | (simp only [LN] <;> omega) | (simp only [RO, OF])) only [RR, RM, LN, TT, d6_at, ↓reduceIte, Nat.reduceEqDiff, Nat.reduceLT, Nat.reduceLeDiff, Nat.reduceAdd, Nat.reduceSub, Nat.reduceMul, Nat.reduceMod, Nat.reduceDiv, Nat.reduceBEq, H13, e_h1, e_h2, h3', e_h4, e_h5, e_h6, e_h7, h16', h17', h18', h19', h20', e_h21, h22', e_h23, h24', e_h25, h26', e_h27]
                      refine J.eq ret_seq ?_
                      conv => arg 1; simp (disch := first | assumption | decide | with_unfolding_all rfl | omega | (simp only [LN] <;> omega) | (simp only [RO, OF])) only [RR, RM, LN, TT, d6_at, ↓reduceIte, Nat.reduceEqDiff, Nat.reduceLT, Nat.reduceLeDiff, Nat.reduceAdd, Nat.reduceSub, Nat.reduceMul, Nat.reduceMod, Nat.reduceDiv, Nat.reduceBEq, H13, e_h1, e_h2, h3', e_h4, e_h5, e_h6, e_h7, h16', h17', h18', h19', h20', e_h21, h22', e_h23, h24', e_h25, h26', e_h27]
                      refine J.ite (fun h28 => ?_) (fun h28 => ?_)
                      · have h28' : x15 = true := h28
                        conv => arg 1; simp (disch := first | assumption | decide | with_unfolding_all rfl | omega | (simp only [LN] <;> omega) | (simp only [RO, OF])) only [RR, RM, LN, TT, d6_at, ↓reduceIte, Nat.reduceEqDiff, Nat.reduceLT, Nat.reduceLeDiff, Nat.reduceAdd, Nat.reduceSub, Nat.reduceMul, Nat.reduceMod, Nat.reduceDiv, Nat.reduceBEq, H13, e_h1, e_h2, h3', e_h4, e_h5, e_h6, e_h7, h16', h17', h18', h19', h20', e_h21, h22', e_h23, h24', e_h25, h26', e_h27, h28']
                        refine J.jmp (t := ()) hj1 ?_ ?_
                        · first | rfl | (simp only [LN, NN, NT])
                        · first | (simp (disch := first | assumption | decide | with_unfolding_all rfl | omega | (simp only [LN] <;> omega) | (simp only [RO, OF])) only [RR, ↓reduceIte, Nat.reduceEqDiff, Nat.reduceLT, Nat.reduceLeDiff, Nat.reduceAdd, Nat.reduceSub, Nat.reduceMul, Nat.reduceMod, Nat.reduceDiv, Nat.reduceBEq, LN, NN, NT]; done) | rfl
                      · have h28' : x15 = false := Bool.eq_false_iff.2 h28
                        refine J.some ?_
                        simp (disch := first | assumption | decide | with_unfolding_all rfl | omega | (simp only [LN] <;> omega) | (simp only [RO, OF])) only [RR, RM, LN, TT, d6_at, ↓reduceIte, Nat.reduceEqDiff, Nat.reduceLT, Nat.reduceLeDiff, Nat.reduceAdd, Nat.reduceSub, Nat.reduceMul, Nat.reduceMod, Nat.reduceDiv, Nat.reduceBEq, H13, e_h1, e_h2, h3', e_h4, e_h5, e_h6, e_h7, h16', h17', h18', h19', h20', e_h21, h22', e_h23, h24', e_h25, h26', e_h27, h28', FF, LN, NN, NT]
                    · have h26' : x14 = false := Bool.eq_false_iff.2 h26
                      conv => arg 1; simp (disch := first | assumption | decide | with_unfolding_all rfl | omega | (simp only [LN] <;> omega) | (simp only [RO, OF])) only [RR, RM, LN, TT, d6_at, ↓reduceIte, Nat.reduceEqDiff, Nat.reduceLT, Nat.reduceLeDiff, Nat.reduceAdd, Nat.reduceSub, Nat.reduceMul, Nat.reduceMod, Nat.reduceDiv, Nat.reduceBEq, H13, e_h1, e_h2, h3', e_h4, e_h5, e_h6, e_h7, h16', h17', h18', h19', h20', e_h21, h22', e_h23, h24', e_h25, h26']
                      refine J.eq ret_seq ?_
                      refine J.some ?_
                      simp (disch := first | assumption | decide | with_unfolding_all rfl | omega | (simp only [LN] <;> omega) | (simp only [RO, OF])) only [RR, RM, LN, TT, d6_at, ↓reduceIte, Nat.reduceEqDiff, Nat.reduceLT, Nat.reduceLeDiff, Nat.reduceAdd, Nat.reduceSub, Nat.reduceMul, Nat.reduceMod, Nat.reduceDiv, Nat.reduceBEq, H13, e_h1, e_h2, h3', e_h4, e_h5, e_h6, e_h7, h16', h17', h18', h19', h20', e_h21, h22', e_h23, h24', e_h25, h26', FF, LN, NN, NT]
                  · have h24' : x13 = false := Bool.eq_false_iff.2 h24
                    conv => arg 1; simp (disch := first | assumption | decide | with_unfolding_all rfl | omega | (simp only [LN] <;> omega) | (simp only [RO, OF])) only [RR, RM, LN, TT, d6_at, ↓reduceIte, Nat.reduceEqDiff, Nat.reduceLT, Nat.reduceLeDiff, Nat.reduceAdd, Nat.reduceSub, Nat.reduceMul, Nat.reduceMod, Nat.reduceDiv, Nat.reduceBEq, H13, e_h1, e_h2, h3', e_h4, e_h5, e_h6, e_h7, h16', h17', h18', h19', h20', e_h21, h22', e_h23, h24']
                    refine J.eq ret_seq ?_
                    refine J.some ?_
                    simp (disch := first | assumption | decide | with_unfolding_all rfl | omega | (simp only [LN] <;> omega) | (simp only [RO, OF])) only [RR, RM, LN, TT, d6_at, ↓reduceIte, Nat.reduceEqDiff, Nat.reduceLT, Nat.reduceLeDiff, Nat.reduceAdd, Nat.reduceSub, Nat.reduceMul, Nat.reduceMod, Nat.reduceDiv, Nat.reduceBEq, H13, e_h1, e_h2, h3', e_h4, e_h5, e_h6, e_h7, h16', h17', h18', h19', h20', e_h21, h22', e_h23, h24', FF, LN, NN, NT]
                · have h22' : x12 = false := Bool.eq_false_iff.2 h22
                  conv => arg 1; simp (disch := first | assumption | decide | with_unfolding_all rfl | omega | (simp only [LN] <;> omega) | (simp only [RO, OF])) only [RR, RM, LN, TT, d6_at, ↓reduceIte, Nat.reduceEqDiff, Nat.reduceLT, Nat.reduceLeDiff, Nat.reduceAdd, Nat.reduceSub, Nat.reduceMul, Nat.reduceMod, Nat.reduceDiv, Nat.reduceBEq, H13, e_h1, e_h2, h3', e_h4, e_h5, e_h6, e_h7, h16', h17', h18', h19', h20', e_h21, h22']
                  refine J.eq ret_seq ?_
                  refine J.some ?_
                  simp (disch := first | assumption | decide | with_unfolding_all rfl | omega | (simp only [LN] <;> omega) | (simp only [RO, OF])) only [RR, RM, LN, TT, d6_at, ↓reduceIte, Nat.reduceEqDiff, Nat.reduceLT, Nat.reduceLeDiff, Nat.reduceAdd, Nat.reduceSub, Nat.reduceMul, Nat.reduceMod, Nat.reduceDiv, Nat.reduceBEq, H13, e_h1, e_h2, h3', e_h4, e_h5, e_h6, e_h7, h16', h17', h18', h19', h20', e_h21, h22', FF, LN, NN, NT]
              · have h20' := decide_eq_false h20
                conv => arg 1; simp (disch := first | assumption | decide | with_unfolding_all rfl | omega | (simp only [LN] <;> omega) | (simp only [RO, OF])) only [RR, RM, LN, TT, d6_at, ↓reduceIte, Nat.reduceEqDiff, Nat.reduceLT, Nat.reduceLeDiff, Nat.reduceAdd, Nat.reduceSub, Nat.reduceMul, Nat.reduceMod, Nat.reduceDiv, Nat.reduceBEq, H13, e_h1, e_h2, h3', e_h4, e_h5, e_h6, e_h7, h16', h17', h18', h19', h20']
                refine J.eq ret_seq ?_
                refine J.some ?_
                simp (disch := first | assumption | decide | with_unfolding_all rfl | omega | (simp only [LN] <;> omega) | (simp only [RO, OF])) only [RR, RM, LN, TT, d6_at, ↓reduceIte, Nat.reduceEqDiff, Nat.reduceLT, Nat.reduceLeDiff, Nat.reduceAdd, Nat.reduceSub, Nat.reduceMul, Nat.reduceMod, Nat.reduceDiv, Nat.reduceBEq, H13, e_h1, e_h2, h3', e_h4, e_h5, e_h6, e_h7, h16', h17', h18', h19', h20', FF, LN, NN, NT]
            · have h19' := decide_eq_false h19
              conv => arg 1; simp (disch := first | assumption | decide | with_unfolding_all rfl | omega | (simp only [LN] <;> omega) | (simp only [RO, OF])) only [RR, RM, LN, TT, d6_at, ↓reduceIte, Nat.reduceEqDiff, Nat.reduceLT, Nat.reduceLeDiff, Nat.reduceAdd, Nat.reduceSub, Nat.reduceMul, Nat.reduceMod, Nat.reduceDiv, Nat.reduceBEq, H13, e_h1, e_h2, h3', e_h4, e_h5, e_h6, e_h7, h16', h17', h18', h19']
              refine J.eq ret_seq ?_
              refine J.some ?_
              simp (disch := first | assumption | decide | with_unfolding_all rfl | omega | (simp only [LN] <;> omega) | (simp only [RO, OF])) only [RR, RM, LN, TT, d6_at, ↓reduceIte, Nat.reduceEqDiff, Nat.reduceLT, Nat.reduceLeDiff, Nat.reduceAdd, Nat.reduceSub, Nat.reduceMul, Nat.reduceMod, Nat.reduceDiv, Nat.reduceBEq, H13, e_h1, e_h2, h3', e_h4, e_h5, e_h6, e_h7, h16', h17', h18', h19', FF, LN, NN, NT]
          · have h18' := decide_eq_false h18
            conv => arg 1; simp (disch := first | assumption | decide | with_unfolding_all rfl | omega | (simp only [LN] <;> omega) | (simp only [RO, OF])) only [RR, RM, LN, TT, d6_at, ↓reduceIte, Nat.reduceEqDiff, Nat.reduceLT, Nat.reduceLeDiff, Nat.reduceAdd, Nat.reduceSub, Nat.reduceMul, Nat.reduceMod, Nat.reduceDiv, Nat.reduceBEq, H13, e_h1, e_h2, h3', e_h4, e_h5, e_h6, e_h7, h16', h17', h18']
            refine J.eq ret_seq ?_
            refine J.some ?_
            simp (disch := first | assumption | decide | with_unfolding_all rfl | omega | (simp only [LN] <;> omega) | (simp only [RO, OF])) only [RR, RM, LN, TT, d6_at, ↓reduceIte, Nat.reduceEqDiff, Nat.reduceLT, Nat.reduceLeDiff, Nat.reduceAdd, Nat.reduceSub, Nat.reduceMul, Nat.reduceMod, Nat.reduceDiv, Nat.reduceBEq, H13, e_h1, e_h2, h3', e_h4, e_h5, e_h6, e_h7, h16', h17', h18', FF, LN, NN, NT]
        · have h17' := decide_eq_false h17
          conv => arg 1; simp (disch := first | assumption | decide | with_unfolding_all rfl | omega | (simp only [LN] <;> omega) | (simp only [RO, OF])) only [RR, RM, LN, TT, d6_at, ↓reduceIte, Nat.reduceEqDiff, Nat.reduceLT, Nat.reduceLeDiff, Nat.reduceAdd, Nat.reduceSub, Nat.reduceMul, Nat.reduceMod, Nat.reduceDiv, Nat.reduceBEq, H13, e_h1, e_h2, h3', e_h4, e_h5, e_h6, e_h7, h16', h17']
          refine J.eq ret_seq ?_
          refine J.some ?_
          simp (disch := first | assumption | decide | with_unfolding_all rfl | omega | (simp only [LN] <;> omega) | (simp only [RO, OF])) only [RR, RM, LN, TT, d6_at, ↓reduceIte, Nat.reduceEqDiff, Nat.reduceLT, Nat.reduceLeDiff, Nat.reduceAdd, Nat.reduceSub, Nat.reduceMul, Nat.reduceMod, Nat.reduceDiv, Nat.reduceBEq, H13, e_h1, e_h2, h3', e_h4, e_h5, e_h6, e_h7, h16', h17', FF, LN, NN, NT]
      · have h16' := decide_eq_false h16
        conv => arg 1; simp (disch := first | assumption | decide | with_unfolding_all rfl | omega | (simp only [LN] <;> omega) | (simp only [RO, OF])) only [RR, RM, LN, TT, d6_at, ↓reduceIte, Nat.reduceEqDiff, Nat.reduceLT, Nat.reduceLeDiff, Nat.reduceAdd, Nat.reduceSub, Nat.reduceMul, Nat.reduceMod, Nat.reduceDiv, Nat.reduceBEq, H13, e_h1, e_h2, h3', e_h4, e_h5, e_h6, e_h7, h16']
        refine J.eq ret_seq ?_
        refine J.some ?_
        simp (disch := first | assumption | decide | with_unfolding_all rfl | omega | (simp only [LN] <;> omega) | (simp only [RO, OF])) only [RR, RM, LN, TT, d6_at, ↓reduceIte, Nat.reduceEqDiff, Nat.reduceLT, Nat.reduceLeDiff, Nat.reduceAdd, Nat.reduceSub, Nat.reduceMul, Nat.reduceMod, Nat.reduceDiv, Nat.reduceBEq, H13, e_h1, e_h2, h3', e_h4, e_h5, e_h6, e_h7, h16', FF, LN, NN, NT]
  · have h3' := decide_eq_false h3
    conv => arg 1; simp (disch := first | assumption | decide | with_unfolding_all rfl | omega | (simp only [LN] <;> omega) | (simp only [RO, OF])) only [RR, RM, LN, TT, d6_at, ↓reduceIte, Nat.reduceEqDiff, Nat.reduceLT, Nat.reduceLeDiff, Nat.reduceAdd, Nat.reduceSub, Nat.reduceMul, Nat.reduceMod, Nat.reduceDiv, Nat.reduceBEq, H13, e_h1, e_h2, h3']
    refine J.joinS (fun (t : Bool) => ([(0, .arr x1.length (lm (ik .i64) x1)), (1, .arr x2.length (lm (ik .i64) x2)), (4, .v (.bool t)), (5, .v (.bool true)), (6, .own (0, 28, 0) 0 x3.1.length x3.1.length), (8, .own (0, 34, 0) 0 x4.1.length x4.1.length), (9, .v (.int .i64 x4.2))], [((0, 28, 0), .sl true true 1 x3.1.length (lm (ik .i64) x3.1)), ((0, 34, 0), .sl true true 1 x4.1.length (lm (ik .i64) x4.1))])) (fun t => law04_ShapeBoth_k2 fu t) ?_ (fun hj2 => ?_)
    · rintro x16
      show J _ (law04_ShapeBoth_k2 fu x16) _
      unfold law04_ShapeBoth_k2
      refine J.some ?_
      simp (disch := first | assumption | decide | with_unfolding_all rfl | omega | (simp only [LN] <;> omega) | (simp only [RO, OF])) only [RR, RM, LN, TT, d6_at, ↓reduceIte, Nat.reduceEqDiff, Nat.reduceLT, Nat.reduceLeDiff, Nat.reduceAdd, Nat.reduceSub, Nat.reduceMul, Nat.reduceMod, Nat.reduceDiv, Nat.reduceBEq, H13, e_h1, e_h2, h3', FF, LN, NN, NT]
    · conv => arg 1; simp (disch := first | assumption | decide | with_unfolding_all rfl | omega | (simp only [LN] <;> omega) | (simp only [RO, OF])) only [RR, RM, LN, TT, d6_at, ↓reduceIte, Nat.reduceEqDiff, Nat.reduceLT, Nat.reduceLeDiff, Nat.reduceAdd, Nat.reduceSub, Nat.reduceMul, Nat.reduceMod, Nat.reduceDiv, Nat.reduceBEq, H13, e_h1, e_h2, h3']
      refine J.ite (fun h29 => ?_) (fun h29 => ?_)
      · have h29' := decide_eq_true h29
        conv => arg 1; simp (disch := first | assumption | decide | with_unfolding_all rfl | omega | (simp only [LN] <;> omega) | (simp only [RO, OF])) only [RR, RM, LN, TT, d6_at, ↓reduceIte, Nat.reduceEqDiff, Nat.reduceLT, Nat.reduceLeDiff, Nat.reduceAdd, Nat.reduceSub, Nat.reduceMul, Nat.reduceMod, Nat.reduceDiv, Nat.reduceBEq, H13, e_h1, e_h2, h3', h29']
        refine J.jmp (t := false) hj2 ?_ ?_
        · first | rfl | (simp only [LN, NN, NT])
        · first | (simp (disch := first | assumption | decide | with_unfolding_all rfl | omega | (simp only [LN] <;> omega) | (simp only [RO, OF])) only [RR, ↓reduceIte, Nat.reduceEqDiff, Nat.reduceLT, Nat.reduceLeDiff, Nat.reduceAdd, Nat.reduceSub, Nat.reduceMul, Nat.reduceMod, Nat.reduceDiv, Nat.reduceBEq, LN, NN, NT]; done) | rfl
      · have h29' := decide_eq_false h29
        conv => arg 1; simp (disch := first | assumption | decide | with_unfolding_all rfl | omega | (simp only [LN] <;> omega) | (simp only [RO, OF])) only [RR, RM, LN, TT, d6_at, ↓reduceIte, Nat.reduceEqDiff, Nat.reduceLT, Nat.reduceLeDiff, Nat.reduceAdd, Nat.reduceSub, Nat.reduceMul, Nat.reduceMod, Nat.reduceDiv, Nat.reduceBEq, H13, e_h1, e_h2, h3', h29']
        refine J.ite (fun h30 => ?_) (fun h30 => ?_)
        · have h30' := decide_eq_true h30
          conv => arg 1; simp (disch := first | assumption | decide | with_unfolding_all rfl | omega | (simp only [LN] <;> omega) | (simp only [RO, OF])) only [RR, RM, LN, TT, d6_at, ↓reduceIte, Nat.reduceEqDiff, Nat.reduceLT, Nat.reduceLeDiff, Nat.reduceAdd, Nat.reduceSub, Nat.reduceMul, Nat.reduceMod, Nat.reduceDiv, Nat.reduceBEq, H13, e_h1, e_h2, h3', h29', h30']
          refine J.jmp (t := decide (((x4.1.length : Nat) : Int) = 0)) hj2 ?_ ?_
          · first | rfl | (simp only [LN, NN, NT])
          · first | (simp (disch := first | assumption | decide | with_unfolding_all rfl | omega | (simp only [LN] <;> omega) | (simp only [RO, OF])) only [RR, ↓reduceIte, Nat.reduceEqDiff, Nat.reduceLT, Nat.reduceLeDiff, Nat.reduceAdd, Nat.reduceSub, Nat.reduceMul, Nat.reduceMod, Nat.reduceDiv, Nat.reduceBEq, LN, NN, NT]; done) | rfl
        · have h30' := decide_eq_false h30
          conv => arg 1; simp (disch := first | assumption | decide | with_unfolding_all rfl | omega | (simp only [LN] <;> omega) | (simp only [RO, OF])) only [RR, RM, LN, TT, d6_at, ↓reduceIte, Nat.reduceEqDiff, Nat.reduceLT, Nat.reduceLeDiff, Nat.reduceAdd, Nat.reduceSub, Nat.reduceMul, Nat.reduceMod, Nat.reduceDiv, Nat.reduceBEq, H13, e_h1, e_h2, h3', h29', h30']
          refine J.jmp (t := false) hj2 ?_ ?_
          · first | rfl | (simp only [LN, NN, NT])
          · first | (simp (disch := first | assumption | decide | with_unfolding_all rfl | omega | (simp only [LN] <;> omega) | (simp only [RO, OF])) only [RR, ↓reduceIte, Nat.reduceEqDiff, Nat.reduceLT, Nat.reduceLeDiff, Nat.reduceAdd, Nat.reduceSub, Nat.reduceMul, Nat.reduceMod, Nat.reduceDiv, Nat.reduceBEq, LN, NN, NT]; done) | rfl
noncomputable def t6 (fu : Nat) : CallP := orE 13 (mkC (fun (_ : Unit) => ([] : List AV)) (fun _ => some true) (fun b => .v (.bool b))) (orE 25 (mkC (fun (t : (List Int) × (List Int)) => ([.arr t.1.length (lm (ik .i64) t.1), .arr t.2.length (lm (ik .i64) t.2)] : List AV)) (fun t => shape_Broadcast fu t.1 t.2) e25) (orE 15 (mkC (fun (t : List Int) => ([.arr t.length (lm (ik .i64) t)] : List AV)) (fun t => shape_Size fu t) e15) (orE 23 (mkC (fun (t : (List Int) × (List Int)) => ([.arr t.1.length (lm (ik .i64) t.1), .arr t.2.length (lm (ik .i64) t.2)] : List AV)) (fun t => ref04_SameInts fu t.1 t.2) e23) (orE 27 (mkC (fun (t : (List Int) × (List Int) × Int) => ([.arr t.1.length (lm (ik .i64) t.1), .arr t.2.1.length (lm (ik .i64) t.2.1), .v (.int .i64 t.2.2)] : List AV)) (fun t => shape_From fu t.1 t.2.1 t.2.2) e27) (noP)))))
theorem t6_ok (fu : Nat) : CpOK Try.prog (t6 fu ) := orE_ok (orE_ok (orE_ok (orE_ok (orE_ok (noP_ok) (mkC_ok (fun t b h => ok27 fu t.1 t.2.1 t.2.2  b h))) (mkC_ok (fun t b h => ok23 fu t.1 t.2  b h))) (mkC_ok (fun t b h => ok15 fu t  b h))) (mkC_ok (fun t b h => ok25 fu t.1 t.2  b h))) (mkC_ok (fun _ b h => by injection h with h; subst h; exact awake13))
theorem ok6 (fu : Nat) (x1 : List Int) (x2 : List Int) (r) (h : law04_ShapeBoth fu x1 x2 = some r) : PureOK Try.prog 6 [.arr x1.length (lm (ik .i64) x1), .arr x2.length (lm (ik .i64) x2)] (e6 r) :=
  pure_J mixed (cp := t6 fu ) (t6_ok fu  ) noI_ok i6 (w6 _ fu x1 x2  (orE_hit (mkC_at (a := ()) (fun _ _ _ => rfl) rfl)) (fun a0 a1 r h => orE_miss (by decide) (orE_hit (mkC_at (a := (a0, a1)) (by intro a b h; first | (exact rfl) | (simp only [INJ] at h; first | exact h | (simp_all [Prod.ext_iff]) )) h))) (fun a0 r h => orE_miss (by decide) (orE_miss (by decide) (orE_hit (mkC_at (a := a0) (by intro a b h; first | (exact rfl) | (simp only [INJ] at h; first | exact h | (simp_all [Prod.ext_iff]) )) h)))) (fun a0 a1 r h => orE_miss (by decide) (orE_miss (by decide) (orE_miss (by decide) (orE_hit (mkC_at (a := (a0, a1)) (by intro a b h; first | (exact rfl) | (simp only [INJ] at h; first | exact h | (simp_all [Prod.ext_iff]) )) h))))) (fun a0 a1 a2 r h => orE_miss (by decide) (orE_miss (by decide) (orE_miss (by decide) (orE_miss (by decide) (orE_hit (mkC_at (a := (a0, a1, a2)) (by intro a b h; first | (exact rfl) | (simp only [INJ] at h; first | exact h | (simp_all [Prod.ext_iff]) )) h))))))) h
end Go.Av
