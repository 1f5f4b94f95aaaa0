/- The walks of the plain functions, part 3. Made by a program of mine. Conditions: none. -/
import Derived.Test.YtoeineoiofjfdaaQ3W2
set_option linter.unusedVariables false
set_option linter.unusedSimpArgs false
set_option linter.defProp false
set_option maxRecDepth 4000
open Go Go.Proofs
namespace Go.Av
/-! 4: lattice/latticelaw04.ShapeMeets -/
def d4 : List (Nat × List Nat) := [(0, [6]), (0, []), (0, [22]), (0, []), (0, [23, 24]), (0, []), (0, [25, 26]), (0, []), (0, [27, 28, 29, 30, 31, 32]), (0, []), (0, [33, 34, 35, 36, 37, 38]), (0, []), (0, [39, 40, 41, 42, 43, 44, 45]), (0, []), (0, [46, 47, 48, 49, 50, 51, 52]), (0, []), (0, [53, 54, 55, 56, 57, 58, 59]), (0, []), (0, [2, 60, 61, 62, 63, 64, 65, 66]), (0, []), (0, [0, 1, 7, 8, 9, 10, 11, 12, 13, 14, 15, 16, 17, 18, 19, 20, 21, 67, 68, 69, 70, 71, 72, 73, 74, 75, 76, 77, 78, 79, 80, 81, 82, 83, 84, 85, 86, 87, 88, 89, 90, 91, 92, 93, 94, 95, 96, 97, 98, 99, 100, 101, 102, 103, 104, 105, 106, 107])]
def d4_at := And.intro (show d4.getD 0 (0, []) = (0, [6]) from rfl) <| And.intro (show d4.getD 1 (0, []) = (0, []) from rfl) <| And.intro (show d4.getD 2 (0, []) = (0, [22]) from rfl) <| And.intro (show d4.getD 3 (0, []) = (0, []) from rfl) <| And.intro (show d4.getD 4 (0, []) = (0, [23, 24]) from rfl) <| And.intro (show d4.getD 5 (0, []) = (0, []) from rfl) <| And.intro (show d4.getD 6 (0, []) = (0, [25, 26]) from rfl) <| And.intro (show d4.getD 7 (0, []) = (0, []) from rfl) <| And.intro (show d4.getD 8 (0, []) = (0, [27, 28, 29, 30, 31, 32]) from rfl) <| And.intro (show d4.getD 9 (0, []) = (0, []) from rfl) <| And.intro (show d4.getD 10 (0, []) = (0, [33, 34, 35, 36, 37, 38]) from rfl) <| And.intro (show d4.getD 11 (0, []) = (0, []) from rfl) <| And.intro (show d4.getD 12 (0, []) = (0, [39, 40, 41, 42, 43, 44, 45]) from rfl) <| And.intro (show d4.getD 13 (0, []) = (0, []) from rfl) <| And.intro (show d4.getD 14 (0, []) = (0, [46, 47, 48, 49, 50, 51, 52]) from rfl) <| And.intro (show d4.getD 15 (0, []) = (0, []) from rfl) <| And.intro (show d4.getD 16 (0, []) = (0, [53, 54, 55, 56, 57, 58, 59]) from rfl) <| And.intro (show d4.getD 17 (0, []) = (0, []) from rfl) <| And.intro (show d4.getD 18 (0, []) = (0, [2, 60, 61, 62, 63, 64, 65, 66]) from rfl) <| And.intro (show d4.getD 19 (0, []) = (0, []) from rfl) <| (show d4.getD 20 (0, []) = (0, [0, 1, 7, 8, 9, 10, 11, 12, 13, 14, 15, 16, 17, 18, 19, 20, 21, 67, 68, 69, 70, 71, 72, 73, 74, 75, 76, 77, 78, 79, 80, 81, 82, 83, 84, 85, 86, 87, 88, 89, 90, 91, 92, 93, 94, 95, 96, 97, 98, 99, 100, 101, 102, 103, 104, 105, 106, 107]) from rfl)
theorem i4 : finfo Try.prog 4 d4 = some ⟨bodyOf Try.f4, [.tmp 6], [4]⟩ := finfo_at Try.func4 rfl (by kernel_rfl) (by kernel_rfl)
def e4 : Bool → AV := fun r => .v (.bool r)
set_option maxHeartbeats 1000000 in
theorem w4 (cp : CallP) (fu : Nat) (x1 : List Int) (x2 : List Int) (x3 : Int) (H13 : cp 13 [] = some (.v (.bool true))) (H25_0 : ∀ (a0 : List Int) (a1 : List Int) r, shape_Broadcast fu a0 a1 = some r → cp 25 [.arr a0.length (lm (ik .i64) a0), .arr a1.length (lm (ik .i64) a1)] = some (.tuple [.fresh 1 r.1.length (lm (ik .i64) r.1), .v (.int .i64 r.2)])) (H26_0 : ∀ (a0 : List Int) (a1 : List Int) r, ref04_Broadcast fu a0 a1 = some r → cp 26 [.arr a0.length (lm (ik .i64) a0), .arr a1.length (lm (ik .i64) a1)] = some (.tuple [.fresh 1 r.1.length (lm (ik .i64) r.1), .v (.int .i64 r.2)])) (H27_0 : ∀ (a0 : List Int) (a1 : List Int) (a2 : Int) r, shape_From fu a0 a1 a2 = some r → cp 27 [.arr a0.length (lm (ik .i64) a0), .arr a1.length (lm (ik .i64) a1), .v (.int .i64 a2)] = some (.tuple [.v (.int .i64 r.1), .v (.int .i64 r.2)])) (H28_0 : ∀ (a0 : List Int) (a1 : List Int) (a2 : Int) r, ref04_From fu a0 a1 a2 = some r → cp 28 [.arr a0.length (lm (ik .i64) a0), .arr a1.length (lm (ik .i64) a1), .v (.int .i64 a2)] = some (.tuple [.v (.int .i64 r.1), .v (.int .i64 r.2)])) (H23_0 : ∀ (a0 : List Int) (a1 : List Int) r, ref04_SameInts fu a0 a1 = some r → cp 23 [.arr a0.length (lm (ik .i64) a0), .arr a1.length (lm (ik .i64) a1)] = some (.v (.bool r))) : J (go Try.prog (inlC [14, 24]) cp (ciE Try.prog (inlC [14, 24]) cp fu 14 d14 ⟨b14, [.tmp 2], [22]⟩ (ciE Try.prog (inlC [14, 24]) cp fu 24 d24 ⟨b24, [.tmp 4], [4]⟩ noI)) 0 [] d4 fu (fin Try.prog [.tmp 6] [4]) (bodyOf Try.f4) (initE 0 [.arr x1.length (lm (ik .i64) x1), .arr x2.length (lm (ik .i64) x2), .v (.int .i64 x3)]) [] []) (law04_ShapeMeets fu x1 x2 x3) e4 := by
  unfold law04_ShapeMeets e4
  refine J.chk fun h1 => ?_
  refine J.chk fun h2 => ?_
  refine J.chk fun h3 => ?_
  refine J.chk fun h4 => ?_
  refine J.chk fun h5 => ?_
  refine J.chk fun h6 => ?_
  refine J.bind fun x4 h7 => ?_
  have e_h7 := H25_0 _ _ _ h7
  try simp only [NN, NT, LN] at e_h7
  refine J.bind fun x5 h8 => ?_
  have e_h8 := H26_0 _ _ _ h8
  try simp only [NN, NT, LN] at e_h8
  refine J.bind fun x6 h9 => ?_
  have e_h9 := H27_0 _ _ _ _ h9
  try simp only [NN, NT, LN] at e_h9
  refine J.bind fun x7 h10 => ?_
  have e_h10 := H28_0 _ _ _ _ h10
  try simp only [NN, NT, LN] at e_h10
  refine J.bind fun x8 h11 => ?_
  have e_h11 := H27_0 _ _ _ _ h11
  try simp only [NN, NT, LN] at e_h11
  refine J.bind fun x9 h12 => ?_
  have e_h12 := H28_0 _ _ _ _ h12
  try simp only [NN, NT, LN] at e_h12
  conv => arg 1; simp (disch := first | assumption | decide | with_unfolding_all rfl | omega | (simp only [LN] <;> omega) | (simp only [RO, OF])) only [bodyOf, Try.f4, RR, RM, LN, TT, d4_at, ↓reduceIte, Nat.reduceEqDiff, Nat.reduceLT, Nat.reduceLeDiff, Nat.reduceAdd, Nat.reduceSub, Nat.reduceMul, Nat.reduceMod, Nat.reduceDiv, Nat.reduceBEq, go_b14, bodyOf, Try.f14, d14_at, RI, initE, H13, e_h7, e_h8, e_h9, e_h10, e_h11, e_h12]
  refine J.eq go_seq ?_
  refine J.bind fun x10 h13 => ?_
  have e_h13 := H23_0 _ _ _ h13
  try simp only [NN, NT, LN] at e_h13
  conv => arg 1; simp (disch := first | assumption | decide | with_unfolding_all rfl | omega | (simp only [LN] <;> omega) | (simp only [RO, OF])) only [RR, RM, LN, TT, d4_at, ↓reduceIte, Nat.reduceEqDiff, Nat.reduceLT, Nat.reduceLeDiff, Nat.reduceAdd, Nat.reduceSub, Nat.reduceMul, Nat.reduceMod, Nat.reduceDiv, Nat.reduceBEq, go_b14, bodyOf, Try.f14, d14_at, RI, initE, H13, e_h7, e_h8, e_h9, e_h10, e_h11, e_h12, e_h13]
  refine J.ite (fun h14 => ?_) (fun h14 => ?_)
  · have h14' : x10 = true := h14
    conv => arg 1; simp (disch := first | assumption | decide | with_unfolding_all rfl | omega | (simp only [LN] <;> omega) | (simp only [RO, OF])) only [RR, RM, LN, TT, d4_at, ↓reduceIte, Nat.reduceEqDiff, Nat.reduceLT, Nat.reduceLeDiff, Nat.reduceAdd, Nat.reduceSub, Nat.reduceMul, Nat.reduceMod, Nat.reduceDiv, Nat.reduceBEq, go_b14, bodyOf, Try.f14, d14_at, RI, initE, H13, e_h7, e_h8, e_h9, e_h10, e_h11, e_h12, e_h13, h14']
    refine J.ite (fun h15 => ?_) (fun h15 => ?_)
    · have h15' := decide_eq_true h15
      conv => arg 1; simp (disch := first | assumption | decide | with_unfolding_all rfl | omega | (simp only [LN] <;> omega) | (simp only [RO, OF])) only [RR, RM, LN, TT, d4_at, ↓reduceIte, Nat.reduceEqDiff, Nat.reduceLT, Nat.reduceLeDiff, Nat.reduceAdd, Nat.reduceSub, Nat.reduceMul, Nat.reduceMod, Nat.reduceDiv, Nat.reduceBEq, go_b14, bodyOf, Try.f14, d14_at, RI, initE, H13, e_h7, e_h8, e_h9, e_h10, e_h11, e_h12, e_h13, h14', h15']
      refine J.ite (fun h16 => ?_) (fun h16 => ?_)
      · have h16' := decide_eq_true h16
        conv => arg 1; simp (disch := first | assumption | decide | with_unfolding_all rfl | omega | (simp only [LN] <;> omega) | (simp only [RO, OF])) only [RR, RM, LN, TT, d4_at, ↓reduceIte, Nat.reduceEqDiff, Nat.reduceLT, Nat.reduceLeDiff, Nat.reduceAdd, Nat.reduceSub, Nat.reduceMul, Nat.reduceMod, Nat.reduceDiv, Nat.reduceBEq, go_b14, bodyOf, Try.f14, d14_at, RI, initE, H13, e_h7, e_h8, e_h9, e_h10, e_h11, e_h12, e_h13, h14', h15', h16']
        refine J.ite (fun h17 => ?_) (fun h17 => ?_)
        · have h17' := decide_eq_true h17
          conv => arg 1; simp (disch := first | assumption | decide | with_unfolding_all rfl | omega | (simp only [LN] <;> omega) | (simp only [RO, OF])) only [RR, RM, LN, TT, d4_at, ↓reduceIte, Nat.reduceEqDiff, Nat.reduceLT, Nat.reduceLeDiff, Nat.reduceAdd, Nat.reduceSub, Nat.reduceMul, Nat.reduceMod, Nat.reduceDiv, Nat.reduceBEq, go_b14, bodyOf, Try.f14, d14_at, RI, initE, H13, e_h7, e_h8, e_h9, e_h10, e_h11, e_h12, e_h13, h14', h15', h16', h17']
          refine J.ite (fun h18 => ?_) (fun h18 => ?_)
          · have h18' := decide_eq_true h18
            conv => arg 1; simp (disch := first | assumption | decide | with_unfolding_all rfl | omega | (simp only [LN] <;> omega) | (simp only [RO, OF])) only [RR, RM, LN, TT, d4_at, ↓reduceIte, Nat.reduceEqDiff, Nat.reduceLT, Nat.reduceLeDiff, Nat.reduceAdd, Nat.reduceSub, Nat.reduceMul, Nat.reduceMod, Nat.reduceDiv, Nat.reduceBEq, go_b14, bodyOf, Try.f14, d14_at, RI, initE, H13, e_h7, e_h8, e_h9, e_h10, e_h11, e_h12, e_h13, h14', h15', h16', h17', h18']
            refine J.ite (fun h19 => ?_) (fun h19 => ?_)
            · have h19' := decide_eq_true h19
              refine J.chk fun h20 => ?_
              conv => arg 1; simp (disch := first | assumption | decide | with_unfolding_all rfl | omega | (simp only [LN] <;> omega) | (simp only [RO, OF])) only [RR, RM, LN, TT, d4_at, ↓reduceIte, Nat.reduceEqDiff, Nat.reduceLT, Nat.reduceLeDiff, Nat.reduceAdd, Nat.reduceSub, Nat.reduceMul, Nat.reduceMod, Nat.reduceDiv, Nat.reduceBEq, go_b14, bodyOf, Try.f14, d14_at, go_b24, bodyOf, Try.f24, d24_at, RI, initE, H13, e_h7, e_h8, e_h9, e_h10, e_h11, e_h12, e_h13, h14', h15', h16', h17', h18', h19']
              refine J.eq go_seq ?_
              refine J.bind fun x11 h21 => ?_
              have e_h21 := H23_0 _ _ _ h21
              try simp only [NN, NT, LN] at e_h21
              conv => arg 1; simp (disch := first | assumption | decide | with_unfolding_all rfl | omega | (simp only [LN] <;> omega) | (simp only [RO, OF])) only [RR, RM, LN, TT, d4_at, ↓reduceIte, Nat.reduceEqDiff, Nat.reduceLT, Nat.reduceLeDiff, Nat.reduceAdd, Nat.reduceSub, Nat.reduceMul, Nat.reduceMod, Nat.reduceDiv, Nat.reduceBEq, go_b14, bodyOf, Try.f14, d14_at, go_b24, bodyOf, Try.f24, d24_at, RI, initE, H13, e_h7, e_h8, e_h9, e_h10, e_h11, e_h12, e_h13, h14', h15', h16', h17', h18', h19', e_h21]
              refine J.ite (fun h22 => ?_) (fun h22 => ?_)
              · have h22' : x11 = true := h22
                refine J.chk fun h23 => ?_
                refine J.at fun x12 h24 h25 h26 => ?_
                simp only [Int.toNat_natCast] at h26
                conv => arg 1; simp (disch := first | assumption | decide | with_unfolding_all rfl | omega | (simp only [LN] <;> omega) | (simp only [RO, OF])) only [RR, RM, LN, TT, d4_at, ↓reduceIte, Nat.reduceEqDiff, Nat.reduceLT, Nat.reduceLeDiff, Nat.reduceAdd, Nat.reduceSub, Nat.reduceMul, Nat.reduceMod, Nat.reduceDiv, Nat.reduceBEq, go_b14, bodyOf, Try.f14, d14_at, go_b24, bodyOf, Try.f24, d24_at, RI, initE, H13, e_h7, e_h8, e_h9, e_h10, e_h11, e_h12, e_h13, h14', h15', h16', h17', h18', h19', e_h21, h22', lm_ik h26]
                refine J.ite (fun h27 => ?_) (fun h27 => ?_)
                · have h27' := decide_eq_true h27
                  refine J.chk fun h28 => ?_
                  refine J.at fun x13 h29 h30 h31 => ?_
                  conv => arg 1; simp (disch := first | assumption | decide | with_unfolding_all rfl | omega | (simp only [LN] <;> omega) | (simp only [RO, OF])) only [RR, RM, LN, TT, d4_at, ↓reduceIte, Nat.reduceEqDiff, Nat.reduceLT, Nat.reduceLeDiff, Nat.reduceAdd, Nat.reduceSub, Nat.reduceMul, Nat.reduceMod, Nat.reduceDiv, Nat.reduceBEq, go_b14, bodyOf, Try.f14, d14_at, go_b24, bodyOf, Try.f24, d24_at, RI, initE, H13, e_h7, e_h8, e_h9, e_h10, e_h11, e_h12, e_h13, h14', h15', h16', h17', h18', h19', e_h21, h22', lm_ik h26, h27', lm_ik h31]
                  refine J.eq ret_seq ?_
                  conv => arg 1; simp (disch := first | assumption | decide | with_unfolding_all rfl | omega | (simp only [LN] <;> omega) | (simp only [RO, OF])) only [RR, RM, LN, TT, d4_at, ↓reduceIte, Nat.reduceEqDiff, Nat.reduceLT, Nat.reduceLeDiff, Nat.reduceAdd, Nat.reduceSub, Nat.reduceMul, Nat.reduceMod, Nat.reduceDiv, Nat.reduceBEq, go_b14, bodyOf, Try.f14, d14_at, go_b24, bodyOf, Try.f24, d24_at, RI, initE, H13, e_h7, e_h8, e_h9, e_h10, e_h11, e_h12, e_h13, h14', h15', h16', h17', h18', h19', e_h21, h22', lm_ik h26, h27', lm_ik h31]
                  refine J.ite (fun h32 => ?_) (fun h32 => ?_)
                  · have h32' := decide_eq_true h32
                    refine J.chk fun h33 => ?_
                    conv => arg 1; simp (disch := first | assumption | decide | with_unfolding_all rfl | omega | (simp only [LN] <;> omega) | (simp only [RO, OF])) only [RR, RM, LN, TT, d4_at, ↓reduceIte, Nat.reduceEqDiff, Nat.reduceLT, Nat.reduceLeDiff, Nat.reduceAdd, Nat.reduceSub, Nat.reduceMul, Nat.reduceMod, Nat.reduceDiv, Nat.reduceBEq, go_b14, bodyOf, Try.f14, d14_at, go_b24, bodyOf, Try.f24, d24_at, RI, initE, H13, e_h7, e_h8, e_h9, e_h10, e_h11, e_h12, e_h13, h14', h15', h16', h17', h18', h19', e_h21, h22', lm_ik h26, h27', lm_ik h31, h32']
                    refine J.eq go_seq ?_
                    refine J.bind fun x14 h34 => ?_
                    have e_h34 := H23_0 _ _ _ h34
                    try simp only [NN, NT, LN] at e_h34
                    conv => arg 1; simp (disch := first | assumption | decide | with_unfolding_all rfl | omega | (simp only [LN] <;> omega) | (simp only [RO, OF])) only [RR, RM, LN, TT, d4_at, ↓reduceIte, Nat.reduceEqDiff, Nat.reduceLT, Nat.reduceLeDiff, Nat.reduceAdd, Nat.reduceSub, Nat.reduceMul, Nat.reduceMod, Nat.reduceDiv, Nat.reduceBEq, go_b14, bodyOf, Try.f14, d14_at, go_b24, bodyOf, Try.f24, d24_at, RI, initE, H13, e_h7, e_h8, e_h9, e_h10, e_h11, e_h12, e_h13, h14', h15', h16', h17', h18', h19', e_h21, h22', lm_ik h26, h27', lm_ik h31, h32', e_h34]
                    refine J.ite (fun h35 => ?_) (fun h35 => ?_)
                    · have h35' : x14 = true := h35
                      refine J.chk fun h36 => ?_
                      refine J.at fun x15 h37 h38 h39 => ?_
                      simp only [Int.toNat_natCast] at h39
                      conv => arg 1; simp (disch := first | assumption | decide | with_unfolding_all rfl | omega | (simp only [LN] <;> omega) | (simp only [RO, OF])) only [RR, RM, LN, TT, d4_at, ↓reduceIte, Nat.reduceEqDiff, Nat.reduceLT, Nat.reduceLeDiff, Nat.reduceAdd, Nat.reduceSub, Nat.reduceMul, Nat.reduceMod, Nat.reduceDiv, Nat.reduceBEq, go_b14, bodyOf, Try.f14, d14_at, go_b24, bodyOf, Try.f24, d24_at, RI, initE, H13, e_h7, e_h8, e_h9, e_h10, e_h11, e_h12, e_h13, h14', h15', h16', h17', h18', h19', e_h21, h22', lm_ik h26, h27', lm_ik h31, h32', e_h34, h35', lm_ik h39]
                      refine J.ite (fun h40 => ?_) (fun h40 => ?_)
                      · have h40' := decide_eq_true h40
                        refine J.chk fun h41 => ?_
                        refine J.at fun x16 h42 h43 h44 => ?_
                        conv => arg 1; simp (disch := first | assumption | decide | with_unfolding_all rfl | omega | (simp only [LN] <;> omega) | (simp only [RO, OF])) only [RR, RM, LN, TT, d4_at, ↓reduceIte, Nat.reduceEqDiff, Nat.reduceLT, Nat.reduceLeDiff, Nat.reduceAdd, Nat.reduceSub, Nat.reduceMul, Nat.reduceMod, Nat.reduceDiv, Nat.reduceBEq, go_b14, bodyOf, Try.f14, d14_at, go_b24, bodyOf, Try.f24, d24_at, RI, initE, H13, e_h7, e_h8, e_h9, e_h10, e_h11, e_h12, e_h13, h14', h15', h16', h17', h18', h19', e_h21, h22', lm_ik h26, h27', lm_ik h31, h32', e_h34, h35', lm_ik h39, h40', lm_ik h44]
                        refine J.eq ret_seq ?_
                        conv => arg 1; simp (disch := first | assumption | decide | with_unfolding_all rfl | omega | (simp only [LN] <;> omega) | (simp only [RO, OF])) only [RR, RM, LN, TT, d4_at, ↓reduceIte, Nat.reduceEqDiff, Nat.reduceLT, Nat.reduceLeDiff, Nat.reduceAdd, Nat.reduceSub, Nat.reduceMul, Nat.reduceMod, Nat.reduceDiv, Nat.reduceBEq, go_b14, bodyOf, Try.f14, d14_at, go_b24, bodyOf, Try.f24, d24_at, RI, initE, H13, e_h7, e_h8, e_h9, e_h10, e_h11, e_h12, e_h13, h14', h15', h16', h17', h18', h19', e_h21, h22', lm_ik h26, h27', lm_ik h31, h32', e_h34, h35', lm_ik h39, h40', lm_ik h44]
                        refine J.eq ret_seq ?_
                        refine J.some ?_
                        simp (disch := first | assumption | decide | with_unfolding_all rfl | omega | (simp only [LN] <;> omega) | (simp only [RO, OF])) only [RR, RM, LN, TT, d4_at, ↓reduceIte, Nat.reduceEqDiff, Nat.reduceLT, Nat.reduceLeDiff, Nat.reduceAdd, Nat.reduceSub, Nat.reduceMul, Nat.reduceMod, Nat.reduceDiv, Nat.reduceBEq, go_b14, bodyOf, Try.f14, d14_at, go_b24, bodyOf, Try.f24, d24_at, RI, initE, H13, e_h7, e_h8, e_h9, e_h10, e_h11, e_h12, e_h13, h14', h15', h16', h17', h18', h19', e_h21, h22', lm_ik h26, h27', lm_ik h31, h32', e_h34, h35', lm_ik h39, h40', lm_ik h44, FF, LN, NN, NT]
                      · have h40' := decide_eq_false h40
                        conv => arg 1; simp (disch := first | assumption | decide | with_unfolding_all rfl | omega | (simp only [LN] <;> omega) | (simp only [RO, OF])) only [RR, RM, LN, TT, d4_at, ↓reduceIte, Nat.reduceEqDiff, Nat.reduceLT, Nat.reduceLeDiff, Nat.reduceAdd, Nat.reduceSub, Nat.reduceMul, Nat.reduceMod, Nat.reduceDiv, Nat.reduceBEq, go_b14, bodyOf, Try.f14, d14_at, go_b24, bodyOf, Try.f24, d24_at, RI, initE, H13, e_h7, e_h8, e_h9, e_h10, e_h11, e_h12, e_h13, h14', h15', h16', h17', h18', h19', e_h21, h22', lm_ik h26, h27', lm_ik h31, h32', e_h34, h35', lm_ik h39, h40']
                        refine J.eq ret_seq ?_
                        conv => arg 1; simp (disch := first | assumption | decide | with_unfolding_all rfl | omega | (simp only [LN] <;> omega) | (simp only [RO, OF])) only [RR, RM, LN, TT, d4_at, ↓reduceIte, Nat.reduceEqDiff, Nat.reduceLT, Nat.reduceLeDiff, Nat.reduceAdd, Nat.reduceSub, Nat.reduceMul, Nat.reduceMod, Nat.reduceDiv, Nat.reduceBEq, go_b14, bodyOf, Try.f14, d14_at, go_b24, bodyOf, Try.f24, d24_at, RI, initE, H13, e_h7, e_h8, e_h9, e_h10, e_h11, e_h12, e_h13, h14', h15', h16', h17', h18', h19', e_h21, h22', lm_ik h26, h27', lm_ik h31, h32', e_h34, h35', lm_ik h39, h40']
                        refine J.eq ret_seq ?_
                        refine J.some ?_
                        simp (disch := first | assumption | decide | with_unfolding_all rfl | omega | (simp only [LN] <;> omega) | (simp only [RO, OF])) only [RR, RM, LN, TT, d4_at, ↓reduceIte, Nat.reduceEqDiff, Nat.reduceLT, Nat.reduceLeDiff, Nat.reduceAdd, Nat.reduceSub, Nat.reduceMul, Nat.reduceMod, Nat.reduceDiv, Nat.reduceBEq, go_b14, bodyOf, Try.f14, d14_at, go_b24, bodyOf, Try.f24, d24_at, RI, initE, H13, e_h7, e_h8, e_h9, e_h10, e_h11, e_h12, e_h13, h14', h15', h16', h17', h18', h19', e_h21, h22', lm_ik h26, h27', lm_ik h31, h32', e_h34, h35', lm_ik h39, h40', FF, LN, NN, NT]
                    · have h35' : x14 = false := Bool.eq_false_iff.2 h35
                      conv => arg 1; simp (disch := first | assumption | decide | with_unfolding_all rfl | omega | (simp only [LN] <;> omega) | (simp only [RO, OF])) only [RR, RM, LN, TT, d4_at, ↓reduceIte, Nat.reduceEqDiff, Nat.reduceLT, Nat.reduceLeDiff, Nat.reduceAdd, Nat.reduceSub, Nat.reduceMul, Nat.reduceMod, Nat.reduceDiv, Nat.reduceBEq, go_b14, bodyOf, Try.f14, d14_at, go_b24, bodyOf, Try.f24, d24_at, RI, initE, H13, e_h7, e_h8, e_h9, e_h10, e_h11, e_h12, e_h13, h14', h15', h16', h17', h18', h19', e_h21, h22', lm_ik h26, h27', lm_ik h31, h32', e_h34, h35']
                      refine J.eq ret_seq ?_
                      conv => arg 1; simp (disch := first | assumption | decide | with_unfolding_all rfl | omega | (simp only [LN] <;> omega) | (simp only [RO, OF])) only [RR, RM, LN, TT, d4_at, ↓reduceIte, Nat.reduceEqDiff, Nat.reduceLT, Nat.reduceLeDiff, Nat.reduceAdd, Nat.reduceSub, Nat.reduceMul, Nat.reduceMod, Nat.reduceDiv, Nat.reduceBEq, go_b14, bodyOf, Try.f14, d14_at, go_b24, bodyOf, Try.f24, d24_at, RI, initE, H13, e_h7, e_h8, e_h9, e_h10, e_h11, e_h12, e_h13, h14', h15', h16', h17', h18', h19', e_h21, h22', lm_ik h26, h27', lm_ik h31, h32', e_h34, h35']
                      refine J.eq ret_seq ?_
                      refine J.some ?_
                      simp (disch := first | assumption | decide | with_unfolding_all rfl | omega | (simp only [LN] <;> omega) | (simp only [RO, OF])) only [RR, RM, LN, TT, d4_at, ↓reduceIte, Nat.reduceEqDiff, Nat.reduceLT, Nat.reduceLeDiff, Nat.reduceAdd, Nat.reduceSub, Nat.reduceMul, Nat.reduceMod, Nat.reduceDiv, Nat.reduceBEq, go_b14, bodyOf, Try.f14, d14_at, go_b24, bodyOf, Try.f24, d24_at, RI, initE, H13, e_h7, e_h8, e_h9, e_h10, e_h11, e_h12, e_h13, h14', h15', h16', h17', h18', h19', e_h21, h22', lm_ik h26, h27', lm_ik h31, h32', e_h34, h35', FF, LN, NN, NT]
                  · have h32' := decide_eq_false h32
                    conv => arg 1; simp (disch := first | assumption | decide | with_unfolding_all rfl | omega | (simp only [LN] <;> omega) | (simp only [RO, OF])) only [RR, RM, LN, TT, d4_at, ↓reduceIte, Nat.reduceEqDiff, Nat.reduceLT, Nat.reduceLeDiff, Nat.reduceAdd, Nat.reduceSub, Nat.reduceMul, Nat.reduceMod, Nat.reduceDiv, Nat.reduceBEq, go_b14, bodyOf, Try.f14, d14_at, go_b24, bodyOf, Try.f24, d24_at, RI, initE, H13, e_h7, e_h8, e_h9, e_h10, e_h11, e_h12, e_h13, h14', h15', h16', h17', h18', h19', e_h21, h22', lm_ik h26, h27', lm_ik h31, h32']
                    refine J.eq ret_seq ?_
                    refine J.some ?_
                    simp (disch := first | assumption | decide | with_unfolding_all rfl | omega | (simp only [LN] <;> omega) | (simp only [RO, OF])) only [RR, RM, LN, TT, d4_at, ↓reduceIte, Nat.reduceEqDiff, Nat.reduceLT, Nat.reduceLeDiff, Nat.reduceAdd, Nat.reduceSub, Nat.reduceMul, Nat.reduceMod, Nat.reduceDiv, Nat.reduceBEq, go_b14, bodyOf, Try.f14, d14_at, go_b24, bodyOf, Try.f24, d24_at, RI, initE, H13, e_h7, e_h8, e_h9, e_h10, e_h11, e_h12, e_h13, h14', h15', h16', h17', h18', h19', e_h21, h22', lm_ik h26, h27', lm_ik h31, h32', FF, LN, NN, NT]
                · have h27' := decide_eq_false h27
                  conv => arg 1; simp (disch := first | assumption | decide | with_unfolding_all rfl | omega | (simp only [LN] <;> omega) | (simp only [RO, OF])) only [RR, RM, LN, TT, d4_at, ↓reduceIte, Nat.reduceEqDiff, Nat.reduceLT, Nat.reduceLeDiff, Nat.reduceAdd, Nat.reduceSub, Nat.reduceMul, Nat.reduceMod, Nat.reduceDiv, Nat.reduceBEq, go_b14, bodyOf, Try.f14, d14_at, go_b24, bodyOf, Try.f24, d24_at, RI, initE, H13, e_h7, e_h8, e_h9, e_h10, e_h11, e_h12, e_h13, h14', h15', h16', h17', h18', h19', e_h21, h22', lm_ik h26, h27']
                  refine J.eq ret_seq ?_
                  conv => arg 1; simp (disch := first | assumption | decide | with_unfolding_all rfl | omega | (simp only [LN] <;> omega) | (simp only [RO, OF])) only [RR, RM, LN, TT, d4_at, ↓reduceIte, Nat.reduceEqDiff, Nat.reduceLT, Nat.reduceLeDiff, Nat.reduceAdd, Nat.reduceSub, Nat.reduceMul, Nat.reduceMod, Nat.reduceDiv, Nat.reduceBEq, go_b14, bodyOf, Try.f14, d14_at, go_b24, bodyOf, Try.f24, d24_at, RI, initE, H13, e_h7, e_h8, e_h9, e_h10, e_h11, e_h12, e_h13, h14', h15', h16', h17', h18', h19', e_h21, h22', lm_ik h26, h27']
                  refine J.eq ret_seq ?_
                  refine J.some ?_
                  simp (disch := first | assumption | decide | with_unfolding_all rfl | omega | (simp only [LN] <;> omega) | (simp only [RO, OF])) only [RR, RM, LN, TT, d4_at, ↓reduceIte, Nat.reduceEqDiff, Nat.reduceLT, Nat.reduceLeDiff, Nat.reduceAdd, Nat.reduceSub, Nat.reduceMul, Nat.reduceMod, Nat.reduceDiv, Nat.reduceBEq, go_b14, bodyOf, Try.f14, d14_at, go_b24, bodyOf, Try.f24, d24_at, RI, initE, H13, e_h7, e_h8, e_h9, e_h10, e_h11, e_h12, e_h13, h14', h15', h16', h17', h18', h19', e_h21, h22', lm_ik h26, h27', FF, LN, NN, NT]
              · have h22' : x11 = false := Bool.eq_false_iff.2 h22
                conv => arg 1; simp (disch := first | assumption | decide | with_unfolding_all rfl | omega | (simp only [LN] <;> omega) | (simp only [RO, OF])) only [RR, RM, LN, TT, d4_at, ↓reduceIte, Nat.reduceEqDiff, Nat.reduceLT, Nat.reduceLeDiff, Nat.reduceAdd, Nat.reduceSub, Nat.reduceMul, Nat.reduceMod, Nat.reduceDiv, Nat.reduceBEq, go_b14, bodyOf, Try.f14, d14_at, go_b24, bodyOf, Try.f24, d24_at, RI, initE, H13, e_h7, e_h8, e_h9, e_h10, e_h11, e_h12, e_h13, h14', h15', h16', h17', h18', h19', e_h21, h22']
                refine J.eq ret_seq ?_
                conv => arg 1; simp (disch := first | assumption | decide | with_unfolding_all rfl | omega | (simp only [LN] <;> omega) | (simp only [RO, OF])) only [RR, RM, LN, TT, d4_at, ↓reduceIte, Nat.reduceEqDiff, Nat.reduceLT, Nat.reduceLeDiff, Nat.reduceAdd, Nat.reduceSub, Nat.reduceMul, Nat.reduceMod, Nat.reduceDiv, Nat.reduceBEq, go_b14, bodyOf, Try.f14, d14_at, go_b24, bodyOf, Try.f24, d24_at, RI, initE, H13, e_h7, e_h8, e_h9, e_h10, e_h11, e_h12, e_h13, h14', h15', h16', h17', h18', h19', e_h21, h22']
                refine J.eq ret_seq ?_
                refine J.some ?_
                simp (disch := first | assumption | decide | with_unfolding_all rfl | omega | (simp only [LN] <;> omega) | (simp only [RO, OF])) only [RR, RM, LN, TT, d4_at, ↓reduceIte, Nat.reduceEqDiff, Nat.reduceLT, Nat.reduceLeDiff, Nat.reduceAdd, Nat.reduceSub, Nat.reduceMul, Nat.reduceMod, Nat.reduceDiv, Nat.reduceBEq, go_b14, bodyOf, Try.f14, d14_at, go_b24, bodyOf, Try.f24, d24_at, RI, initE, H13, e_h7, e_h8, e_h9, e_h10, e_h11, e_h12, e_h13, h14', h15', h16', h17', h18', h19', e_h21, h22', FF, LN, NN, NT]
            · have h19' := decide_eq_false h19
              conv => arg 1; simp (disch := first | assumption | decide | with_unfolding_all rfl | omega | (simp only [LN] <;> omega) | (simp only [RO, OF])) only [RR, RM, LN, TT, d4_at, ↓reduceIte, Nat.reduceEqDiff, Nat.reduceLT, Nat.reduceLeDiff, Nat.reduceAdd, Nat.reduceSub, Nat.reduceMul, Nat.reduceMod, Nat.reduceDiv, Nat.reduceBEq, go_b14, bodyOf, Try.f14, d14_at, go_b24, bodyOf, Try.f24, d24_at, RI, initE, H13, e_h7, e_h8, e_h9, e_h10, e_h11, e_h12, e_h13, h14', h15', h16', h17', h18', h19']
              refine J.eq ret_seq ?_
              refine J.some ?_
              simp (disch := first | assumption | decide | with_unfolding_all rfl | omega | (simp only [LN] <;> omega) | (simp only [RO, OF])) only [RR, RM, LN, TT, d4_at, ↓reduceIte, Nat.reduceEqDiff, Nat.reduceLT, Nat.reduceLeDiff, Nat.reduceAdd, Nat.reduceSub, Nat.reduceMul, Nat.reduceMod, Nat.reduceDiv, Nat.reduceBEq, go_b14, bodyOf, Try.f14, d14_at, go_b24, bodyOf, Try.f24, d24_at, RI, initE, H13, e_h7, e_h8, e_h9, e_h10, e_h11, e_h12, e_h13, h14', h15', h16', h17', h18', h19', FF, LN, NN, NT]
          · have h18' := decide_eq_false h18
            conv => arg 1; simp (disch := first | assumption | decide | with_unfolding_all rfl | omega | (simp only [LN] <;> omega) | (simp only [RO, OF])) only [RR, RM, LN, TT, d4_at, ↓reduceIte, Nat.reduceEqDiff, Nat.reduceLT, Nat.reduceLeDiff, Nat.reduceAdd, Nat.reduceSub, Nat.reduceMul, Nat.reduceMod, Nat.reduceDiv, Nat.reduceBEq, go_b14, bodyOf, Try.f14, d14_at, go_b24, bodyOf, Try.f24, d24_at, RI, initE, H13, e_h7, e_h8, e_h9, e_h10, e_h11, e_h12, e_h13, h14', h15', h16', h17', h18']
            refine J.eq ret_seq ?_
            refine J.some ?_
            simp (disch := first | assumption | decide | with_unfolding_all rfl | omega | (simp only [LN] <;> omega) | (simp only [RO, OF])) only [RR, RM, LN, TT, d4_at, ↓reduceIte, Nat.reduceEqDiff, Nat.reduceLT, Nat.reduceLeDiff, Nat.reduceAdd, Nat.reduceSub, Nat.reduceMul, Nat.reduceMod, Nat.reduceDiv, Nat.reduceBEq, go_b14, bodyOf, Try.f14, d14_at, go_b24, bodyOf, Try.f24, d24_at, RI, initE, H13, e_h7, e_h8, e_h9, e_h10, e_h11, e_h12, e_h13, h14', h15', h16', h17', h18', FF, LN, NN, NT]
        · have h17' := decide_eq_false h17
          conv => arg 1; simp (disch := first | assumption | decide | with_unfolding_all rfl | omega | (simp only [LN] <;> omega) | (simp only [RO, OF])) only [RR, RM, LN, TT, d4_at, ↓reduceIte, Nat.reduceEqDiff, Nat.reduceLT, Nat.reduceLeDiff, Nat.reduceAdd, Nat.reduceSub, Nat.reduceMul, Nat.reduceMod, Nat.reduceDiv, Nat.reduceBEq, go_b14, bodyOf, Try.f14, d14_at, go_b24, bodyOf, Try.f24, d24_at, RI, initE, H13, e_h7, e_h8, e_h9, e_h10, e_h11, e_h12, e_h13, h14', h15', h16', h17']
          refine J.eq ret_seq ?_
          refine J.some ?_
          simp (disch := first | assumption | decide | with_unfolding_all rfl | omega | (simp only [LN] <;> omega) | (simp only [RO, OF])) only [RR, RM, LN, TT, d4_at, ↓reduceIte, Nat.reduceEqDiff, Nat.reduceLT, Nat.reduceLeDiff, Nat.reduceAdd, Nat.reduceSub, Nat.reduceMul, Nat.reduceMod, Nat.reduceDiv, Nat.reduceBEq, go_b14, bodyOf, Try.f14, d14_at, go_b24, bodyOf, Try.f24, d24_at, RI, initE, H13, e_h7, e_h8, e_h9, e_h10, e_h11, e_h12, e_h13, h14', h15', h16', h17', FF, LN, NN, NT]
      · have h16' := decide_eq_false h16
        conv => arg 1; simp (disch := first | assumption | decide | with_unfolding_all rfl | omega | (simp only [LN] <;> omega) | (simp only [RO, OF])) only [RR, RM, LN, TT, d4_at, ↓reduceIte, Nat.reduceEqDiff, Nat.reduceLT, Nat.reduceLeDiff, Nat.reduceAdd, Nat.reduceSub, Nat.reduceMul, Nat.reduceMod, Nat.reduceDiv, Nat.reduceBEq, go_b14, bodyOf, Try.f14, d14_at, go_b24, bodyOf, Try.f24, d24_at, RI, initE, H13, e_h7, e_h8, e_h9, e_h10, e_h11, e_h12, e_h13, h14', h15', h16']
        refine J.eq ret_seq ?_
        refine J.some ?_
        simp (disch := first | assumption | decide | with_unfolding_all rfl | omega | (simp only [LN] <;> omega) | (simp only [RO, OF])) only [RR, RM, LN, TT, d4_at, ↓reduceIte, Nat.reduceEqDiff, Nat.reduceLT, Nat.reduceLeDiff, Nat.reduceAdd, Nat.reduceSub, Nat.reduceMul, Nat.reduceMod, Nat.reduceDiv, Nat.reduceBEq, go_b14, bodyOf, Try.f14, d14_at, go_b24, bodyOf, Try.f24, d24_at, RI, initE, H13, e_h7, e_h8, e_h9, e_h10, e_h11, e_h12, e_h13, h14', h15', h16', FF, LN, NN, NT]
    · have h15' := decide_eq_false h15
      conv => arg 1; simp (disch := first | assumption | decide | with_unfolding_all rfl | omega | (simp only [LN] <;> omega) | (simp only [RO, OF])) only [RR, RM, LN, TT, d4_at, ↓reduceIte, Nat.reduceEqDiff, Nat.reduceLT, Nat.reduceLeDiff, Nat.reduceAdd, Nat.reduceSub, Nat.reduceMul, Nat.reduceMod, Nat.reduceDiv, Nat.reduceBEq, go_b14, bodyOf, Try.f14, d14_at, go_b24, bodyOf, Try.f24, d24_at, RI, initE, H13, e_h7, e_h8, e_h9, e_h10, e_h11, e_h12, e_h13, h14', h15']
      refine J.eq ret_seq ?_
      refine J.some ?_
      simp (disch := first | assumption | decide | with_unfolding_all rfl | omega | (simp only [LN] <;> omega) | (simp only [RO, OF])) only [RR, RM, LN, TT, d4_at, ↓reduceIte, Nat.reduceEqDiff, Nat.reduceLT, Nat.reduceLeDiff, Nat.reduceAdd, Nat.reduceSub, Nat.reduceMul, Nat.reduceMod, Nat.reduceDiv, Nat.reduceBEq, go_b14, bodyOf, Try.f14, d14_at, go_b24, bodyOf, Try.f24, d24_at, RI, initE, H13, e_h7, e_h8, e_h9, e_h10, e_h11, e_h12, e_h13, h14', h15', FF, LN, NN, NT]
  · have h14' : x10 = false := Bool.eq_false_iff.2 h14
    conv => arg 1; simp (disch := first | assumption | decide | with_unfolding_all rfl | omega | (simp only [LN] <;> omega) | (simp only [RO, OF])) only [RR, RM, LN, TT, d4_at, ↓reduceIte, Nat.reduceEqDiff, Nat.reduceLT, Nat.reduceLeDiff, Nat.reduceAdd, Nat.reduceSub, Nat.reduceMul, Nat.reduceMod, Nat.reduceDiv, Nat.reduceBEq, go_b14, bodyOf, Try.f14, d14_at, go_b24, bodyOf, Try.f24, d24_at, RI, initE, H13, e_h7, e_h8, e_h9, e_h10, e_h11, e_h12, e_h13, h14']
    refine J.eq ret_seq ?_
    refine J.some ?_
    simp (disch := first | assumption | decide | with_unfolding_all rfl | omega | (simp only [LN] <;> omega) | (simp only [RO, OF])) only [RR, RM, LN, TT, d4_at, ↓reduceIte, Nat.reduceEqDiff, Nat.reduceLT, Nat.reduceLeDiff, Nat.reduceAdd, Nat.reduceSub, Nat.reduceMul, Nat.reduceMod, Nat.reduceDiv, Nat.reduceBEq, go_b14, bodyOf, Try.f14, d14_at, go_b24, bodyOf, Try.f24, d24_at, RI, initE, H13, e_h7, e_h8, e_h9, e_h10, e_h11, e_h12, e_h13, h14', FF, LN, NN, NT]
noncomputable def t4 (fu : Nat) : CallP := orE 13 (mkC (fun (_ : Unit) => ([] : List AV)) (fun _ => some true) (fun b => .v (.bool b))) (orE 25 (mkC (fun (t : (List Int) × (List Int)) => ([.arr t.1.length (lm (ik .i64) t.1), .arr t.2.length (lm (ik .i64) t.2)] : List AV)) (fun t => shape_Broadcast fu t.1 t.2) e25) (orE 26 (mkC (fun (t : (List Int) × (List Int)) => ([.arr t.1.length (lm (ik .i64) t.1), .arr t.2.length (lm (ik .i64) t.2)] : List AV)) (fun t => ref04_Broadcast fu t.1 t.2) e26) (orE 27 (mkC (fun (t : (List Int) × (List Int) × Int) => ([.arr t.1.length (lm (ik .i64) t.1), .arr t.2.1.length (lm (ik .i64) t.2.1), .v (.int .i64 t.2.2)] : List AV)) (fun t => shape_From fu t.1 t.2.1 t.2.2) e27) (orE 28 (mkC (fun (t : (List Int) × (List Int) × Int) => ([.arr t.1.length (lm (ik .i64) t.1), .arr t.2.1.length (lm (ik .i64) t.2.1), .v (.int .i64 t.2.2)] : List AV)) (fun t => ref04_From fu t.1 t.2.1 t.2.2) e28) (orE 23 (mkC (fun (t : (List Int) × (List Int)) => ([.arr t.1.length (lm (ik .i64) t.1), .arr t.2.length (lm (ik .i64) t.2)] : List AV)) (fun t => ref04_SameInts fu t.1 t.2) e23) (noP))))))
theorem t4_ok (fu : Nat) : CpOK Try.prog (t4 fu ) := orE_ok (orE_ok (orE_ok (orE_ok (orE_ok (orE_ok (noP_ok) (mkC_ok (fun t b h => ok23 fu t.1 t.2  b h))) (mkC_ok (fun t b h => ok28 fu t.1 t.2.1 t.2.2  b h))) (mkC_ok (fun t b h => ok27 fu t.1 t.2.1 t.2.2  b h))) (mkC_ok (fun t b h => ok26 fu t.1 t.2  b h))) (mkC_ok (fun t b h => ok25 fu t.1 t.2  b h))) (mkC_ok (fun _ b h => by injection h with h; subst h; exact awake13))
theorem ok4 (fu : Nat) (x1 : List Int) (x2 : List Int) (x3 : Int) (r) (h : law04_ShapeMeets fu x1 x2 x3 = some r) : PureOK Try.prog 4 [.arr x1.length (lm (ik .i64) x1), .arr x2.length (lm (ik .i64) x2), .v (.int .i64 x3)] (e4 r) :=
  pure_J mixed (cp := t4 fu ) (t4_ok fu  ) (ciE_ok mixed (t4_ok fu  ) i14 (ciE_ok mixed (t4_ok fu  ) i24 noI_ok)) i4 (w4 _ fu x1 x2 x3  (orE_hit (mkC_at (a := ()) (fun _ _ _ => rfl) rfl)) (fun a0 a1 r h => orE_miss (by decide) (orE_hit (mkC_at (a := (a0, a1)) (by intro a b h; first | (exact rfl) | (simp only [INJ] at h; first | exact h | (simp_all [Prod.ext_iff]) )) h))) (fun a0 a1 r h => orE_miss (by decide) (orE_miss (by decide) (orE_hit (mkC_at (a := (a0, a1)) (by intro a b h; first | (exact rfl) | (simp only [INJ] at h; first | exact h | (simp_all [Prod.ext_iff]) )) h)))) (fun a0 a1 a2 r h => orE_miss (by decide) (orE_miss (by decide) (orE_miss (by decide) (orE_hit (mkC_at (a := (a0, a1, a2)) (by intro a b h; first | (exact rfl) | (simp only [INJ] at h; first | exact h | (simp_all [Prod.ext_iff]) )) h))))) (fun a0 a1 a2 r h => orE_miss (by decide) (orE_miss (by decide) (orE_miss (by decide) (orE_miss (by decide) (orE_hit (mkC_at (a := (a0, a1, a2)) (by intro a b h; first | (exact rfl) | (simp only [INJ] at h; first | exact h | (simp_all [Prod.ext_iff]) )) h)))))) (fun a0 a1 r h => orE_miss (by decide) (orE_miss (by decide) (orE_miss (by decide) (orE_miss (by decide) (orE_miss (by decide) (orE_hit (mkC_at (a := (a0, a1)) (by intro a b h; first | (exact rfl) | (simp only [INJ] at h; first | exact h | (simp_all [Prod.ext_iff]) )) h)))))))) h
end Go.Av
