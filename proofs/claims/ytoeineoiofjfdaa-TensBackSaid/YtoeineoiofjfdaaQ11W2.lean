/- The walks of the plain functions, part 2. Made by a program of mine. Conditions: none. -/
import Derived.Test.YtoeineoiofjfdaaQ11W1
set_option linter.unusedVariables false
set_option linter.unusedSimpArgs false
set_option linter.defProp false
set_option maxRecDepth 4000
open Go Go.Proofs
namespace Go.Av
/-! 41: lattice/tens.Bytes -/
def d41 : List (Nat × List Nat) := [(0, [0, 2, 3]), (0, [19, 20, 21]), (0, [13, 14]), (0, []), (0, [15]), (0, [31, 32, 33]), (0, [17]), (0, []), (0, [4, 1000005]), (0, [43, 44, 45]), (0, [18]), (0, []), (0, []), (0, []), (0, [23, 24]), (0, []), (0, [7, 25, 26, 27, 28]), (0, []), (0, [29]), (0, []), (0, [30]), (0, []), (0, []), (0, []), (0, [35, 36]), (0, []), (0, [9, 37, 38, 39, 40]), (0, []), (0, [41]), (0, []), (0, [1, 42]), (0, []), (0, []), (0, []), (0, [47, 48]), (0, []), (0, []), (0, []), (0, [11]), (0, []), (0, []), (0, []), (0, [12, 50, 51, 52]), (0, []), (0, [53]), (0, []), (0, [5, 54])]
def d41_at := And.intro (show d41.getD 0 (0, []) = (0, [0, 2, 3]) from rfl) <| And.intro (show d41.getD 1 (0, []) = (0, [19, 20, 21]) from rfl) <| And.intro (show d41.getD 2 (0, []) = (0, [13, 14]) from rfl) <| And.intro (show d41.getD 3 (0, []) = (0, []) from rfl) <| And.intro (show d41.getD 4 (0, []) = (0, [15]) from rfl) <| And.intro (show d41.getD 5 (0, []) = (0, [31, 32, 33]) from rfl) <| And.intro (show d41.getD 6 (0, []) = (0, [17]) from rfl) <| And.intro (show d41.getD 7 (0, []) = (0, []) from rfl) <| And.intro (show d41.getD 8 (0, []) = (0, [4, 1000005]) from rfl) <| And.intro (show d41.getD 9 (0, []) = (0, [43, 44, 45]) from rfl) <| And.intro (show d41.getD 10 (0, []) = (0, [18]) from rfl) <| And.intro (show d41.getD 11 (0, []) = (0, []) from rfl) <| And.intro (show d41.getD 12 (0, []) = (0, []) from rfl) <| And.intro (show d41.getD 13 (0, []) = (0, []) from rfl) <| And.intro (show d41.getD 14 (0, []) = (0, [23, 24]) from rfl) <| And.intro (show d41.getD 15 (0, []) = (0, []) from rfl) <| And.intro (show d41.getD 16 (0, []) = (0, [7, 25, 26, 27, 28]) from rfl) <| And.intro (show d41.getD 17 (0, []) = (0, []) from rfl) <| And.intro (show d41.getD 18 (0, []) = (0, [29]) from rfl) <| And.intro (show d41.getD 19 (0, []) = (0, []) from rfl) <| And.intro (show d41.getD 20 (0, []) = (0, [30]) from rfl) <| And.intro (show d41.getD 21 (0, []) = (0, []) from rfl) <| And.intro (show d41.getD 22 (0, []) = (0, []) from rfl) <| And.intro (show d41.getD 23 (0, []) = (0, []) from rfl) <| And.intro (show d41.getD 24 (0, []) = (0, [35, 36]) from rfl) <| And.intro (show d41.getD 25 (0, []) = (0, []) from rfl) <| And.intro (show d41.getD 26 (0, []) = (0, [9, 37, 38, 39, 40]) from rfl) <| And.intro (show d41.getD 27 (0, []) = (0, []) from rfl) <| And.intro (show d41.getD 28 (0, []) = (0, [41]) from rfl) <| And.intro (show d41.getD 29 (0, []) = (0, []) from rfl) <| And.intro (show d41.getD 30 (0, []) = (0, [1, 42]) from rfl) <| And.intro (show d41.getD 31 (0, []) = (0, []) from rfl) <| And.intro (show d41.getD 32 (0, []) = (0, []) from rfl) <| And.intro (show d41.getD 33 (0, []) = (0, []) from rfl) <| And.intro (show d41.getD 34 (0, []) = (0, [47, 48]) from rfl) <| And.intro (show d41.getD 35 (0, []) = (0, []) from rfl) <| And.intro (show d41.getD 36 (0, []) = (0, []) from rfl) <| And.intro (show d41.getD 37 (0, []) = (0, []) from rfl) <| And.intro (show d41.getD 38 (0, []) = (0, [11]) from rfl) <| And.intro (show d41.getD 39 (0, []) = (0, []) from rfl) <| And.intro (show d41.getD 40 (0, []) = (0, []) from rfl) <| And.intro (show d41.getD 41 (0, []) = (0, []) from rfl) <| And.intro (show d41.getD 42 (0, []) = (0, [12, 50, 51, 52]) from rfl) <| And.intro (show d41.getD 43 (0, []) = (0, []) from rfl) <| And.intro (show d41.getD 44 (0, []) = (0, [53]) from rfl) <| And.intro (show d41.getD 45 (0, []) = (0, []) from rfl) <| (show d41.getD 46 (0, []) = (0, [5, 54]) from rfl)
theorem i41 : finfo Try.prog 41 d41 = some ⟨bodyOf Try.f41, [.tmp 2, .tmp 3], [53, 25]⟩ := finfo_at Try.func41 rfl (by kernel_rfl) (by kernel_rfl)
def e41 : ((List Int) × Int) → AV := fun r => .tuple [.fresh 1 r.1.length (lm (ik .u8) r.1), .v (.int .i64 r.2)]
set_option maxHeartbeats 1000000 in
theorem w41 (cp : CallP) (fu : Nat) (x1 : T_Tensor) (H48_0 : ∀ (a0 : T_Tensor) r, tens_Check fu a0 = some r → cp 48 [.agg (c_T_Tensor a0)] = some (.v (.int .i64 r))) : J (go Try.prog (inlC [68]) cp (ciE Try.prog (inlC [68]) cp fu 68 d68 ⟨b68, [.tmp 6], [53]⟩ noI) 0 [] d41 fu (fin Try.prog [.tmp 2, .tmp 3] [53, 25]) (bodyOf Try.f41) (initE 0 [.agg (c_T_Tensor x1)]) [] []) (tens_Bytes fu x1) e41 := by
  unfold tens_Bytes e41
  conv => arg 1; simp (maxSteps := 1000000) (disch := first | assumption | decide | with_unfolding_all rfl | omega | (simp only [LN] <;> omega) | (simp only [RO, OF])) only [bodyOf, Try.f41, RR, RM, LN, TT, d41_at, ↓reduceIte, Nat.reduceEqDiff, Nat.reduceLT, Nat.reduceLeDiff, Nat.reduceAdd, Nat.reduceSub, Nat.reduceMul, Nat.reduceMod, Nat.reduceDiv, Nat.reduceBEq, RI, RIk, initE, RH]
  refine J.eq go_seq ?_
  refine J.bind fun x2 h1 => ?_
  have e_h1 := H48_0 _ _ h1
  try simp only [NN, NT, LN] at e_h1
  conv => arg 1; simp (maxSteps := 1000000) (disch := first | assumption | decide | with_unfolding_all rfl | omega | (simp only [LN] <;> omega) | (simp only [RO, OF])) only [RR, RM, LN, TT, d41_at, ↓reduceIte, Nat.reduceEqDiff, Nat.reduceLT, Nat.reduceLeDiff, Nat.reduceAdd, Nat.reduceSub, Nat.reduceMul, Nat.reduceMod, Nat.reduceDiv, Nat.reduceBEq, RI, RIk, initE, RH, e_h1]
  refine J.ite (fun h2 => ?_) (fun h2 => ?_)
  · have h2' := decide_eq_true h2
    conv => arg 1; simp (maxSteps := 1000000) (disch := first | assumption | decide | with_unfolding_all rfl | omega | (simp only [LN] <;> omega) | (simp only [RO, OF])) only [RR, RM, LN, TT, d41_at, ↓reduceIte, Nat.reduceEqDiff, Nat.reduceLT, Nat.reduceLeDiff, Nat.reduceAdd, Nat.reduceSub, Nat.reduceMul, Nat.reduceMod, Nat.reduceDiv, Nat.reduceBEq, RI, RIk, initE, RH, e_h1, h2']
    refine J.eq ret_seq ?_
    conv => arg 1; simp (maxSteps := 1000000) (disch := first | assumption | decide | with_unfolding_all rfl | omega | (simp only [LN] <;> omega) | (simp only [RO, OF])) only [RR, RM, LN, TT, d41_at, ↓reduceIte, Nat.reduceEqDiff, Nat.reduceLT, Nat.reduceLeDiff, Nat.reduceAdd, Nat.reduceSub, Nat.reduceMul, Nat.reduceMod, Nat.reduceDiv, Nat.reduceBEq, go_b68, bodyOf, Try.f68, d68_at, RI, RIk, initE, RH, e_h1, h2']
    refine J.joinS (fun (t : List Int) => ([(1, .ptr (0, 1, 0) 0 0), (5, .own (0, 5, 77) 0 t.length t.length)], [((0, 1, 0), .bx true ([.v (.int .i64 x1.fType), .arr x1.fDims.length (lm (ik .i64) x1.fDims), .arr x1.fF.length (lm (ik .u32) x1.fF), .arr x1.fI.length (lm (ik .i64) x1.fI), .arr x1.fB.length (lm (bk) x1.fB)])), ((0, 5, 77), .sl true true 1 t.length (lm (ik .u8) t))])) (fun t => tens_Bytes_k1 fu x1 t) ?_ (fun hj1 => ?_)
    · rintro x3
      show J _ (tens_Bytes_k1 fu x1 x3) _
      unfold tens_Bytes_k1
      refine J.joinS (fun (t : List Int) => ([(1, .ptr (0, 1, 0) 0 0), (5, .own (0, 5, 77) 0 t.length t.length)], [((0, 1, 0), .bx true ([.v (.int .i64 x1.fType), .arr x1.fDims.length (lm (ik .i64) x1.fDims), .arr x1.fF.length (lm (ik .u32) x1.fF), .arr x1.fI.length (lm (ik .i64) x1.fI), .arr x1.fB.length (lm (bk) x1.fB)])), ((0, 5, 77), .sl true true 1 t.length (lm (ik .u8) t))])) (fun t => tens_Bytes_k2 fu x1 t) ?_ (fun hj2 => ?_)
      · rintro x4
        show J _ (tens_Bytes_k2 fu x1 x4) _
        unfold tens_Bytes_k2
        refine J.eq go_seq ?_
        conv => arg 1; simp (maxSteps := 1000000) (disch := first | assumption | decide | with_unfolding_all rfl | omega | (simp only [LN] <;> omega) | (simp only [RO, OF])) only [RR, RM, LN, TT, d41_at, ↓reduceIte, Nat.reduceEqDiff, Nat.reduceLT, Nat.reduceLeDiff, Nat.reduceAdd, Nat.reduceSub, Nat.reduceMul, Nat.reduceMod, Nat.reduceDiv, Nat.reduceBEq, go_b68, bodyOf, Try.f68, d68_at, RI, RIk, initE, RH, e_h1, h2']
        unfold tens_Bytes_W1
        refine J.loop (fun (s : (List Int) × Int) => ([(5, .own (0, 5, 77) 0 s.1.length s.1.length), (43, .arr x1.fB.length (lm (bk) x1.fB)), (44, .v (.int .i64 (x1.fB.length : Int))), (45, .v (.int .i64 s.2))], [((0, 5, 77), .sl true true 1 s.1.length (lm (ik .u8) s.1))])) (fun next s => tens_Bytes_L1 fu x1 (fun x9 x10 => next (x9, x10)) s.1 s.2) (s0 := (x4, 0)) ?_ ?_ ?_
        · first | rfl | (simp only [LN, NN, NT])
        · first | (simp (disch := first | assumption | decide | with_unfolding_all rfl | omega | (simp only [LN] <;> omega) | (simp only [RO, OF])) only [RR, ↓reduceIte, Nat.reduceEqDiff, Nat.reduceLT, Nat.reduceLeDiff, Nat.reduceAdd, Nat.reduceSub, Nat.reduceMul, Nat.reduceMod, Nat.reduceDiv, Nat.reduceBEq, LN, NN, NT]; done) | rfl
        rintro next k1 hn1 ⟨x9, x10⟩
        let nx1 : (List Int) → Int → Option ((List Int) × Int) := (fun x9 x10 => next (x9, x10))
        show J _ (tens_Bytes_L1 fu x1 nx1 x9 x10) _
        unfold tens_Bytes_L1
        conv => arg 1; simp (maxSteps := 1000000) (disch := first | assumption | decide | with_unfolding_all rfl | omega | (simp only [LN] <;> omega) | (simp only [RO, OF])) only [RR, RM, LN, TT, d41_at, ↓reduceIte, Nat.reduceEqDiff, Nat.reduceLT, Nat.reduceLeDiff, Nat.reduceAdd, Nat.reduceSub, Nat.reduceMul, Nat.reduceMod, Nat.reduceDiv, Nat.reduceBEq, go_b68, bodyOf, Try.f68, d68_at, RI, RIk, initE, RH, e_h1, h2']
        refine J.eq go_seq ?_
        conv => arg 1; simp (maxSteps := 1000000) (disch := first | assumption | decide | with_unfolding_all rfl | omega | (simp only [LN] <;> omega) | (simp only [RO, OF])) only [RR, RM, LN, TT, d41_at, ↓reduceIte, Nat.reduceEqDiff, Nat.reduceLT, Nat.reduceLeDiff, Nat.reduceAdd, Nat.reduceSub, Nat.reduceMul, Nat.reduceMod, Nat.reduceDiv, Nat.reduceBEq, go_b68, bodyOf, Try.f68, d68_at, RI, RIk, initE, RH, e_h1, h2']
        refine J.ite (fun h3 => ?_) (fun h3 => ?_)
        · have h3' := decide_eq_true h3
          have h3'' : decide ((x1.fB.length : Int) ≤ x10) = false := decide_eq_false (by omega)
          conv => arg 1; simp (maxSteps := 1000000) (disch := first | assumption | decide | with_unfolding_all rfl | omega | (simp only [LN] <;> omega) | (simp only [RO, OF])) only [RR, RM, LN, TT, d41_at, ↓reduceIte, Nat.reduceEqDiff, Nat.reduceLT, Nat.reduceLeDiff, Nat.reduceAdd, Nat.reduceSub, Nat.reduceMul, Nat.reduceMod, Nat.reduceDiv, Nat.reduceBEq, go_b68, bodyOf, Try.f68, d68_at, RI, RIk, initE, RH, e_h1, h2', h3'', h3']
          refine J.eq ret_seq ?_
          refine J.eq go_seq ?_
          refine J.at fun x15 h4 h5 h6 => ?_
          conv => arg 1; simp (maxSteps := 1000000) (disch := first | assumption | decide | with_unfolding_all rfl | omega | (simp only [LN] <;> omega) | (simp only [RO, OF])) only [RR, RM, LN, TT, d41_at, ↓reduceIte, Nat.reduceEqDiff, Nat.reduceLT, Nat.reduceLeDiff, Nat.reduceAdd, Nat.reduceSub, Nat.reduceMul, Nat.reduceMod, Nat.reduceDiv, Nat.reduceBEq, go_b68, bodyOf, Try.f68, d68_at, RI, RIk, initE, RH, e_h1, h2', h3'', h3', lm_bk h6]
          refine J.joinS (fun (t : Int) => ([(5, .own (0, 5, 77) 0 x9.length x9.length), (12, .v (.int .u64 t)), (43, .arr x1.fB.length (lm (bk) x1.fB)), (44, .v (.int .i64 (x1.fB.length : Int))), (45, .v (.int .i64 x10))], [((0, 5, 77), .sl true true 1 x9.length (lm (ik .u8) x9))])) (fun t => tens_Bytes_k3 fu nx1 x9 x10 t) ?_ (fun hj3 => ?_)
          · rintro x16
            show J _ (tens_Bytes_k3 fu nx1 x9 x10 x16) _
            unfold tens_Bytes_k3
            conv => arg 1; simp (maxSteps := 1000000) (disch := first | assumption | decide | with_unfolding_all rfl | omega | (simp only [LN] <;> omega) | (simp only [RO, OF])) only [RR, RM, LN, TT, d41_at, ↓reduceIte, Nat.reduceEqDiff, Nat.reduceLT, Nat.reduceLeDiff, Nat.reduceAdd, Nat.reduceSub, Nat.reduceMul, Nat.reduceMod, Nat.reduceDiv, Nat.reduceBEq, go_b68, bodyOf, Try.f68, d68_at, RI, RIk, initE, RH, e_h1, h2', h3'', h3', lm_bk h6]
            refine J.eq go_seq ?_
            conv => arg 1; simp (maxSteps := 1000000) (disch := first | assumption | decide | with_unfolding_all rfl | omega | (simp only [LN] <;> omega) | (simp only [RO, OF])) only [RR, RM, LN, TT, d41_at, ↓reduceIte, Nat.reduceEqDiff, Nat.reduceLT, Nat.reduceLeDiff, Nat.reduceAdd, Nat.reduceSub, Nat.reduceMul, Nat.reduceMod, Nat.reduceDiv, Nat.reduceBEq, go_b68, bodyOf, Try.f68, d68_at, RI, RIk, initE, RH, e_h1, h2', h3'', h3', lm_bk h6]
            unfold tens_Bytes_W2
            refine J.loop (fun (s : (List Int) × Int) => ([(0, .own (0, 5, 77) 0 s.1.length s.1.length), (1, .v (.int .u64 x16)), (8, .v (.int .i64 1)), (9, .v (.int .i64 s.2))], [((0, 5, 77), .sl true true 1 s.1.length (lm (ik .u8) s.1))])) (fun next s => tens_Bytes_L2 fu nx1 x10 x16 (fun x17 x18 => next (x17, x18)) s.1 s.2) (s0 := (x9, 0)) ?_ ?_ ?_
            · first | rfl | (simp only [LN, NN, NT])
            · first | (simp (disch := first | assumption | decide | with_unfolding_all rfl | omega | (simp only [LN] <;> omega) | (simp only [RO, OF])) only [RR, ↓reduceIte, Nat.reduceEqDiff, Nat.reduceLT, Nat.reduceLeDiff, Nat.reduceAdd, Nat.reduceSub, Nat.reduceMul, Nat.reduceMod, Nat.reduceDiv, Nat.reduceBEq, LN, NN, NT]; done) | rfl
            rintro next k2 hn2 ⟨x17, x18⟩
            let nx2 : (List Int) → Int → Option ((List Int) × Int) := (fun x17 x18 => next (x17, x18))
            show J _ (tens_Bytes_L2 fu nx1 x10 x16 nx2 x17 x18) _
            unfold tens_Bytes_L2
            conv => arg 1; simp (maxSteps := 1000000) (disch := first | assumption | decide | with_unfolding_all rfl | omega | (simp only [LN] <;> omega) | (simp only [RO, OF])) only [RR, RM, LN, TT, d41_at, ↓reduceIte, Nat.reduceEqDiff, Nat.reduceLT, Nat.reduceLeDiff, Nat.reduceAdd, Nat.reduceSub, Nat.reduceMul, Nat.reduceMod, Nat.reduceDiv, Nat.reduceBEq, go_b68, bodyOf, Try.f68, d68_at, RI, RIk, initE, RH, e_h1, h2', h3'', h3', lm_bk h6]
            refine J.eq go_seq ?_
            conv => arg 1; simp (maxSteps := 1000000) (disch := first | assumption | decide | with_unfolding_all rfl | omega | (simp only [LN] <;> omega) | (simp only [RO, OF])) only [RR, RM, LN, TT, d41_at, ↓reduceIte, Nat.reduceEqDiff, Nat.reduceLT, Nat.reduceLeDiff, Nat.reduceAdd, Nat.reduceSub, Nat.reduceMul, Nat.reduceMod, Nat.reduceDiv, Nat.reduceBEq, go_b68, bodyOf, Try.f68, d68_at, RI, RIk, initE, RH, e_h1, h2', h3'', h3', lm_bk h6]
            refine J.ite (fun h7 => ?_) (fun h7 => ?_)
            · have h7' := decide_eq_true h7
              have h7'' : decide (1 ≤ x18) = false := decide_eq_false (by omega)
              conv => arg 1; simp (maxSteps := 1000000) (disch := first | assumption | decide | with_unfolding_all rfl | omega | (simp only [LN] <;> omega) | (simp only [RO, OF])) only [RR, RM, LN, TT, d41_at, ↓reduceIte, Nat.reduceEqDiff, Nat.reduceLT, Nat.reduceLeDiff, Nat.reduceAdd, Nat.reduceSub, Nat.reduceMul, Nat.reduceMod, Nat.reduceDiv, Nat.reduceBEq, go_b68, bodyOf, Try.f68, d68_at, RI, RIk, initE, RH, e_h1, h2', h3'', h3', lm_bk h6, h7'', h7']
              refine J.eq ret_seq ?_
              refine J.eq go_seq ?_
              refine J.chk fun h8 => ?_
              refine J.chk fun h9 => ?_
              conv => arg 1; simp (maxSteps := 1000000) (disch := first | assumption | decide | with_unfolding_all rfl | omega | (simp only [LN] <;> omega) | (simp only [RO, OF])) only [RR, RM, LN, TT, d41_at, ↓reduceIte, Nat.reduceEqDiff, Nat.reduceLT, Nat.reduceLeDiff, Nat.reduceAdd, Nat.reduceSub, Nat.reduceMul, Nat.reduceMod, Nat.reduceDiv, Nat.reduceBEq, go_b68, bodyOf, Try.f68, d68_at, RI, RIk, initE, RH, e_h1, h2', h3'', h3', lm_bk h6, h7'', h7']
              refine J.eq ret_seq ?_
              conv => arg 1; simp (maxSteps := 1000000) (disch := first | assumption | decide | with_unfolding_all rfl | omega | (simp only [LN] <;> omega) | (simp only [RO, OF])) only [RR, RM, LN, TT, d41_at, ↓reduceIte, Nat.reduceEqDiff, Nat.reduceLT, Nat.reduceLeDiff, Nat.reduceAdd, Nat.reduceSub, Nat.reduceMul, Nat.reduceMod, Nat.reduceDiv, Nat.reduceBEq, go_b68, bodyOf, Try.f68, d68_at, RI, RIk, initE, RH, e_h1, h2', h3'', h3', lm_bk h6, h7'', h7']
              refine J.next (s := (x17 ++ ([wk .u8 (shrk .u64 x16 (wk .i64 (8 * x18)))]), wk .i64 (x18 + 1))) hn2 ?_ ?_
              · first | rfl | (simp only [LN, NN, NT])
              · first | (simp (disch := first | assumption | decide | with_unfolding_all rfl | omega | (simp only [LN] <;> omega) | (simp only [RO, OF])) only [RR, ↓reduceIte, Nat.reduceEqDiff, Nat.reduceLT, Nat.reduceLeDiff, Nat.reduceAdd, Nat.reduceSub, Nat.reduceMul, Nat.reduceMod, Nat.reduceDiv, Nat.reduceBEq, LN, NN, NT]; done) | rfl
            · have h7' := decide_eq_false h7
              have h7'' : decide (1 ≤ x18) = true := decide_eq_true (by omega)
              conv => arg 1; simp (maxSteps := 1000000) (disch := first | assumption | decide | with_unfolding_all rfl | omega | (simp only [LN] <;> omega) | (simp only [RO, OF])) only [RR, RM, LN, TT, d41_at, ↓reduceIte, Nat.reduceEqDiff, Nat.reduceLT, Nat.reduceLeDiff, Nat.reduceAdd, Nat.reduceSub, Nat.reduceMul, Nat.reduceMod, Nat.reduceDiv, Nat.reduceBEq, go_b68, bodyOf, Try.f68, d68_at, RI, RIk, initE, RH, e_h1, h2', h3'', h3', lm_bk h6, h7'', h7']
              refine J.eq ret_seq ?_
              conv => arg 1; simp (maxSteps := 1000000) (disch := first | assumption | decide | with_unfolding_all rfl | omega | (simp only [LN] <;> omega) | (simp only [RO, OF])) only [RR, RM, LN, TT, d41_at, ↓reduceIte, Nat.reduceEqDiff, Nat.reduceLT, Nat.reduceLeDiff, Nat.reduceAdd, Nat.reduceSub, Nat.reduceMul, Nat.reduceMod, Nat.reduceDiv, Nat.reduceBEq, go_b68, bodyOf, Try.f68, d68_at, RI, RIk, initE, RH, e_h1, h2', h3'', h3', lm_bk h6, h7'', h7']
              refine J.eq ret_seq ?_
              conv => arg 1; simp (maxSteps := 1000000) (disch := first | assumption | decide | with_unfolding_all rfl | omega | (simp only [LN] <;> omega) | (simp only [RO, OF])) only [RR, RM, LN, TT, d41_at, ↓reduceIte, Nat.reduceEqDiff, Nat.reduceLT, Nat.reduceLeDiff, Nat.reduceAdd, Nat.reduceSub, Nat.reduceMul, Nat.reduceMod, Nat.reduceDiv, Nat.reduceBEq, go_b68, bodyOf, Try.f68, d68_at, RI, RIk, initE, RH, e_h1, h2', h3'', h3', lm_bk h6, h7'', h7']
              refine J.next (s := (x17, wk .i64 (x10 + 1))) hn1 ?_ ?_
              · first | rfl | (simp only [LN, NN, NT])
              · first | (simp (disch := first | assumption | decide | with_unfolding_all rfl | omega | (simp only [LN] <;> omega) | (simp only [RO, OF])) only [RR, ↓reduceIte, Nat.reduceEqDiff, Nat.reduceLT, Nat.reduceLeDiff, Nat.reduceAdd, Nat.reduceSub, Nat.reduceMul, Nat.reduceMod, Nat.reduceDiv, Nat.reduceBEq, LN, NN, NT]; done) | rfl
          · conv => arg 1; simp (maxSteps := 1000000) (disch := first | assumption | decide | with_unfolding_all rfl | omega | (simp only [LN] <;> omega) | (simp only [RO, OF])) only [RR, RM, LN, TT, d41_at, ↓reduceIte, Nat.reduceEqDiff, Nat.reduceLT, Nat.reduceLeDiff, Nat.reduceAdd, Nat.reduceSub, Nat.reduceMul, Nat.reduceMod, Nat.reduceDiv, Nat.reduceBEq, go_b68, bodyOf, Try.f68, d68_at, RI, RIk, initE, RH, e_h1, h2', h3'', h3', lm_bk h6]
            refine J.ite (fun h10 => ?_) (fun h10 => ?_)
            · have h10' : x15 = true := h10
              conv => arg 1; simp (maxSteps := 1000000) (disch := first | assumption | decide | with_unfolding_all rfl | omega | (simp only [LN] <;> omega) | (simp only [RO, OF])) only [RR, RM, LN, TT, d41_at, ↓reduceIte, Nat.reduceEqDiff, Nat.reduceLT, Nat.reduceLeDiff, Nat.reduceAdd, Nat.reduceSub, Nat.reduceMul, Nat.reduceMod, Nat.reduceDiv, Nat.reduceBEq, go_b68, bodyOf, Try.f68, d68_at, RI, RIk, initE, RH, e_h1, h2', h3'', h3', lm_bk h6, h10']
              refine J.jmp (t := 1) hj3 ?_ ?_
              · first | rfl | (simp only [LN, NN, NT])
              · first | (simp (disch := first | assumption | decide | with_unfolding_all rfl | omega | (simp only [LN] <;> omega) | (simp only [RO, OF])) only [RR, ↓reduceIte, Nat.reduceEqDiff, Nat.reduceLT, Nat.reduceLeDiff, Nat.reduceAdd, Nat.reduceSub, Nat.reduceMul, Nat.reduceMod, Nat.reduceDiv, Nat.reduceBEq, LN, NN, NT]; done) | rfl
            · have h10' : x15 = false := Bool.eq_false_iff.2 h10
              conv => arg 1; simp (maxSteps := 1000000) (disch := first | assumption | decide | with_unfolding_all rfl | omega | (simp only [LN] <;> omega) | (simp only [RO, OF])) only [RR, RM, LN, TT, d41_at, ↓reduceIte, Nat.reduceEqDiff, Nat.reduceLT, Nat.reduceLeDiff, Nat.reduceAdd, Nat.reduceSub, Nat.reduceMul, Nat.reduceMod, Nat.reduceDiv, Nat.reduceBEq, go_b68, bodyOf, Try.f68, d68_at, RI, RIk, initE, RH, e_h1, h2', h3'', h3', lm_bk h6, h10']
              refine J.jmp (t := 0) hj3 ?_ ?_
              · first | rfl | (simp only [LN, NN, NT])
              · first | (simp (disch := first | assumption | decide | with_unfolding_all rfl | omega | (simp only [LN] <;> omega) | (simp only [RO, OF])) only [RR, ↓reduceIte, Nat.reduceEqDiff, Nat.reduceLT, Nat.reduceLeDiff, Nat.reduceAdd, Nat.reduceSub, Nat.reduceMul, Nat.reduceMod, Nat.reduceDiv, Nat.reduceBEq, LN, NN, NT]; done) | rfl
        · have h3' := decide_eq_false h3
          have h3'' : decide ((x1.fB.length : Int) ≤ x10) = true := decide_eq_true (by omega)
          conv => arg 1; simp (maxSteps := 1000000) (disch := first | assumption | decide | with_unfolding_all rfl | omega | (simp only [LN] <;> omega) | (simp only [RO, OF])) only [RR, RM, LN, TT, d41_at, ↓reduceIte, Nat.reduceEqDiff, Nat.reduceLT, Nat.reduceLeDiff, Nat.reduceAdd, Nat.reduceSub, Nat.reduceMul, Nat.reduceMod, Nat.reduceDiv, Nat.reduceBEq, go_b68, bodyOf, Try.f68, d68_at, RI, RIk, initE, RH, e_h1, h2', h3'', h3']
          refine J.eq ret_seq ?_
          refine J.some ?_
          simp (disch := first | assumption | decide | with_unfolding_all rfl | omega | (simp only [LN] <;> omega) | (simp only [RO, OF])) only [RR, RM, LN, TT, d41_at, ↓reduceIte, Nat.reduceEqDiff, Nat.reduceLT, Nat.reduceLeDiff, Nat.reduceAdd, Nat.reduceSub, Nat.reduceMul, Nat.reduceMod, Nat.reduceDiv, Nat.reduceBEq, go_b68, bodyOf, Try.f68, d68_at, RI, RIk, initE, RH, e_h1, h2', h3'', h3', FF, LN, NN, NT]
      · conv => arg 1; simp (maxSteps := 1000000) (disch := first | assumption | decide | with_unfolding_all rfl | omega | (simp only [LN] <;> omega) | (simp only [RO, OF])) only [RR, RM, LN, TT, d41_at, ↓reduceIte, Nat.reduceEqDiff, Nat.reduceLT, Nat.reduceLeDiff, Nat.reduceAdd, Nat.reduceSub, Nat.reduceMul, Nat.reduceMod, Nat.reduceDiv, Nat.reduceBEq, go_b68, bodyOf, Try.f68, d68_at, RI, RIk, initE, RH, e_h1, h2']
        unfold tens_Bytes_W3
        refine J.loop (fun (s : (List Int) × Int) => ([(1, .ptr (0, 1, 0) 0 0), (5, .own (0, 5, 77) 0 s.1.length s.1.length), (31, .arr x1.fI.length (lm (ik .i64) x1.fI)), (32, .v (.int .i64 (x1.fI.length : Int))), (33, .v (.int .i64 s.2))], [((0, 1, 0), .bx true ([.v (.int .i64 x1.fType), .arr x1.fDims.length (lm (ik .i64) x1.fDims), .arr x1.fF.length (lm (ik .u32) x1.fF), .arr x1.fI.length (lm (ik .i64) x1.fI), .arr x1.fB.length (lm (bk) x1.fB)])), ((0, 5, 77), .sl true true 1 s.1.length (lm (ik .u8) s.1))])) (fun next s => tens_Bytes_L3 fu x1 (fun x22 x23 => next (x22, x23)) s.1 s.2) (s0 := (x3, 0)) ?_ ?_ ?_
        · first | rfl | (simp only [LN, NN, NT])
        · first | (simp (disch := first | assumption | decide | with_unfolding_all rfl | omega | (simp only [LN] <;> omega) | (simp only [RO, OF])) only [RR, ↓reduceIte, Nat.reduceEqDiff, Nat.reduceLT, Nat.reduceLeDiff, Nat.reduceAdd, Nat.reduceSub, Nat.reduceMul, Nat.reduceMod, Nat.reduceDiv, Nat.reduceBEq, LN, NN, NT]; done) | rfl
        rintro next k3 hn3 ⟨x22, x23⟩
        let nx3 : (List Int) → Int → Option ((List Int) × Int) := (fun x22 x23 => next (x22, x23))
        show J _ (tens_Bytes_L3 fu x1 nx3 x22 x23) _
        unfold tens_Bytes_L3
        conv => arg 1; simp (maxSteps := 1000000) (disch := first | assumption | decide | with_unfolding_all rfl | omega | (simp only [LN] <;> omega) | (simp only [RO, OF])) only [RR, RM, LN, TT, d41_at, ↓reduceIte, Nat.reduceEqDiff, Nat.reduceLT, Nat.reduceLeDiff, Nat.reduceAdd, Nat.reduceSub, Nat.reduceMul, Nat.reduceMod, Nat.reduceDiv, Nat.reduceBEq, go_b68, bodyOf, Try.f68, d68_at, RI, RIk, initE, RH, e_h1, h2']
        refine J.eq go_seq ?_
        conv => arg 1; simp (maxSteps := 1000000) (disch := first | assumption | decide | with_unfolding_all rfl | omega | (simp only [LN] <;> omega) | (simp only [RO, OF])) only [RR, RM, LN, TT, d41_at, ↓reduceIte, Nat.reduceEqDiff, Nat.reduceLT, Nat.reduceLeDiff, Nat.reduceAdd, Nat.reduceSub, Nat.reduceMul, Nat.reduceMod, Nat.reduceDiv, Nat.reduceBEq, go_b68, bodyOf, Try.f68, d68_at, RI, RIk, initE, RH, e_h1, h2']
        refine J.ite (fun h11 => ?_) (fun h11 => ?_)
        · have h11' := decide_eq_true h11
          have h11'' : decide ((x1.fI.length : Int) ≤ x23) = false := decide_eq_false (by omega)
          conv => arg 1; simp (maxSteps := 1000000) (disch := first | assumption | decide | with_unfolding_all rfl | omega | (simp only [LN] <;> omega) | (simp only [RO, OF])) only [RR, RM, LN, TT, d41_at, ↓reduceIte, Nat.reduceEqDiff, Nat.reduceLT, Nat.reduceLeDiff, Nat.reduceAdd, Nat.reduceSub, Nat.reduceMul, Nat.reduceMod, Nat.reduceDiv, Nat.reduceBEq, go_b68, bodyOf, Try.f68, d68_at, RI, RIk, initE, RH, e_h1, h2', h11'', h11']
          refine J.eq ret_seq ?_
          refine J.eq go_seq ?_
          refine J.at fun x27 h12 h13 h14 => ?_
          conv => arg 1; simp (maxSteps := 1000000) (disch := first | assumption | decide | with_unfolding_all rfl | omega | (simp only [LN] <;> omega) | (simp only [RO, OF])) only [RR, RM, LN, TT, d41_at, ↓reduceIte, Nat.reduceEqDiff, Nat.reduceLT, Nat.reduceLeDiff, Nat.reduceAdd, Nat.reduceSub, Nat.reduceMul, Nat.reduceMod, Nat.reduceDiv, Nat.reduceBEq, go_b68, bodyOf, Try.f68, d68_at, RI, RIk, initE, RH, e_h1, h2', h11'', h11', lm_ik h14]
          refine J.eq go_seq ?_
          conv => arg 1; simp (maxSteps := 1000000) (disch := first | assumption | decide | with_unfolding_all rfl | omega | (simp only [LN] <;> omega) | (simp only [RO, OF])) only [RR, RM, LN, TT, d41_at, ↓reduceIte, Nat.reduceEqDiff, Nat.reduceLT, Nat.reduceLeDiff, Nat.reduceAdd, Nat.reduceSub, Nat.reduceMul, Nat.reduceMod, Nat.reduceDiv, Nat.reduceBEq, go_b68, bodyOf, Try.f68, d68_at, RI, RIk, initE, RH, e_h1, h2', h11'', h11', lm_ik h14]
          unfold tens_Bytes_W4
          refine J.loop (fun (s : (List Int) × Int) => ([(0, .own (0, 5, 77) 0 s.1.length s.1.length), (1, .v (.int .u64 (wk .u64 x27))), (8, .v (.int .i64 8)), (9, .v (.int .i64 s.2))], [((0, 1, 0), .bx true ([.v (.int .i64 x1.fType), .arr x1.fDims.length (lm (ik .i64) x1.fDims), .arr x1.fF.length (lm (ik .u32) x1.fF), .arr x1.fI.length (lm (ik .i64) x1.fI), .arr x1.fB.length (lm (bk) x1.fB)])), ((0, 5, 77), .sl true true 1 s.1.length (lm (ik .u8) s.1))])) (fun next s => tens_Bytes_L4 fu nx3 x23 x27 (fun x28 x29 => next (x28, x29)) s.1 s.2) (s0 := (x22, 0)) ?_ ?_ ?_
          · first | rfl | (simp only [LN, NN, NT])
          · first | (simp (disch := first | assumption | decide | with_unfolding_all rfl | omega | (simp only [LN] <;> omega) | (simp only [RO, OF])) only [RR, ↓reduceIte, Nat.reduceEqDiff, Nat.reduceLT, Nat.reduceLeDiff, Nat.reduceAdd, Nat.reduceSub, Nat.reduceMul, Nat.reduceMod, Nat.reduceDiv, Nat.reduceBEq, LN, NN, NT]; done) | rfl
          rintro next k4 hn4 ⟨x28, x29⟩
          let nx4 : (List Int) → Int → Option ((List Int) × Int) := (fun x28 x29 => next (x28, x29))
          show J _ (tens_Bytes_L4 fu nx3 x23 x27 nx4 x28 x29) _
          unfold tens_Bytes_L4
          conv => arg 1; simp (maxSteps := 1000000) (disch := first | assumption | decide | with_unfolding_all rfl | omega | (simp only [LN] <;> omega) | (simp only [RO, OF])) only [RR, RM, LN, TT, d41_at, ↓reduceIte, Nat.reduceEqDiff, Nat.reduceLT, Nat.reduceLeDiff, Nat.reduceAdd, Nat.reduceSub, Nat.reduceMul, Nat.reduceMod, Nat.reduceDiv, Nat.reduceBEq, go_b68, bodyOf, Try.f68, d68_at, RI, RIk, initE, RH, e_h1, h2', h11'', h11', lm_ik h14]
          refine J.eq go_seq ?_
          conv => arg 1; simp (maxSteps := 1000000) (disch := first | assumption | decide | with_unfolding_all rfl | omega | (simp only [LN] <;> omega) | (simp only [RO, OF])) only [RR, RM, LN, TT, d41_at, ↓reduceIte, Nat.reduceEqDiff, Nat.reduceLT, Nat.reduceLeDiff, Nat.reduceAdd, Nat.reduceSub, Nat.reduceMul, Nat.reduceMod, Nat.reduceDiv, Nat.reduceBEq, go_b68, bodyOf, Try.f68, d68_at, RI, RIk, initE, RH, e_h1, h2', h11'', h11', lm_ik h14]
          refine J.ite (fun h15 => ?_) (fun h15 => ?_)
          · have h15' := decide_eq_true h15
            have h15'' : decide (8 ≤ x29) = false := decide_eq_false (by omega)
            conv => arg 1; simp (maxSteps := 1000000) (disch := first | assumption | decide | with_unfolding_all rfl | omega | (simp only [LN] <;> omega) | (simp only [RO, OF])) only [RR, RM, LN, TT, d41_at, ↓reduceIte, Nat.reduceEqDiff, Nat.reduceLT, Nat.reduceLeDiff, Nat.reduceAdd, Nat.reduceSub, Nat.reduceMul, Nat.reduceMod, Nat.reduceDiv, Nat.reduceBEq, go_b68, bodyOf, Try.f68, d68_at, RI, RIk, initE, RH, e_h1, h2', h11'', h11', lm_ik h14, h15'', h15']
            refine J.eq ret_seq ?_
            refine J.eq go_seq ?_
            refine J.chk fun h16 => ?_
            refine J.chk fun h17 => ?_
            conv => arg 1; simp (maxSteps := 1000000) (disch := first | assumption | decide | with_unfolding_all rfl | omega | (simp only [LN] <;> omega) | (simp only [RO, OF])) only [RR, RM, LN, TT, d41_at, ↓reduceIte, Nat.reduceEqDiff, Nat.reduceLT, Nat.reduceLeDiff, Nat.reduceAdd, Nat.reduceSub, Nat.reduceMul, Nat.reduceMod, Nat.reduceDiv, Nat.reduceBEq, go_b68, bodyOf, Try.f68, d68_at, RI, RIk, initE, RH, e_h1, h2', h11'', h11', lm_ik h14, h15'', h15']
            refine J.eq ret_seq ?_
            conv => arg 1; simp (maxSteps := 1000000) (disch := first | assumption | decide | with_unfolding_all rfl | omega | (simp only [LN] <;> omega) | (simp only [RO, OF])) only [RR, RM, LN, TT, d41_at, ↓reduceIte, Nat.reduceEqDiff, Nat.reduceLT, Nat.reduceLeDiff, Nat.reduceAdd, Nat.reduceSub, Nat.reduceMul, Nat.reduceMod, Nat.reduceDiv, Nat.reduceBEq, go_b68, bodyOf, Try.f68, d68_at, RI, RIk, initE, RH, e_h1, h2', h11'', h11', lm_ik h14, h15'', h15']
            refine J.next (s := (x28 ++ ([wk .u8 (shrk .u64 (wk .u64 x27) (wk .i64 (8 * x29)))]), wk .i64 (x29 + 1))) hn4 ?_ ?_
            · first | rfl | (simp only [LN, NN, NT])
            · first | (simp (disch := first | assumption | decide | with_unfolding_all rfl | omega | (simp only [LN] <;> omega) | (simp only [RO, OF])) only [RR, ↓reduceIte, Nat.reduceEqDiff, Nat.reduceLT, Nat.reduceLeDiff, Nat.reduceAdd, Nat.reduceSub, Nat.reduceMul, Nat.reduceMod, Nat.reduceDiv, Nat.reduceBEq, LN, NN, NT]; done) | rfl
          · have h15' := decide_eq_false h15
            have h15'' : decide (8 ≤ x29) = true := decide_eq_true (by omega)
            conv => arg 1; simp (maxSteps := 1000000) (disch := first | assumption | decide | with_unfolding_all rfl | omega | (simp only [LN] <;> omega) | (simp only [RO, OF])) only [RR, RM, LN, TT, d41_at, ↓reduceIte, Nat.reduceEqDiff, Nat.reduceLT, Nat.reduceLeDiff, Nat.reduceAdd, Nat.reduceSub, Nat.reduceMul, Nat.reduceMod, Nat.reduceDiv, Nat.reduceBEq, go_b68, bodyOf, Try.f68, d68_at, RI, RIk, initE, RH, e_h1, h2', h11'', h11', lm_ik h14, h15'', h15']
            refine J.eq ret_seq ?_
            conv => arg 1; simp (maxSteps := 1000000) (disch := first | assumption | decide | with_unfolding_all rfl | omega | (simp only [LN] <;> omega) | (simp only [RO, OF])) only [RR, RM, LN, TT, d41_at, ↓reduceIte, Nat.reduceEqDiff, Nat.reduceLT, Nat.reduceLeDiff, Nat.reduceAdd, Nat.reduceSub, Nat.reduceMul, Nat.reduceMod, Nat.reduceDiv, Nat.reduceBEq, go_b68, bodyOf, Try.f68, d68_at, RI, RIk, initE, RH, e_h1, h2', h11'', h11', lm_ik h14, h15'', h15']
            refine J.eq ret_seq ?_
            conv => arg 1; simp (maxSteps := 1000000) (disch := first | assumption | decide | with_unfolding_all rfl | omega | (simp only [LN] <;> omega) | (simp only [RO, OF])) only [RR, RM, LN, TT, d41_at, ↓reduceIte, Nat.reduceEqDiff, Nat.reduceLT, Nat.reduceLeDiff, Nat.reduceAdd, Nat.reduceSub, Nat.reduceMul, Nat.reduceMod, Nat.reduceDiv, Nat.reduceBEq, go_b68, bodyOf, Try.f68, d68_at, RI, RIk, initE, RH, e_h1, h2', h11'', h11', lm_ik h14, h15'', h15']
            refine J.next (s := (x28, wk .i64 (x23 + 1))) hn3 ?_ ?_
            · first | rfl | (simp only [LN, NN, NT])
            · first | (simp (disch := first | assumption | decide | with_unfolding_all rfl | omega | (simp only [LN] <;> omega) | (simp only [RO, OF])) only [RR, ↓reduceIte, Nat.reduceEqDiff, Nat.reduceLT, Nat.reduceLeDiff, Nat.reduceAdd, Nat.reduceSub, Nat.reduceMul, Nat.reduceMod, Nat.reduceDiv, Nat.reduceBEq, LN, NN, NT]; done) | rfl
        · have h11' := decide_eq_false h11
          have h11'' : decide ((x1.fI.length : Int) ≤ x23) = true := decide_eq_true (by omega)
          conv => arg 1; simp (maxSteps := 1000000) (disch := first | assumption | decide | with_unfolding_all rfl | omega | (simp only [LN] <;> omega) | (simp only [RO, OF])) only [RR, RM, LN, TT, d41_at, ↓reduceIte, Nat.reduceEqDiff, Nat.reduceLT, Nat.reduceLeDiff, Nat.reduceAdd, Nat.reduceSub, Nat.reduceMul, Nat.reduceMod, Nat.reduceDiv, Nat.reduceBEq, go_b68, bodyOf, Try.f68, d68_at, RI, RIk, initE, RH, e_h1, h2', h11'', h11']
          refine J.jmp (t := x22) hj2 ?_ ?_
          · first | rfl | (simp only [LN, NN, NT])
          · first | (simp (disch := first | assumption | decide | with_unfolding_all rfl | omega | (simp only [LN] <;> omega) | (simp only [RO, OF])) only [RR, ↓reduceIte, Nat.reduceEqDiff, Nat.reduceLT, Nat.reduceLeDiff, Nat.reduceAdd, Nat.reduceSub, Nat.reduceMul, Nat.reduceMod, Nat.reduceDiv, Nat.reduceBEq, LN, NN, NT]; done) | rfl
    · conv => arg 1; simp (maxSteps := 1000000) (disch := first | assumption | decide | with_unfolding_all rfl | omega | (simp only [LN] <;> omega) | (simp only [RO, OF])) only [RR, RM, LN, TT, d41_at, ↓reduceIte, Nat.reduceEqDiff, Nat.reduceLT, Nat.reduceLeDiff, Nat.reduceAdd, Nat.reduceSub, Nat.reduceMul, Nat.reduceMod, Nat.reduceDiv, Nat.reduceBEq, go_b68, bodyOf, Try.f68, d68_at, RI, RIk, initE, RH, e_h1, h2']
      unfold tens_Bytes_W5
      refine J.loop (fun (s : (List Int) × Int) => ([(1, .ptr (0, 1, 0) 0 0), (5, .own (0, 5, 77) 0 s.1.length s.1.length), (19, .arr x1.fF.length (lm (ik .u32) x1.fF)), (20, .v (.int .i64 (x1.fF.length : Int))), (21, .v (.int .i64 s.2))], [((0, 1, 0), .bx true ([.v (.int .i64 x1.fType), .arr x1.fDims.length (lm (ik .i64) x1.fDims), .arr x1.fF.length (lm (ik .u32) x1.fF), .arr x1.fI.length (lm (ik .i64) x1.fI), .arr x1.fB.length (lm (bk) x1.fB)])), ((0, 5, 77), .sl true true 1 s.1.length (lm (ik .u8) s.1))])) (fun next s => tens_Bytes_L5 fu x1 (fun x33 x34 => next (x33, x34)) s.1 s.2) (s0 := (([] : List Int), 0)) ?_ ?_ ?_
      · first | rfl | (simp only [LN, NN, NT])
      · first | (simp (disch := first | assumption | decide | with_unfolding_all rfl | omega | (simp only [LN] <;> omega) | (simp only [RO, OF])) only [RR, ↓reduceIte, Nat.reduceEqDiff, Nat.reduceLT, Nat.reduceLeDiff, Nat.reduceAdd, Nat.reduceSub, Nat.reduceMul, Nat.reduceMod, Nat.reduceDiv, Nat.reduceBEq, LN, NN, NT]; done) | rfl
      rintro next k5 hn5 ⟨x33, x34⟩
      let nx5 : (List Int) → Int → Option ((List Int) × Int) := (fun x33 x34 => next (x33, x34))
      show J _ (tens_Bytes_L5 fu x1 nx5 x33 x34) _
      unfold tens_Bytes_L5
      conv => arg 1; simp (maxSteps := 1000000) (disch := first | assumption | decide | with_unfolding_all rfl | omega | (simp only [LN] <;> omega) | (simp only [RO, OF])) only [RR, RM, LN, TT, d41_at, ↓reduceIte, Nat.reduceEqDiff, Nat.reduceLT, Nat.reduceLeDiff, Nat.reduceAdd, Nat.reduceSub, Nat.reduceMul, Nat.reduceMod, Nat.reduceDiv, Nat.reduceBEq, go_b68, bodyOf, Try.f68, d68_at, RI, RIk, initE, RH, e_h1, h2']
      refine J.eq go_seq ?_
      conv => arg 1; simp (maxSteps := 1000000) (disch := first | assumption | decide | with_unfolding_all rfl | omega | (simp only [LN] <;> omega) | (simp only [RO, OF])) only [RR, RM, LN, TT, d41_at, ↓reduceIte, Nat.reduceEqDiff, Nat.reduceLT, Nat.reduceLeDiff, Nat.reduceAdd, Nat.reduceSub, Nat.reduceMul, Nat.reduceMod, Nat.reduceDiv, Nat.reduceBEq, go_b68, bodyOf, Try.f68, d68_at, RI, RIk, initE, RH, e_h1, h2']
      refine J.ite (fun h18 => ?_) (fun h18 => ?_)
      · have h18' := decide_eq_true h18
        have h18'' : decide ((x1.fF.length : Int) ≤ x34) = false := decide_eq_false (by omega)
        conv => arg 1; simp (maxSteps := 1000000) (disch := first | assumption | decide | with_unfolding_all rfl | omega | (simp only [LN] <;> omega) | (simp only [RO, OF])) only [RR, RM, LN, TT, d41_at, ↓reduceIte, Nat.reduceEqDiff, Nat.reduceLT, Nat.reduceLeDiff, Nat.reduceAdd, Nat.reduceSub, Nat.reduceMul, Nat.reduceMod, Nat.reduceDiv, Nat.reduceBEq, go_b68, bodyOf, Try.f68, d68_at, RI, RIk, initE, RH, e_h1, h2', h18'', h18']
        refine J.eq ret_seq ?_
        refine J.eq go_seq ?_
        refine J.at fun x38 h19 h20 h21 => ?_
        conv => arg 1; simp (maxSteps := 1000000) (disch := first | assumption | decide | with_unfolding_all rfl | omega | (simp only [LN] <;> omega) | (simp only [RO, OF])) only [RR, RM, LN, TT, d41_at, ↓reduceIte, Nat.reduceEqDiff, Nat.reduceLT, Nat.reduceLeDiff, Nat.reduceAdd, Nat.reduceSub, Nat.reduceMul, Nat.reduceMod, Nat.reduceDiv, Nat.reduceBEq, go_b68, bodyOf, Try.f68, d68_at, RI, RIk, initE, RH, e_h1, h2', h18'', h18', lm_ik h21]
        refine J.eq go_seq ?_
        conv => arg 1; simp (maxSteps := 1000000) (disch := first | assumption | decide | with_unfolding_all rfl | omega | (simp only [LN] <;> omega) | (simp only [RO, OF])) only [RR, RM, LN, TT, d41_at, ↓reduceIte, Nat.reduceEqDiff, Nat.reduceLT, Nat.reduceLeDiff, Nat.reduceAdd, Nat.reduceSub, Nat.reduceMul, Nat.reduceMod, Nat.reduceDiv, Nat.reduceBEq, go_b68, bodyOf, Try.f68, d68_at, RI, RIk, initE, RH, e_h1, h2', h18'', h18', lm_ik h21]
        unfold tens_Bytes_W6
        refine J.loop (fun (s : (List Int) × Int) => ([(0, .own (0, 5, 77) 0 s.1.length s.1.length), (1, .v (.int .u64 (wk .u64 x38))), (8, .v (.int .i64 4)), (9, .v (.int .i64 s.2))], [((0, 1, 0), .bx true ([.v (.int .i64 x1.fType), .arr x1.fDims.length (lm (ik .i64) x1.fDims), .arr x1.fF.length (lm (ik .u32) x1.fF), .arr x1.fI.length (lm (ik .i64) x1.fI), .arr x1.fB.length (lm (bk) x1.fB)])), ((0, 5, 77), .sl true true 1 s.1.length (lm (ik .u8) s.1))])) (fun next s => tens_Bytes_L6 fu nx5 x34 x38 (fun x39 x40 => next (x39, x40)) s.1 s.2) (s0 := (x33, 0)) ?_ ?_ ?_
        · first | rfl | (simp only [LN, NN, NT])
        · first | (simp (disch := first | assumption | decide | with_unfolding_all rfl | omega | (simp only [LN] <;> omega) | (simp only [RO, OF])) only [RR, ↓reduceIte, Nat.reduceEqDiff, Nat.reduceLT, Nat.reduceLeDiff, Nat.reduceAdd, Nat.reduceSub, Nat.reduceMul, Nat.reduceMod, Nat.reduceDiv, Nat.reduceBEq, LN, NN, NT]; done) | rfl
        rintro next k6 hn6 ⟨x39, x40⟩
        let nx6 : (List Int) → Int → Option ((List Int) × Int) := (fun x39 x40 => next (x39, x40))
        show J _ (tens_Bytes_L6 fu nx5 x34 x38 nx6 x39 x40) _
        unfold tens_Bytes_L6
        conv => arg 1; simp (maxSteps := 1000000) (disch := first | assumption | decide | with_unfolding_all rfl | omega | (simp only [LN] <;> omega) | (simp only [RO, OF])) only [RR, RM, LN, TT, d41_at, ↓reduceIte, Nat.reduceEqDiff, Nat.reduceLT, Nat.reduceLeDiff, Nat.reduceAdd, Nat.reduceSub, Nat.reduceMul, Nat.reduceMod, Nat.reduceDiv, Nat.reduceBEq, go_b68, bodyOf, Try.f68, d68_at, RI, RIk, initE, RH, e_h1, h2', h18'', h18', lm_ik h21]
        refine J.eq go_seq ?_
        conv => arg 1; simp (maxSteps := 1000000) (disch := first | assumption | decide | with_unfolding_all rfl | omega | (simp only [LN] <;> omega) | (simp only [RO, OF])) only [RR, RM, LN, TT, d41_at, ↓reduceIte, Nat.reduceEqDiff, Nat.reduceLT, Nat.reduceLeDiff, Nat.reduceAdd, Nat.reduceSub, Nat.reduceMul, Nat.reduceMod, Nat.reduceDiv, Nat.reduceBEq, go_b68, bodyOf, Try.f68, d68_at, RI, RIk, initE, RH, e_h1, h2', h18'', h18', lm_ik h21]
        refine J.ite (fun h22 => ?_) (fun h22 => ?_)
        · have h22' := decide_eq_true h22
          have h22'' : decide (4 ≤ x40) = false := decide_eq_false (by omega)
          conv => arg 1; simp (maxSteps := 1000000) (disch := first | assumption | decide | with_unfolding_all rfl | omega | (simp only [LN] <;> omega) | (simp only [RO, OF])) only [RR, RM, LN, TT, d41_at, ↓reduceIte, Nat.reduceEqDiff, Nat.reduceLT, Nat.reduceLeDiff, Nat.reduceAdd, Nat.reduceSub, Nat.reduceMul, Nat.reduceMod, Nat.reduceDiv, Nat.reduceBEq, go_b68, bodyOf, Try.f68, d68_at, RI, RIk, initE, RH, e_h1, h2', h18'', h18', lm_ik h21, h22'', h22']
          refine J.eq ret_seq ?_
          refine J.eq go_seq ?_
          refine J.chk fun h23 => ?_
          refine J.chk fun h24 => ?_
          conv => arg 1; simp (maxSteps := 1000000) (disch := first | assumption | decide | with_unfolding_all rfl | omega | (simp only [LN] <;> omega) | (simp only [RO, OF])) only [RR, RM, LN, TT, d41_at, ↓reduceIte, Nat.reduceEqDiff, Nat.reduceLT, Nat.reduceLeDiff, Nat.reduceAdd, Nat.reduceSub, Nat.reduceMul, Nat.reduceMod, Nat.reduceDiv, Nat.reduceBEq, go_b68, bodyOf, Try.f68, d68_at, RI, RIk, initE, RH, e_h1, h2', h18'', h18', lm_ik h21, h22'', h22']
          refine J.eq ret_seq ?_
          conv => arg 1; simp (maxSteps := 1000000) (disch := first | assumption | decide | with_unfolding_all rfl | omega | (simp only [LN] <;> omega) | (simp only [RO, OF])) only [RR, RM, LN, TT, d41_at, ↓reduceIte, Nat.reduceEqDiff, Nat.reduceLT, Nat.reduceLeDiff, Nat.reduceAdd, Nat.reduceSub, Nat.reduceMul, Nat.reduceMod, Nat.reduceDiv, Nat.reduceBEq, go_b68, bodyOf, Try.f68, d68_at, RI, RIk, initE, RH, e_h1, h2', h18'', h18', lm_ik h21, h22'', h22']
          refine J.next (s := (x39 ++ ([wk .u8 (shrk .u64 (wk .u64 x38) (wk .i64 (8 * x40)))]), wk .i64 (x40 + 1))) hn6 ?_ ?_
          · first | rfl | (simp only [LN, NN, NT])
          · first | (simp (disch := first | assumption | decide | with_unfolding_all rfl | omega | (simp only [LN] <;> omega) | (simp only [RO, OF])) only [RR, ↓reduceIte, Nat.reduceEqDiff, Nat.reduceLT, Nat.reduceLeDiff, Nat.reduceAdd, Nat.reduceSub, Nat.reduceMul, Nat.reduceMod, Nat.reduceDiv, Nat.reduceBEq, LN, NN, NT]; done) | rfl
        · have h22' := decide_eq_false h22
          have h22'' : decide (4 ≤ x40) = true := decide_eq_true (by omega)
          conv => arg 1; simp (maxSteps := 1000000) (disch := first | assumption | decide | with_unfolding_all rfl | omega | (simp only [LN] <;> omega) | (simp only [RO, OF])) only [RR, RM, LN, TT, d41_at, ↓reduceIte, Nat.reduceEqDiff, Nat.reduceLT, Nat.reduceLeDiff, Nat.reduceAdd, Nat.reduceSub, Nat.reduceMul, Nat.reduceMod, Nat.reduceDiv, Nat.reduceBEq, go_b68, bodyOf, Try.f68, d68_at, RI, RIk, initE, RH, e_h1, h2', h18'', h18', lm_ik h21, h22'', h22']
          refine J.eq ret_seq ?_
          conv => arg 1; simp (maxSteps := 1000000) (disch := first | assumption | decide | with_unfolding_all rfl | omega | (simp only [LN] <;> omega) | (simp only [RO, OF])) only [RR, RM, LN, TT, d41_at, ↓reduceIte, Nat.reduceEqDiff, Nat.reduceLT, Nat.reduceLeDiff, Nat.reduceAdd, Nat.reduceSub, Nat.reduceMul, Nat.reduceMod, Nat.reduceDiv, Nat.reduceBEq, go_b68, bodyOf, Try.f68, d68_at, RI, RIk, initE, RH, e_h1, h2', h18'', h18', lm_ik h21, h22'', h22']
          refine J.eq ret_seq ?_
          conv => arg 1; simp (maxSteps := 1000000) (disch := first | assumption | decide | with_unfolding_all rfl | omega | (simp only [LN] <;> omega) | (simp only [RO, OF])) only [RR, RM, LN, TT, d41_at, ↓reduceIte, Nat.reduceEqDiff, Nat.reduceLT, Nat.reduceLeDiff, Nat.reduceAdd, Nat.reduceSub, Nat.reduceMul, Nat.reduceMod, Nat.reduceDiv, Nat.reduceBEq, go_b68, bodyOf, Try.f68, d68_at, RI, RIk, initE, RH, e_h1, h2', h18'', h18', lm_ik h21, h22'', h22']
          refine J.next (s := (x39, wk .i64 (x34 + 1))) hn5 ?_ ?_
          · first | rfl | (simp only [LN, NN, NT])
          · first | (simp (disch := first | assumption | decide | with_unfolding_all rfl | omega | (simp only [LN] <;> omega) | (simp only [RO, OF])) only [RR, ↓reduceIte, Nat.reduceEqDiff, Nat.reduceLT, Nat.reduceLeDiff, Nat.reduceAdd, Nat.reduceSub, Nat.reduceMul, Nat.reduceMod, Nat.reduceDiv, Nat.reduceBEq, LN, NN, NT]; done) | rfl
      · have h18' := decide_eq_false h18
        have h18'' : decide ((x1.fF.length : Int) ≤ x34) = true := decide_eq_true (by omega)
        conv => arg 1; simp (maxSteps := 1000000) (disch := first | assumption | decide | with_unfolding_all rfl | omega | (simp only [LN] <;> omega) | (simp only [RO, OF])) only [RR, RM, LN, TT, d41_at, ↓reduceIte, Nat.reduceEqDiff, Nat.reduceLT, Nat.reduceLeDiff, Nat.reduceAdd, Nat.reduceSub, Nat.reduceMul, Nat.reduceMod, Nat.reduceDiv, Nat.reduceBEq, go_b68, bodyOf, Try.f68, d68_at, RI, RIk, initE, RH, e_h1, h2', h18'', h18']
        refine J.jmp (t := x33) hj1 ?_ ?_
        · first | rfl | (simp only [LN, NN, NT])
        · first | (simp (disch := first | assumption | decide | with_unfolding_all rfl | omega | (simp only [LN] <;> omega) | (simp only [RO, OF])) only [RR, ↓reduceIte, Nat.reduceEqDiff, Nat.reduceLT, Nat.reduceLeDiff, Nat.reduceAdd, Nat.reduceSub, Nat.reduceMul, Nat.reduceMod, Nat.reduceDiv, Nat.reduceBEq, LN, NN, NT]; done) | rfl
  · have h2' := decide_eq_false h2
    refine J.some ?_
    simp (disch := first | assumption | decide | with_unfolding_all rfl | omega | (simp only [LN] <;> omega) | (simp only [RO, OF])) only [RR, RM, LN, TT, d41_at, ↓reduceIte, Nat.reduceEqDiff, Nat.reduceLT, Nat.reduceLeDiff, Nat.reduceAdd, Nat.reduceSub, Nat.reduceMul, Nat.reduceMod, Nat.reduceDiv, Nat.reduceBEq, go_b68, bodyOf, Try.f68, d68_at, RI, RIk, initE, RH, e_h1, h2', FF, LN, NN, NT]
noncomputable def t41 (fu : Nat) : CallP := orE 48 (mkC (fun (t : T_Tensor) => ([.agg (c_T_Tensor t)] : List AV)) (fun t => tens_Check fu t) e48) (noP)
theorem t41_ok (fu : Nat) : CpOK Try.prog (t41 fu ) := orE_ok (noP_ok) (mkC_ok (fun t b h => ok48 fu t  b h))
theorem ok41 (fu : Nat) (x1 : T_Tensor) (r) (h : tens_Bytes fu x1 = some r) : PureOK Try.prog 41 [.agg (c_T_Tensor x1)] (e41 r) :=
  pure_J mixed (cp := t41 fu ) (t41_ok fu  ) (ciE_ok mixed (t41_ok fu  ) i68 noI_ok) i41 (w41 _ fu x1  (fun a0 r h => orE_hit (mkC_at (a := a0) (by intro a b h; first | (exact rfl) | (simp only [INJ, c_inj_iff c_T_Tensor_inj, lm_inj_iff (inj_avf (inj_fm c_T_Tensor_len (by decide) c_T_Tensor_inj)), fm_inj_iff (inj_fm c_T_Tensor_len (by decide) c_T_Tensor_inj)] at h; first | exact h | (simp_all [Prod.ext_iff]) )) h))) h
/-! 69: lattice/tens.number -/
def d69 : List (Nat × List Nat) := [(0, [2]), (0, [6, 7, 8]), (0, []), (0, []), (0, [0]), (0, []), (0, []), (0, []), (0, [10, 11, 12]), (0, []), (0, [4, 5, 13, 14, 15, 16, 17, 18, 19]), (0, []), (0, [20]), (0, []), (0, [3, 21])]
def d69_at := And.intro (show d69.getD 0 (0, []) = (0, [2]) from rfl) <| And.intro (show d69.getD 1 (0, []) = (0, [6, 7, 8]) from rfl) <| And.intro (show d69.getD 2 (0, []) = (0, []) from rfl) <| And.intro (show d69.getD 3 (0, []) = (0, []) from rfl) <| And.intro (show d69.getD 4 (0, []) = (0, [0]) from rfl) <| And.intro (show d69.getD 5 (0, []) = (0, []) from rfl) <| And.intro (show d69.getD 6 (0, []) = (0, []) from rfl) <| And.intro (show d69.getD 7 (0, []) = (0, []) from rfl) <| And.intro (show d69.getD 8 (0, []) = (0, [10, 11, 12]) from rfl) <| And.intro (show d69.getD 9 (0, []) = (0, []) from rfl) <| And.intro (show d69.getD 10 (0, []) = (0, [4, 5, 13, 14, 15, 16, 17, 18, 19]) from rfl) <| And.intro (show d69.getD 11 (0, []) = (0, []) from rfl) <| And.intro (show d69.getD 12 (0, []) = (0, [20]) from rfl) <| And.intro (show d69.getD 13 (0, []) = (0, []) from rfl) <| (show d69.getD 14 (0, []) = (0, [3, 21]) from rfl)
theorem i69 : finfo Try.prog 69 d69 = some ⟨bodyOf Try.f69, [.tmp 2], [74]⟩ := finfo_at Try.func69 rfl (by kernel_rfl) (by kernel_rfl)
def e69 : Int → AV := fun r => .v (.int .u64 r)
set_option maxHeartbeats 1000000 in
theorem w69 (cp : CallP) (fu : Nat) (x1 : List Int) : J (go Try.prog noC cp noI 0 [] d69 fu (fin Try.prog [.tmp 2] [74]) (bodyOf Try.f69) (initE 0 [.arr x1.length (lm (ik .u8) x1)]) [] []) (tens_number fu x1) e69 := by
  unfold tens_number e69
  conv => arg 1; simp (maxSteps := 1000000) (disch := first | assumption | decide | with_unfolding_all rfl | omega | (simp only [LN] <;> omega) | (simp only [RO, OF])) only [bodyOf, Try.f69, RR, RM, LN, TT, d69_at, ↓reduceIte, Nat.reduceEqDiff, Nat.reduceLT, Nat.reduceLeDiff, Nat.reduceAdd, Nat.reduceSub, Nat.reduceMul, Nat.reduceMod, Nat.reduceDiv, Nat.reduceBEq, RH]
  refine J.eq go_seq ?_
  conv => arg 1; simp (maxSteps := 1000000) (disch := first | assumption | decide | with_unfolding_all rfl | omega | (simp only [LN] <;> omega) | (simp only [RO, OF])) only [RR, RM, LN, TT, d69_at, ↓reduceIte, Nat.reduceEqDiff, Nat.reduceLT, Nat.reduceLeDiff, Nat.reduceAdd, Nat.reduceSub, Nat.reduceMul, Nat.reduceMod, Nat.reduceDiv, Nat.reduceBEq, RH]
  unfold tens_number_W1
  refine J.loop (fun (s : Int × Int) => ([(3, .v (.int .u64 s.1)), (6, .arr x1.length (lm (ik .u8) x1)), (7, .v (.int .i64 (x1.length : Int))), (8, .v (.int .i64 s.2))], [])) (fun next s => tens_number_L1 fu x1 (fun x3 x4 => next (x3, x4)) s.1 s.2) (s0 := (0, 0)) ?_ ?_ ?_
  · first | rfl | (simp only [LN, NN, NT])
  · first | (simp (disch := first | assumption | decide | with_unfolding_all rfl | omega | (simp only [LN] <;> omega) | (simp only [RO, OF])) only [RR, ↓reduceIte, Nat.reduceEqDiff, Nat.reduceLT, Nat.reduceLeDiff, Nat.reduceAdd, Nat.reduceSub, Nat.reduceMul, Nat.reduceMod, Nat.reduceDiv, Nat.reduceBEq, LN, NN, NT]; done) | rfl
  rintro next k1 hn1 ⟨x3, x4⟩
  let nx1 : Int → Int → Option Int := (fun x3 x4 => next (x3, x4))
  show J _ (tens_number_L1 fu x1 nx1 x3 x4) _
  unfold tens_number_L1
  conv => arg 1; simp (maxSteps := 1000000) (disch := first | assumption | decide | with_unfolding_all rfl | omega | (simp only [LN] <;> omega) | (simp only [RO, OF])) only [RR, RM, LN, TT, d69_at, ↓reduceIte, Nat.reduceEqDiff, Nat.reduceLT, Nat.reduceLeDiff, Nat.reduceAdd, Nat.reduceSub, Nat.reduceMul, Nat.reduceMod, Nat.reduceDiv, Nat.reduceBEq, RH]
  refine J.eq go_seq ?_
  conv => arg 1; simp (maxSteps := 1000000) (disch := first | assumption | decide | with_unfolding_all rfl | omega | (simp only [LN] <;> omega) | (simp only [RO, OF])) only [RR, RM, LN, TT, d69_at, ↓reduceIte, Nat.reduceEqDiff, Nat.reduceLT, Nat.reduceLeDiff, Nat.reduceAdd, Nat.reduceSub, Nat.reduceMul, Nat.reduceMod, Nat.reduceDiv, Nat.reduceBEq, RH]
  refine J.ite (fun h1 => ?_) (fun h1 => ?_)
  · have h1' := decide_eq_true h1
    have h1'' : decide ((x1.length : Int) ≤ x4) = false := decide_eq_false (by omega)
    conv => arg 1; simp (maxSteps := 1000000) (disch := first | assumption | decide | with_unfolding_all rfl | omega | (simp only [LN] <;> omega) | (simp only [RO, OF])) only [RR, RM, LN, TT, d69_at, ↓reduceIte, Nat.reduceEqDiff, Nat.reduceLT, Nat.reduceLeDiff, Nat.reduceAdd, Nat.reduceSub, Nat.reduceMul, Nat.reduceMod, Nat.reduceDiv, Nat.reduceBEq, RH, h1'', h1']
    refine J.eq ret_seq ?_
    refine J.eq go_seq ?_
    refine J.at fun x6 h2 h3 h4 => ?_
    refine J.chk fun h5 => ?_
    conv => arg 1; simp (maxSteps := 1000000) (disch := first | assumption | decide | with_unfolding_all rfl | omega | (simp only [LN] <;> omega) | (simp only [RO, OF])) only [RR, RM, LN, TT, d69_at, ↓reduceIte, Nat.reduceEqDiff, Nat.reduceLT, Nat.reduceLeDiff, Nat.reduceAdd, Nat.reduceSub, Nat.reduceMul, Nat.reduceMod, Nat.reduceDiv, Nat.reduceBEq, RH, h1'', h1', lm_ik h4]
    refine J.eq ret_seq ?_
    conv => arg 1; simp (maxSteps := 1000000) (disch := first | assumption | decide | with_unfolding_all rfl | omega | (simp only [LN] <;> omega) | (simp only [RO, OF])) only [RR, RM, LN, TT, d69_at, ↓reduceIte, Nat.reduceEqDiff, Nat.reduceLT, Nat.reduceLeDiff, Nat.reduceAdd, Nat.reduceSub, Nat.reduceMul, Nat.reduceMod, Nat.reduceDiv, Nat.reduceBEq, RH, h1'', h1', lm_ik h4]
    refine J.next (s := (bor .u64 x3 (shlk .u64 (wk .u64 x6) (wk .i64 (8 * x4))), wk .i64 (x4 + 1))) hn1 ?_ ?_
    · first | rfl | (simp only [LN, NN, NT])
    · first | (simp (disch := first | assumption | decide | with_unfolding_all rfl | omega | (simp only [LN] <;> omega) | (simp only [RO, OF])) only [RR, ↓reduceIte, Nat.reduceEqDiff, Nat.reduceLT, Nat.reduceLeDiff, Nat.reduceAdd, Nat.reduceSub, Nat.reduceMul, Nat.reduceMod, Nat.reduceDiv, Nat.reduceBEq, LN, NN, NT]; done) | rfl
  · have h1' := decide_eq_false h1
    have h1'' : decide ((x1.length : Int) ≤ x4) = true := decide_eq_true (by omega)
    conv => arg 1; simp (maxSteps := 1000000) (disch := first | assumption | decide | with_unfolding_all rfl | omega | (simp only [LN] <;> omega) | (simp only [RO, OF])) only [RR, RM, LN, TT, d69_at, ↓reduceIte, Nat.reduceEqDiff, Nat.reduceLT, Nat.reduceLeDiff, Nat.reduceAdd, Nat.reduceSub, Nat.reduceMul, Nat.reduceMod, Nat.reduceDiv, Nat.reduceBEq, RH, h1'', h1']
    refine J.eq ret_seq ?_
    refine J.some ?_
    simp (disch := first | assumption | decide | with_unfolding_all rfl | omega | (simp only [LN] <;> omega) | (simp only [RO, OF])) only [RR, RM, LN, TT, d69_at, ↓reduceIte, Nat.reduceEqDiff, Nat.reduceLT, Nat.reduceLeDiff, Nat.reduceAdd, Nat.reduceSub, Nat.reduceMul, Nat.reduceMod, Nat.reduceDiv, Nat.reduceBEq, RH, h1'', h1', FF, LN, NN, NT]
noncomputable def t69 (fu : Nat) : CallP := noP
theorem t69_ok (fu : Nat) : CpOK Try.prog (t69 fu ) := noP_ok
theorem ok69 (fu : Nat) (x1 : List Int) (r) (h : tens_number fu x1 = some r) : PureOK Try.prog 69 [.arr x1.length (lm (ik .u8) x1)] (e69 r) :=
  pure_J mixed (cp := t69 fu ) (t69_ok fu  ) noI_ok i69 (w69 _ fu x1  ) h
/-! 43: lattice/tens.FromBytes -/
def d43 : List (Nat × List Nat) := [(0, [7]), (0, [0, 2, 10, 44, 45]), (0, [1, 14, 15, 16, 17, 18, 19]), (0, []), (0, [20]), (0, [12, 13, 59]), (0, [22, 23]), (0, []), (0, [9, 24, 25]), (0, []), (0, [26, 27, 28, 29, 30, 31, 32, 33, 34, 35, 36]), (0, []), (0, [37, 38, 39, 40, 41]), (0, []), (0, [43]), (0, []), (0, [11]), (0, []), (0, []), (0, []), (0, [47]), (0, []), (0, [48, 49, 50, 51, 52, 53, 54, 55, 56, 57, 58]), (0, []), (0, []), (0, []), (0, [60]), (0, []), (0, [62]), (0, []), (0, [63, 64, 65, 66, 67, 68]), (0, []), (0, [70]), (0, []), (0, [71, 72, 73, 74, 75, 76]), (0, []), (0, [78]), (0, []), (0, [79, 80, 81, 82, 83, 84]), (0, []), (0, [85]), (0, []), (0, [8, 86])]
def d43_at := And.intro (show d43.getD 0 (0, []) = (0, [7]) from rfl) <| And.intro (show d43.getD 1 (0, []) = (0, [0, 2, 10, 44, 45]) from rfl) <| And.intro (show d43.getD 2 (0, []) = (0, [1, 14, 15, 16, 17, 18, 19]) from rfl) <| And.intro (show d43.getD 3 (0, []) = (0, []) from rfl) <| And.intro (show d43.getD 4 (0, []) = (0, [20]) from rfl) <| And.intro (show d43.getD 5 (0, []) = (0, [12, 13, 59]) from rfl) <| And.intro (show d43.getD 6 (0, []) = (0, [22, 23]) from rfl) <| And.intro (show d43.getD 7 (0, []) = (0, []) from rfl) <| And.intro (show d43.getD 8 (0, []) = (0, [9, 24, 25]) from rfl) <| And.intro (show d43.getD 9 (0, []) = (0, []) from rfl) <| And.intro (show d43.getD 10 (0, []) = (0, [26, 27, 28, 29, 30, 31, 32, 33, 34, 35, 36]) from rfl) <| And.intro (show d43.getD 11 (0, []) = (0, []) from rfl) <| And.intro (show d43.getD 12 (0, []) = (0, [37, 38, 39, 40, 41]) from rfl) <| And.intro (show d43.getD 13 (0, []) = (0, []) from rfl) <| And.intro (show d43.getD 14 (0, []) = (0, [43]) from rfl) <| And.intro (show d43.getD 15 (0, []) = (0, []) from rfl) <| And.intro (show d43.getD 16 (0, []) = (0, [11]) from rfl) <| And.intro (show d43.getD 17 (0, []) = (0, []) from rfl) <| And.intro (show d43.getD 18 (0, []) = (0, []) from rfl) <| And.intro (show d43.getD 19 (0, []) = (0, []) from rfl) <| And.intro (show d43.getD 20 (0, []) = (0, [47]) from rfl) <| And.intro (show d43.getD 21 (0, []) = (0, []) from rfl) <| And.intro (show d43.getD 22 (0, []) = (0, [48, 49, 50, 51, 52, 53, 54, 55, 56, 57, 58]) from rfl) <| And.intro (show d43.getD 23 (0, []) = (0, []) from rfl) <| And.intro (show d43.getD 24 (0, []) = (0, []) from rfl) <| And.intro (show d43.getD 25 (0, []) = (0, []) from rfl) <| And.intro (show d43.getD 26 (0, []) = (0, [60]) from rfl) <| And.intro (show d43.getD 27 (0, []) = (0, []) from rfl) <| And.intro (show d43.getD 28 (0, []) = (0, [62]) from rfl) <| And.intro (show d43.getD 29 (0, []) = (0, []) from rfl) <| And.intro (show d43.getD 30 (0, []) = (0, [63, 64, 65, 66, 67, 68]) from rfl) <| And.intro (show d43.getD 31 (0, []) = (0, []) from rfl) <| And.intro (show d43.getD 32 (0, []) = (0, [70]) from rfl) <| And.intro (show d43.getD 33 (0, []) = (0, []) from rfl) <| And.intro (show d43.getD 34 (0, []) = (0, [71, 72, 73, 74, 75, 76]) from rfl) <| And.intro (show d43.getD 35 (0, []) = (0, []) from rfl) <| And.intro (show d43.getD 36 (0, []) = (0, [78]) from rfl) <| And.intro (show d43.getD 37 (0, []) = (0, []) from rfl) <| And.intro (show d43.getD 38 (0, []) = (0, [79, 80, 81, 82, 83, 84]) from rfl) <| And.intro (show d43.getD 39 (0, []) = (0, []) from rfl) <| And.intro (show d43.getD 40 (0, []) = (0, [85]) from rfl) <| And.intro (show d43.getD 41 (0, []) = (0, []) from rfl) <| (show d43.getD 42 (0, []) = (0, [8, 86]) from rfl)
theorem i43 : finfo Try.prog 43 d43 = some ⟨bodyOf Try.f43, [.cell 6 42, .tmp 7], [42, 25]⟩ := finfo_at Try.func43 rfl (by kernel_rfl) (by kernel_rfl)
def e43 : (T_Tensor × Int) → AV := fun r => .tuple [.agg [.v (.int .i64 r.1.fType), .fresh 1 r.1.fDims.length (lm (ik .i64) r.1.fDims), .fresh 1 r.1.fF.length (lm (ik .u32) r.1.fF), .fresh 1 r.1.fI.length (lm (ik .i64) r.1.fI), .fresh 1 r.1.fB.length (lm (bk) r.1.fB)], .v (.int .i64 r.2)]
set_option maxHeartbeats 1000000 in
theorem w43 (cp : CallP) (fu : Nat) (x1 : Int) (x2 : List Int) (x3 : List Int) (H30_0 : ∀ (a0 : Int) (a1 : List Int) r, tens_New fu a0 a1 = some r → cp 30 [.v (.int .i64 a0), .arr a1.length (lm (ik .i64) a1)] = some (.tuple [.agg [.v (.int .i64 r.1.fType), .fresh 1 r.1.fDims.length (lm (ik .i64) r.1.fDims), .fresh 1 r.1.fF.length (lm (ik .u32) r.1.fF), .fresh 1 r.1.fI.length (lm (ik .i64) r.1.fI), .fresh 1 r.1.fB.length (lm (bk) r.1.fB)], .v (.int .i64 r.2)])) (H34_0 : ∀ (a0 : Int) r, tens_Width fu a0 = some r → cp 34 [.v (.int .i64 a0)] = some (.v (.int .i64 r))) (H69_0 : ∀ (a0 : List Int) r, tens_number fu a0 = some r → cp 69 [.arr a0.length (lm (ik .u8) a0)] = some (.v (.int .u64 r))) : J (go Try.prog noC cp noI 0 [] d43 fu (fin Try.prog [.cell 6 42, .tmp 7] [42, 25]) (bodyOf Try.f43) (initE 0 [.v (.int .i64 x1), .arr x2.length (lm (ik .i64) x2), .arr x3.length (lm (ik .u8) x3)]) [] []) (tens_FromBytes fu x1 x2 x3) e43 := by
  unfold tens_FromBytes e43
  refine J.bind fun x4 h1 => ?_
  have e_h1 := H30_0 _ _ _ h1
  try simp only [NN, NT, LN] at e_h1
  conv => arg 1; simp (maxSteps := 1000000) (disch := first | assumption | decide | with_unfolding_all rfl | omega | (simp only [LN] <;> omega) | (simp only [RO, OF])) only [bodyOf, Try.f43, RR, RM, LN, TT, d43_at, ↓reduceIte, Nat.reduceEqDiff, Nat.reduceLT, Nat.reduceLeDiff, Nat.reduceAdd, Nat.reduceSub, Nat.reduceMul, Nat.reduceMod, Nat.reduceDiv, Nat.reduceBEq, RH, e_h1]
  refine J.eq go_seq ?_
  conv => arg 1; simp (maxSteps := 1000000) (disch := first | assumption | decide | with_unfolding_all rfl | omega | (simp only [LN] <;> omega) | (simp only [RO, OF])) only [RR, RM, LN, TT, d43_at, ↓reduceIte, Nat.reduceEqDiff, Nat.reduceLT, Nat.reduceLeDiff, Nat.reduceAdd, Nat.reduceSub, Nat.reduceMul, Nat.reduceMod, Nat.reduceDiv, Nat.reduceBEq, RH, e_h1]
  refine J.ite (fun h2 => ?_) (fun h2 => ?_)
  · have h2' := decide_eq_true h2
    conv => arg 1; simp (maxSteps := 1000000) (disch := first | assumption | decide | with_unfolding_all rfl | omega | (simp only [LN] <;> omega) | (simp only [RO, OF])) only [RR, RM, LN, TT, d43_at, ↓reduceIte, Nat.reduceEqDiff, Nat.reduceLT, Nat.reduceLeDiff, Nat.reduceAdd, Nat.reduceSub, Nat.reduceMul, Nat.reduceMod, Nat.reduceDiv, Nat.reduceBEq, RH, e_h1, h2']
    refine J.eq ret_seq ?_
    refine J.bind fun x5 h3 => ?_
    have e_h3 := H34_0 _ _ h3
    try simp only [NN, NT, LN] at e_h3
    conv => arg 1; simp (maxSteps := 1000000) (disch := first | assumption | decide | with_unfolding_all rfl | omega | (simp only [LN] <;> omega) | (simp only [RO, OF])) only [RR, RM, LN, TT, d43_at, ↓reduceIte, Nat.reduceEqDiff, Nat.reduceLT, Nat.reduceLeDiff, Nat.reduceAdd, Nat.reduceSub, Nat.reduceMul, Nat.reduceMod, Nat.reduceDiv, Nat.reduceBEq, RH, e_h1, h2', e_h3]
    refine J.eq go_seq ?_
    conv => arg 1; simp (maxSteps := 1000000) (disch := first | assumption | decide | with_unfolding_all rfl | omega | (simp only [LN] <;> omega) | (simp only [RO, OF])) only [RR, RM, LN, TT, d43_at, ↓reduceIte, Nat.reduceEqDiff, Nat.reduceLT, Nat.reduceLeDiff, Nat.reduceAdd, Nat.reduceSub, Nat.reduceMul, Nat.reduceMod, Nat.reduceDiv, Nat.reduceBEq, RH, e_h1, h2', e_h3]
    refine J.ite (fun h4 => ?_) (fun h4 => ?_)
    · have h4' := decide_eq_true h4
      conv => arg 1; simp (maxSteps := 1000000) (disch := first | assumption | decide | with_unfolding_all rfl | omega | (simp only [LN] <;> omega) | (simp only [RO, OF])) only [RR, RM, LN, TT, d43_at, ↓reduceIte, Nat.reduceEqDiff, Nat.reduceLT, Nat.reduceLeDiff, Nat.reduceAdd, Nat.reduceSub, Nat.reduceMul, Nat.reduceMod, Nat.reduceDiv, Nat.reduceBEq, RH, e_h1, h2', e_h3, h4']
      refine J.eq ret_seq ?_
      refine J.eq go_seq ?_
      conv => arg 1; simp (maxSteps := 1000000) (disch := first | assumption | decide | with_unfolding_all rfl | omega | (simp only [LN] <;> omega) | (simp only [RO, OF])) only [RR, RM, LN, TT, d43_at, ↓reduceIte, Nat.reduceEqDiff, Nat.reduceLT, Nat.reduceLeDiff, Nat.reduceAdd, Nat.reduceSub, Nat.reduceMul, Nat.reduceMod, Nat.reduceDiv, Nat.reduceBEq, RH, e_h1, h2', e_h3, h4']
      unfold tens_FromBytes_W1
      refine J.loop (fun (s : (List Int) × (List Int) × (List Bool) × Int) => ([(0, .v (.int .i64 x1)), (2, .arr x3.length (lm (ik .u8) x3)), (6, .ptr (0, 6, 0) 0 0), (8, .ptr (0, 8, 0) 0 0), (10, .v (.int .i64 x5)), (44, .v (.int .i64 (wk .i64 ((wk .i64 (((x4.1.fF.length : Nat) : Int) + ((x4.1.fI.length : Nat) : Int))) + ((x4.1.fB.length : Nat) : Int))))), (45, .v (.int .i64 s.2.2.2))], [((0, 6, 0), .bx true ([.v (.int .i64 0), .v (.slice none 0 0), .v (.slice none 0 0), .v (.slice none 0 0), .v (.slice none 0 0)])), ((0, 17, 0), .sl true true 1 x4.1.fDims.length (lm (ik .i64) x4.1.fDims)), ((0, 17, 1), .sl true true 1 s.1.length (lm (ik .u32) s.1)), ((0, 17, 2), .sl true true 1 s.2.1.length (lm (ik .i64) s.2.1)), ((0, 17, 3), .sl true true 1 s.2.2.1.length (lm (bk) s.2.2.1)), ((0, 8, 0), .bx true ([.v (.int .i64 x4.1.fType), .own (0, 17, 0) 0 x4.1.fDims.length x4.1.fDims.length, .own (0, 17, 1) 0 s.1.length s.1.length, .own (0, 17, 2) 0 s.2.1.length s.2.1.length, .own (0, 17, 3) 0 s.2.2.1.length s.2.2.1.length]))])) (fun next s => tens_FromBytes_L1 fu x1 x3 x4 x5 (fun x7 x8 x9 x10 => next (x7, x8, x9, x10)) s.1 s.2.1 s.2.2.1 s.2.2.2) (s0 := (x4.1.fF, x4.1.fI, x4.1.fB, 0)) ?_ ?_ ?_
      · first | rfl | (simp only [LN, NN, NT])
      · first | (simp (disch := first | assumption | decide | with_unfolding_all rfl | omega | (simp only [LN] <;> omega) | (simp only [RO, OF])) only [RR, ↓reduceIte, Nat.reduceEqDiff, Nat.reduceLT, Nat.reduceLeDiff, Nat.reduceAdd, Nat.reduceSub, Nat.reduceMul, Nat.reduceMod, Nat.reduceDiv, Nat.reduceBEq, LN, NN, NT]; done) | rfl
      rintro next k1 hn1 ⟨x7, x8, x9, x10⟩
      let nx1 : (List Int) → (List Int) → (List Bool) → Int → Option (T_Tensor × Int) := (fun x7 x8 x9 x10 => next (x7, x8, x9, x10))
      show J _ (tens_FromBytes_L1 fu x1 x3 x4 x5 nx1 x7 x8 x9 x10) _
      unfold tens_FromBytes_L1
      conv => arg 1; simp (maxSteps := 1000000) (disch := first | assumption | decide | with_unfolding_all rfl | omega | (simp only [LN] <;> omega) | (simp only [RO, OF])) only [RR, RM, LN, TT, d43_at, ↓reduceIte, Nat.reduceEqDiff, Nat.reduceLT, Nat.reduceLeDiff, Nat.reduceAdd, Nat.reduceSub, Nat.reduceMul, Nat.reduceMod, Nat.reduceDiv, Nat.reduceBEq, RH, e_h1, h2', e_h3, h4']
      refine J.eq go_seq ?_
      conv => arg 1; simp (maxSteps := 1000000) (disch := first | assumption | decide | with_unfolding_all rfl | omega | (simp only [LN] <;> omega) | (simp only [RO, OF])) only [RR, RM, LN, TT, d43_at, ↓reduceIte, Nat.reduceEqDiff, Nat.reduceLT, Nat.reduceLeDiff, Nat.reduceAdd, Nat.reduceSub, Nat.reduceMul, Nat.reduceMod, Nat.reduceDiv, Nat.reduceBEq, RH, e_h1, h2', e_h3, h4']
      refine J.ite (fun h5 => ?_) (fun h5 => ?_)
      · have h5' := decide_eq_true h5
        have h5'' : decide ((wk .i64 ((wk .i64 (((x4.1.fF.length : Nat) : Int) + ((x4.1.fI.length : Nat) : Int))) + ((x4.1.fB.length : Nat) : Int))) ≤ x10) = false := decide_eq_false (by omega)
        conv => arg 1; simp (maxSteps := 1000000) (disch := first | assumption | decide | with_unfolding_all rfl | omega | (simp only [LN] <;> omega) | (simp only [RO, OF])) only [RR, RM, LN, TT, d43_at, ↓reduceIte, Nat.reduceEqDiff, Nat.reduceLT, Nat.reduceLeDiff, Nat.reduceAdd, Nat.reduceSub, Nat.reduceMul, Nat.reduceMod, Nat.reduceDiv, Nat.reduceBEq, RH, e_h1, h2', e_h3, h4', h5'', h5']
        refine J.eq ret_seq ?_
        refine J.eq go_seq ?_
        refine J.chk fun h6 => ?_
        refine J.bind fun x12 h7 => ?_
        have e_h7 := H69_0 _ _ h7
        try simp only [NN, NT, LN] at e_h7
        conv => arg 1; simp (maxSteps := 1000000) (disch := first | assumption | decide | with_unfolding_all rfl | omega | (simp only [LN] <;> omega) | (simp only [RO, OF])) only [RR, RM, LN, TT, d43_at, ↓reduceIte, Nat.reduceEqDiff, Nat.reduceLT, Nat.reduceLeDiff, Nat.reduceAdd, Nat.reduceSub, Nat.reduceMul, Nat.reduceMod, Nat.reduceDiv, Nat.reduceBEq, RH, e_h1, h2', e_h3, h4', h5'', h5', e_h7]
        refine J.ite (fun h8 => ?_) (fun h8 => ?_)
        · have h8' := decide_eq_true h8
          refine J.chk fun h9 => ?_
          conv => arg 1; simp (maxSteps := 1000000) (disch := first | assumption | decide | with_unfolding_all rfl | omega | (simp only [LN] <;> omega) | (simp only [RO, OF])) only [RR, RM, LN, TT, d43_at, ↓reduceIte, Nat.reduceEqDiff, Nat.reduceLT, Nat.reduceLeDiff, Nat.reduceAdd, Nat.reduceSub, Nat.reduceMul, Nat.reduceMod, Nat.reduceDiv, Nat.reduceBEq, RH, e_h1, h2', e_h3, h4', h5'', h5', e_h7, h8']
          refine J.eq ret_seq ?_
          conv => arg 1; simp (maxSteps := 1000000) (disch := first | assumption | decide | with_unfolding_all rfl | omega | (simp only [LN] <;> omega) | (simp only [RO, OF])) only [RR, RM, LN, TT, d43_at, ↓reduceIte, Nat.reduceEqDiff, Nat.reduceLT, Nat.reduceLeDiff, Nat.reduceAdd, Nat.reduceSub, Nat.reduceMul, Nat.reduceMod, Nat.reduceDiv, Nat.reduceBEq, RH, e_h1, h2', e_h3, h4', h5'', h5', e_h7, h8']
          refine J.next (s := (x7.set x10.toNat (wk .u32 x12), x8, x9, wk .i64 (x10 + 1))) hn1 ?_ ?_
          · first | rfl | (simp only [LN, NN, NT])
          · first | (simp (disch := first | assumption | decide | with_unfolding_all rfl | omega | (simp only [LN] <;> omega) | (simp only [RO, OF])) only [RR, ↓reduceIte, Nat.reduceEqDiff, Nat.reduceLT, Nat.reduceLeDiff, Nat.reduceAdd, Nat.reduceSub, Nat.reduceMul, Nat.reduceMod, Nat.reduceDiv, Nat.reduceBEq, LN, NN, NT]; done) | rfl
        · have h8' := decide_eq_false h8
          conv => arg 1; simp (maxSteps := 1000000) (disch := first | assumption | decide | with_unfolding_all rfl | omega | (simp only [LN] <;> omega) | (simp only [RO, OF])) only [RR, RM, LN, TT, d43_at, ↓reduceIte, Nat.reduceEqDiff, Nat.reduceLT, Nat.reduceLeDiff, Nat.reduceAdd, Nat.reduceSub, Nat.reduceMul, Nat.reduceMod, Nat.reduceDiv, Nat.reduceBEq, RH, e_h1, h2', e_h3, h4', h5'', h5', e_h7, h8']
          refine J.ite (fun h10 => ?_) (fun h10 => ?_)
          · have h10' := decide_eq_true h10
            refine J.chk fun h11 => ?_
            conv => arg 1; simp (maxSteps := 1000000) (disch := first | assumption | decide | with_unfolding_all rfl | omega | (simp only [LN] <;> omega) | (simp only [RO, OF])) only [RR, RM, LN, TT, d43_at, ↓reduceIte, Nat.reduceEqDiff, Nat.reduceLT, Nat.reduceLeDiff, Nat.reduceAdd, Nat.reduceSub, Nat.reduceMul, Nat.reduceMod, Nat.reduceDiv, Nat.reduceBEq, RH, e_h1, h2', e_h3, h4', h5'', h5', e_h7, h8', h10']
            refine J.eq ret_seq ?_
            conv => arg 1; simp (maxSteps := 1000000) (disch := first | assumption | decide | with_unfolding_all rfl | omega | (simp only [LN] <;> omega) | (simp only [RO, OF])) only [RR, RM, LN, TT, d43_at, ↓reduceIte, Nat.reduceEqDiff, Nat.reduceLT, Nat.reduceLeDiff, Nat.reduceAdd, Nat.reduceSub, Nat.reduceMul, Nat.reduceMod, Nat.reduceDiv, Nat.reduceBEq, RH, e_h1, h2', e_h3, h4', h5'', h5', e_h7, h8', h10']
            refine J.next (s := (x7, x8.set x10.toNat (wk .i64 x12), x9, wk .i64 (x10 + 1))) hn1 ?_ ?_
            · first | rfl | (simp only [LN, NN, NT])
            · first | (simp (disch := first | assumption | decide | with_unfolding_all rfl | omega | (simp only [LN] <;> omega) | (simp only [RO, OF])) only [RR, ↓reduceIte, Nat.reduceEqDiff, Nat.reduceLT, Nat.reduceLeDiff, Nat.reduceAdd, Nat.reduceSub, Nat.reduceMul, Nat.reduceMod, Nat.reduceDiv, Nat.reduceBEq, LN, NN, NT]; done) | rfl
          · have h10' := decide_eq_false h10
            conv => arg 1; simp (maxSteps := 1000000) (disch := first | assumption | decide | with_unfolding_all rfl | omega | (simp only [LN] <;> omega) | (simp only [RO, OF])) only [RR, RM, LN, TT, d43_at, ↓reduceIte, Nat.reduceEqDiff, Nat.reduceLT, Nat.reduceLeDiff, Nat.reduceAdd, Nat.reduceSub, Nat.reduceMul, Nat.reduceMod, Nat.reduceDiv, Nat.reduceBEq, RH, e_h1, h2', e_h3, h4', h5'', h5', e_h7, h8', h10']
            refine J.eq go_seq ?_
            conv => arg 1; simp (maxSteps := 1000000) (disch := first | assumption | decide | with_unfolding_all rfl | omega | (simp only [LN] <;> omega) | (simp only [RO, OF])) only [RR, RM, LN, TT, d43_at, ↓reduceIte, Nat.reduceEqDiff, Nat.reduceLT, Nat.reduceLeDiff, Nat.reduceAdd, Nat.reduceSub, Nat.reduceMul, Nat.reduceMod, Nat.reduceDiv, Nat.reduceBEq, RH, e_h1, h2', e_h3, h4', h5'', h5', e_h7, h8', h10']
            refine J.ite (fun h12 => ?_) (fun h12 => ?_)
            · have h12' := decide_eq_true h12
              have h12'' : decide (x12 ≤ 1) = false := decide_eq_false (by omega)
              refine J.some ?_
              simp (disch := first | assumption | decide | with_unfolding_all rfl | omega | (simp only [LN] <;> omega) | (simp only [RO, OF])) only [RR, RM, LN, TT, d43_at, ↓reduceIte, Nat.reduceEqDiff, Nat.reduceLT, Nat.reduceLeDiff, Nat.reduceAdd, Nat.reduceSub, Nat.reduceMul, Nat.reduceMod, Nat.reduceDiv, Nat.reduceBEq, RH, e_h1, h2', e_h3, h4', h5'', h5', e_h7, h8', h10', h12'', h12', FF, LN, NN, NT]
            · have h12' := decide_eq_false h12
              have h12'' : decide (x12 ≤ 1) = true := decide_eq_true (by omega)
              conv => arg 1; simp (maxSteps := 1000000) (disch := first | assumption | decide | with_unfolding_all rfl | omega | (simp only [LN] <;> omega) | (simp only [RO, OF])) only [RR, RM, LN, TT, d43_at, ↓reduceIte, Nat.reduceEqDiff, Nat.reduceLT, Nat.reduceLeDiff, Nat.reduceAdd, Nat.reduceSub, Nat.reduceMul, Nat.reduceMod, Nat.reduceDiv, Nat.reduceBEq, RH, e_h1, h2', e_h3, h4', h5'', h5', e_h7, h8', h10', h12'', h12']
              refine J.eq ret_seq ?_
              refine J.chk fun h13 => ?_
              conv => arg 1; simp (maxSteps := 1000000) (disch := first | assumption | decide | with_unfolding_all rfl | omega | (simp only [LN] <;> omega) | (simp only [RO, OF])) only [RR, RM, LN, TT, d43_at, ↓reduceIte, Nat.reduceEqDiff, Nat.reduceLT, Nat.reduceLeDiff, Nat.reduceAdd, Nat.reduceSub, Nat.reduceMul, Nat.reduceMod, Nat.reduceDiv, Nat.reduceBEq, RH, e_h1, h2', e_h3, h4', h5'', h5', e_h7, h8', h10', h12'', h12']
              refine J.eq ret_seq ?_
              conv => arg 1; simp (maxSteps := 1000000) (disch := first | assumption | decide | with_unfolding_all rfl | omega | (simp only [LN] <;> omega) | (simp only [RO, OF])) only [RR, RM, LN, TT, d43_at, ↓reduceIte, Nat.reduceEqDiff, Nat.reduceLT, Nat.reduceLeDiff, Nat.reduceAdd, Nat.reduceSub, Nat.reduceMul, Nat.reduceMod, Nat.reduceDiv, Nat.reduceBEq, RH, e_h1, h2', e_h3, h4', h5'', h5', e_h7, h8', h10', h12'', h12']
              refine J.next (s := (x7, x8, x9.set x10.toNat (decide (x12 = 1)), wk .i64 (x10 + 1))) hn1 ?_ ?_
              · first | rfl | (simp only [LN, NN, NT])
              · first | (simp (disch := first | assumption | decide | with_unfolding_all rfl | omega | (simp only [LN] <;> omega) | (simp only [RO, OF])) only [RR, ↓reduceIte, Nat.reduceEqDiff, Nat.reduceLT, Nat.reduceLeDiff, Nat.reduceAdd, Nat.reduceSub, Nat.reduceMul, Nat.reduceMod, Nat.reduceDiv, Nat.reduceBEq, LN, NN, NT]; done) | rfl
      · have h5' := decide_eq_false h5
        have h5'' : decide ((wk .i64 ((wk .i64 (((x4.1.fF.length : Nat) : Int) + ((x4.1.fI.length : Nat) : Int))) + ((x4.1.fB.length : Nat) : Int))) ≤ x10) = true := decide_eq_true (by omega)
        conv => arg 1; simp (maxSteps := 1000000) (disch := first | assumption | decide | with_unfolding_all rfl | omega | (simp only [LN] <;> omega) | (simp only [RO, OF])) only [RR, RM, LN, TT, d43_at, ↓reduceIte, Nat.reduceEqDiff, Nat.reduceLT, Nat.reduceLeDiff, Nat.reduceAdd, Nat.reduceSub, Nat.reduceMul, Nat.reduceMod, Nat.reduceDiv, Nat.reduceBEq, RH, e_h1, h2', e_h3, h4', h5'', h5']
        refine J.eq ret_seq ?_
        refine J.some ?_
        simp (disch := first | assumption | decide | with_unfolding_all rfl | omega | (simp only [LN] <;> omega) | (simp only [RO, OF])) only [RR, RM, LN, TT, d43_at, ↓reduceIte, Nat.reduceEqDiff, Nat.reduceLT, Nat.reduceLeDiff, Nat.reduceAdd, Nat.reduceSub, Nat.reduceMul, Nat.reduceMod, Nat.reduceDiv, Nat.reduceBEq, RH, e_h1, h2', e_h3, h4', h5'', h5', FF, LN, NN, NT]
    · have h4' := decide_eq_false h4
      refine J.some ?_
      simp (disch := first | assumption | decide | with_unfolding_all rfl | omega | (simp only [LN] <;> omega) | (simp only [RO, OF])) only [RR, RM, LN, TT, d43_at, ↓reduceIte, Nat.reduceEqDiff, Nat.reduceLT, Nat.reduceLeDiff, Nat.reduceAdd, Nat.reduceSub, Nat.reduceMul, Nat.reduceMod, Nat.reduceDiv, Nat.reduceBEq, RH, e_h1, h2', e_h3, h4', FF, LN, NN, NT]
  · have h2' := decide_eq_false h2
    refine J.some ?_
    simp (disch := first | assumption | decide | with_unfolding_all rfl | omega | (simp only [LN] <;> omega) | (simp only [RO, OF])) only [RR, RM, LN, TT, d43_at, ↓reduceIte, Nat.reduceEqDiff, Nat.reduceLT, Nat.reduceLeDiff, Nat.reduceAdd, Nat.reduceSub, Nat.reduceMul, Nat.reduceMod, Nat.reduceDiv, Nat.reduceBEq, RH, e_h1, h2', FF, LN, NN, NT]
noncomputable def t43 (fu : Nat) : CallP := orE 30 (mkC (fun (t : Int × (List Int)) => ([.v (.int .i64 t.1), .arr t.2.length (lm (ik .i64) t.2)] : List AV)) (fun t => tens_New fu t.1 t.2) e30) (orE 34 (mkC (fun (t : Int) => ([.v (.int .i64 t)] : List AV)) (fun t => tens_Width fu t) e34) (orE 69 (mkC (fun (t : List Int) => ([.arr t.length (lm (ik .u8) t)] : List AV)) (fun t => tens_number fu t) e69) (noP)))
theorem t43_ok (fu : Nat) : CpOK Try.prog (t43 fu ) := orE_ok (orE_ok (orE_ok (noP_ok) (mkC_ok (fun t b h => ok69 fu t  b h))) (mkC_ok (fun t b h => ok34 fu t  b h))) (mkC_ok (fun t b h => ok30 fu t.1 t.2  b h))
theorem ok43 (fu : Nat) (x1 : Int) (x2 : List Int) (x3 : List Int) (r) (h : tens_FromBytes fu x1 x2 x3 = some r) : PureOK Try.prog 43 [.v (.int .i64 x1), .arr x2.length (lm (ik .i64) x2), .arr x3.length (lm (ik .u8) x3)] (e43 r) :=
  pure_J mixed (cp := t43 fu ) (t43_ok fu  ) noI_ok i43 (w43 _ fu x1 x2 x3  (fun a0 a1 r h => orE_hit (mkC_at (a := (a0, a1)) (by intro a b h; first | (exact rfl) | (simp only [INJ, c_inj_iff c_T_Tensor_inj, lm_inj_iff (inj_avf (inj_fm c_T_Tensor_len (by decide) c_T_Tensor_inj)), fm_inj_iff (inj_fm c_T_Tensor_len (by decide) c_T_Tensor_inj)] at h; first | exact h | (simp_all [Prod.ext_iff]) )) h)) (fun a0 r h => orE_miss (by decide) (orE_hit (mkC_at (a := a0) (by intro a b h; first | (exact rfl) | (simp only [INJ, c_inj_iff c_T_Tensor_inj, lm_inj_iff (inj_avf (inj_fm c_T_Tensor_len (by decide) c_T_Tensor_inj)), fm_inj_iff (inj_fm c_T_Tensor_len (by decide) c_T_Tensor_inj)] at h; first | exact h | (simp_all [Prod.ext_iff]) )) h))) (fun a0 r h => orE_miss (by decide) (orE_miss (by decide) (orE_hit (mkC_at (a := a0) (by intro a b h; first | (exact rfl) | (simp only [INJ, c_inj_iff c_T_Tensor_inj, lm_inj_iff (inj_avf (inj_fm c_T_Tensor_len (by decide) c_T_Tensor_inj)), fm_inj_iff (inj_fm c_T_Tensor_len (by decide) c_T_Tensor_inj)] at h; first | exact h | (simp_all [Prod.ext_iff]) )) h))))) h
/-! 70: lattice/tens.own[int] -/
def d70 : List (Nat × List Nat) := [(0, [2]), (0, []), (0, [0, 3, 4, 5])]
def d70_at := And.intro (show d70.getD 0 (0, []) = (0, [2]) from rfl) <| And.intro (show d70.getD 1 (0, []) = (0, []) from rfl) <| (show d70.getD 2 (0, []) = (0, [0, 3, 4, 5]) from rfl)
theorem i70 : finfo Try.prog 70 d70 = some ⟨bodyOf Try.f70, [.tmp 2], [22]⟩ := finfo_at Try.func70 rfl (by kernel_rfl) (by kernel_rfl)
def e70 : (List Int) → AV := fun r => .fresh 1 r.length (lm (ik .i64) r)
set_option maxHeartbeats 1000000 in
theorem w70 (cp : CallP) (fu : Nat) (x1 : List Int) : J (go Try.prog noC cp noI 0 [] d70 fu (fin Try.prog [.tmp 2] [22]) (bodyOf Try.f70) (initE 0 [.arr x1.length (lm (ik .i64) x1)]) [] []) (tens_own_int fu x1) e70 := by
  unfold tens_own_int e70
  refine J.chk fun h1 => ?_
  refine J.some ?_
  simp (disch := first | assumption | decide | with_unfolding_all rfl | omega | (simp only [LN] <;> omega) | (simp only [RO, OF])) only [bodyOf, Try.f70, RR, RM, LN, TT, d70_at, ↓reduceIte, Nat.reduceEqDiff, Nat.reduceLT, Nat.reduceLeDiff, Nat.reduceAdd, Nat.reduceSub, Nat.reduceMul, Nat.reduceMod, Nat.reduceDiv, Nat.reduceBEq, RH, FF, LN, NN, NT]
noncomputable def t70 (fu : Nat) : CallP := noP
theorem t70_ok (fu : Nat) : CpOK Try.prog (t70 fu ) := noP_ok
theorem ok70 (fu : Nat) (x1 : List Int) (r) (h : tens_own_int fu x1 = some r) : PureOK Try.prog 70 [.arr x1.length (lm (ik .i64) x1)] (e70 r) :=
  pure_J mixed (cp := t70 fu ) (t70_ok fu  ) noI_ok i70 (w70 _ fu x1  ) h
/-! 71: lattice/tens.own[uint32] -/
def d71 : List (Nat × List Nat) := [(0, [2]), (0, []), (0, [0, 3, 4, 5])]
def d71_at := And.intro (show d71.getD 0 (0, []) = (0, [2]) from rfl) <| And.intro (show d71.getD 1 (0, []) = (0, []) from rfl) <| (show d71.getD 2 (0, []) = (0, [0, 3, 4, 5]) from rfl)
theorem i71 : finfo Try.prog 71 d71 = some ⟨bodyOf Try.f71, [.tmp 2], [38]⟩ := finfo_at Try.func71 rfl (by kernel_rfl) (by kernel_rfl)
def e71 : (List Int) → AV := fun r => .fresh 1 r.length (lm (ik .u32) r)
set_option maxHeartbeats 1000000 in
theorem w71 (cp : CallP) (fu : Nat) (x1 : List Int) : J (go Try.prog noC cp noI 0 [] d71 fu (fin Try.prog [.tmp 2] [38]) (bodyOf Try.f71) (initE 0 [.arr x1.length (lm (ik .u32) x1)]) [] []) (tens_own_uint32 fu x1) e71 := by
  unfold tens_own_uint32 e71
  refine J.chk fun h1 => ?_
  refine J.some ?_
  simp (disch := first | assumption | decide | with_unfolding_all rfl | omega | (simp only [LN] <;> omega) | (simp only [RO, OF])) only [bodyOf, Try.f71, RR, RM, LN, TT, d71_at, ↓reduceIte, Nat.reduceEqDiff, Nat.reduceLT, Nat.reduceLeDiff, Nat.reduceAdd, Nat.reduceSub, Nat.reduceMul, Nat.reduceMod, Nat.reduceDiv, Nat.reduceBEq, RH, FF, LN, NN, NT]
noncomputable def t71 (fu : Nat) : CallP := noP
theorem t71_ok (fu : Nat) : CpOK Try.prog (t71 fu ) := noP_ok
theorem ok71 (fu : Nat) (x1 : List Int) (r) (h : tens_own_uint32 fu x1 = some r) : PureOK Try.prog 71 [.arr x1.length (lm (ik .u32) x1)] (e71 r) :=
  pure_J mixed (cp := t71 fu ) (t71_ok fu  ) noI_ok i71 (w71 _ fu x1  ) h
/-! 72: lattice/tens.own[int64] -/
def d72 : List (Nat × List Nat) := [(0, [2]), (0, []), (0, [0, 3, 4, 5])]
def d72_at := And.intro (show d72.getD 0 (0, []) = (0, [2]) from rfl) <| And.intro (show d72.getD 1 (0, []) = (0, []) from rfl) <| (show d72.getD 2 (0, []) = (0, [0, 3, 4, 5]) from rfl)
theorem i72 : finfo Try.prog 72 d72 = some ⟨bodyOf Try.f72, [.tmp 2], [39]⟩ := finfo_at Try.func72 rfl (by kernel_rfl) (by kernel_rfl)
def e72 : (List Int) → AV := fun r => .fresh 1 r.length (lm (ik .i64) r)
set_option maxHeartbeats 1000000 in
theorem w72 (cp : CallP) (fu : Nat) (x1 : List Int) : J (go Try.prog noC cp noI 0 [] d72 fu (fin Try.prog [.tmp 2] [39]) (bodyOf Try.f72) (initE 0 [.arr x1.length (lm (ik .i64) x1)]) [] []) (tens_own_int64 fu x1) e72 := by
  unfold tens_own_int64 e72
  refine J.chk fun h1 => ?_
  refine J.some ?_
  simp (disch := first | assumption | decide | with_unfolding_all rfl | omega | (simp only [LN] <;> omega) | (simp only [RO, OF])) only [bodyOf, Try.f72, RR, RM, LN, TT, d72_at, ↓reduceIte, Nat.reduceEqDiff, Nat.reduceLT, Nat.reduceLeDiff, Nat.reduceAdd, Nat.reduceSub, Nat.reduceMul, Nat.reduceMod, Nat.reduceDiv, Nat.reduceBEq, RH, FF, LN, NN, NT]
noncomputable def t72 (fu : Nat) : CallP := noP
theorem t72_ok (fu : Nat) : CpOK Try.prog (t72 fu ) := noP_ok
theorem ok72 (fu : Nat) (x1 : List Int) (r) (h : tens_own_int64 fu x1 = some r) : PureOK Try.prog 72 [.arr x1.length (lm (ik .i64) x1)] (e72 r) :=
  pure_J mixed (cp := t72 fu ) (t72_ok fu  ) noI_ok i72 (w72 _ fu x1  ) h
/-! 73: lattice/tens.own[bool] -/
def d73 : List (Nat × List Nat) := [(0, [2]), (0, []), (0, [0, 3, 4, 5])]
def d73_at := And.intro (show d73.getD 0 (0, []) = (0, [2]) from rfl) <| And.intro (show d73.getD 1 (0, []) = (0, []) from rfl) <| (show d73.getD 2 (0, []) = (0, [0, 3, 4, 5]) from rfl)
theorem i73 : finfo Try.prog 73 d73 = some ⟨bodyOf Try.f73, [.tmp 2], [40]⟩ := finfo_at Try.func73 rfl (by kernel_rfl) (by kernel_rfl)
def e73 : (List Bool) → AV := fun r => .fresh 1 r.length (lm (bk) r)
set_option maxHeartbeats 1000000 in
theorem w73 (cp : CallP) (fu : Nat) (x1 : List Bool) : J (go Try.prog noC cp noI 0 [] d73 fu (fin Try.prog [.tmp 2] [40]) (bodyOf Try.f73) (initE 0 [.arr x1.length (lm (bk) x1)]) [] []) (tens_own_bool fu x1) e73 := by
  unfold tens_own_bool e73
  refine J.chk fun h1 => ?_
  refine J.some ?_
  simp (disch := first | assumption | decide | with_unfolding_all rfl | omega | (simp only [LN] <;> omega) | (simp only [RO, OF])) only [bodyOf, Try.f73, RR, RM, LN, TT, d73_at, ↓reduceIte, Nat.reduceEqDiff, Nat.reduceLT, Nat.reduceLeDiff, Nat.reduceAdd, Nat.reduceSub, Nat.reduceMul, Nat.reduceMod, Nat.reduceDiv, Nat.reduceBEq, RH, FF, LN, NN, NT]
noncomputable def t73 (fu : Nat) : CallP := noP
theorem t73_ok (fu : Nat) : CpOK Try.prog (t73 fu ) := noP_ok
theorem ok73 (fu : Nat) (x1 : List Bool) (r) (h : tens_own_bool fu x1 = some r) : PureOK Try.prog 73 [.arr x1.length (lm (bk) x1)] (e73 r) :=
  pure_J mixed (cp := t73 fu ) (t73_ok fu  ) noI_ok i73 (w73 _ fu x1  ) h
/-! 45: lattice/tens.Copy -/
def d45 : List (Nat × List Nat) := [(0, [0]), (0, []), (15, [1, 3, 4, 5, 6, 7, 8, 9, 10, 11, 12, 13, 14, 15, 16, 17])]
def d45_at := And.intro (show d45.getD 0 (0, []) = (0, [0]) from rfl) <| And.intro (show d45.getD 1 (0, []) = (0, []) from rfl) <| (show d45.getD 2 (0, []) = (15, [1, 3, 4, 5, 6, 7, 8, 9, 10, 11, 12, 13, 14, 15, 16, 17]) from rfl)
theorem i45 : finfo Try.prog 45 d45 = some ⟨bodyOf Try.f45, [.cell 2 42], [42]⟩ := finfo_at Try.func45 rfl (by kernel_rfl) (by kernel_rfl)
def e45 : T_Tensor → AV := fun r => .agg [.v (.int .i64 r.fType), .fresh 1 r.fDims.length (lm (ik .i64) r.fDims), .fresh 1 r.fF.length (lm (ik .u32) r.fF), .fresh 1 r.fI.length (lm (ik .i64) r.fI), .fresh 1 r.fB.length (lm (bk) r.fB)]
set_option maxHeartbeats 1000000 in
theorem w45 (cp : CallP) (fu : Nat) (x1 : T_Tensor) (H70_0 : ∀ (a0 : List Int) r, tens_own_int fu a0 = some r → cp 70 [.arr a0.length (lm (ik .i64) a0)] = some (.fresh 1 r.length (lm (ik .i64) r))) (H71_0 : ∀ (a0 : List Int) r, tens_own_uint32 fu a0 = some r → cp 71 [.arr a0.length (lm (ik .u32) a0)] = some (.fresh 1 r.length (lm (ik .u32) r))) (H72_0 : ∀ (a0 : List Int) r, tens_own_int64 fu a0 = some r → cp 72 [.arr a0.length (lm (ik .i64) a0)] = some (.fresh 1 r.length (lm (ik .i64) r))) (H73_0 : ∀ (a0 : List Bool) r, tens_own_bool fu a0 = some r → cp 73 [.arr a0.length (lm (bk) a0)] = some (.fresh 1 r.length (lm (bk) r))) : J (go Try.prog noC cp noI 0 [] d45 fu (fin Try.prog [.cell 2 42] [42]) (bodyOf Try.f45) (initE 0 [.agg (c_T_Tensor x1)]) [] []) (tens_Copy fu x1) e45 := by
  unfold tens_Copy e45
  refine J.bind fun x2 h1 => ?_
  have e_h1 := H70_0 _ _ h1
  try simp only [NN, NT, LN] at e_h1
  refine J.bind fun x3 h2 => ?_
  have e_h2 := H71_0 _ _ h2
  try simp only [NN, NT, LN] at e_h2
  refine J.bind fun x4 h3 => ?_
  have e_h3 := H72_0 _ _ h3
  try simp only [NN, NT, LN] at e_h3
  refine J.bind fun x5 h4 => ?_
  have e_h4 := H73_0 _ _ h4
  try simp only [NN, NT, LN] at e_h4
  refine J.some ?_
  simp (disch := first | assumption | decide | with_unfolding_all rfl | omega | (simp only [LN] <;> omega) | (simp only [RO, OF])) only [bodyOf, Try.f45, RR, RM, LN, TT, d45_at, ↓reduceIte, Nat.reduceEqDiff, Nat.reduceLT, Nat.reduceLeDiff, Nat.reduceAdd, Nat.reduceSub, Nat.reduceMul, Nat.reduceMod, Nat.reduceDiv, Nat.reduceBEq, RH, e_h1, e_h2, e_h3, e_h4, FF, LN, NN, NT]
noncomputable def t45 (fu : Nat) : CallP := orE 70 (mkC (fun (t : List Int) => ([.arr t.length (lm (ik .i64) t)] : List AV)) (fun t => tens_own_int fu t) e70) (orE 71 (mkC (fun (t : List Int) => ([.arr t.length (lm (ik .u32) t)] : List AV)) (fun t => tens_own_uint32 fu t) e71) (orE 72 (mkC (fun (t : List Int) => ([.arr t.length (lm (ik .i64) t)] : List AV)) (fun t => tens_own_int64 fu t) e72) (orE 73 (mkC (fun (t : List Bool) => ([.arr t.length (lm (bk) t)] : List AV)) (fun t => tens_own_bool fu t) e73) (noP))))
theorem t45_ok (fu : Nat) : CpOK Try.prog (t45 fu ) := orE_ok (orE_ok (orE_ok (orE_ok (noP_ok) (mkC_ok (fun t b h => ok73 fu t  b h))) (mkC_ok (fun t b h => ok72 fu t  b h))) (mkC_ok (fun t b h => ok71 fu t  b h))) (mkC_ok (fun t b h => ok70 fu t  b h))
theorem ok45 (fu : Nat) (x1 : T_Tensor) (r) (h : tens_Copy fu x1 = some r) : PureOK Try.prog 45 [.agg (c_T_Tensor x1)] (e45 r) :=
  pure_J mixed (cp := t45 fu ) (t45_ok fu  ) noI_ok i45 (w45 _ fu x1  (fun a0 r h => orE_hit (mkC_at (a := a0) (by intro a b h; first | (exact rfl) | (simp only [INJ, c_inj_iff c_T_Tensor_inj, lm_inj_iff (inj_avf (inj_fm c_T_Tensor_len (by decide) c_T_Tensor_inj)), fm_inj_iff (inj_fm c_T_Tensor_len (by decide) c_T_Tensor_inj)] at h; first | exact h | (simp_all [Prod.ext_iff]) )) h)) (fun a0 r h => orE_miss (by decide) (orE_hit (mkC_at (a := a0) (by intro a b h; first | (exact rfl) | (simp only [INJ, c_inj_iff c_T_Tensor_inj, lm_inj_iff (inj_avf (inj_fm c_T_Tensor_len (by decide) c_T_Tensor_inj)), fm_inj_iff (inj_fm c_T_Tensor_len (by decide) c_T_Tensor_inj)] at h; first | exact h | (simp_all [Prod.ext_iff]) )) h))) (fun a0 r h => orE_miss (by decide) (orE_miss (by decide) (orE_hit (mkC_at (a := a0) (by intro a b h; first | (exact rfl) | (simp only [INJ, c_inj_iff c_T_Tensor_inj, lm_inj_iff (inj_avf (inj_fm c_T_Tensor_len (by decide) c_T_Tensor_inj)), fm_inj_iff (inj_fm c_T_Tensor_len (by decide) c_T_Tensor_inj)] at h; first | exact h | (simp_all [Prod.ext_iff]) )) h)))) (fun a0 r h => orE_miss (by decide) (orE_miss (by decide) (orE_miss (by decide) (orE_hit (mkC_at (a := a0) (by intro a b h; first | (exact rfl) | (simp only [INJ, c_inj_iff c_T_Tensor_inj, lm_inj_iff (inj_avf (inj_fm c_T_Tensor_len (by decide) c_T_Tensor_inj)), fm_inj_iff (inj_fm c_T_Tensor_len (by decide) c_T_Tensor_inj)] at h; first | exact h | (simp_all [Prod.ext_iff]) )) h)))))) h
/-! 83: lattice/soft.Abs -/
def d83 : List (Nat × List Nat) := [(0, [2]), (0, []), (0, [0, 3, 4])]
def d83_at := And.intro (show d83.getD 0 (0, []) = (0, [2]) from rfl) <| And.intro (show d83.getD 1 (0, []) = (0, []) from rfl) <| (show d83.getD 2 (0, []) = (0, [0, 3, 4]) from rfl)
theorem i83 : finfo Try.prog 83 d83 = some ⟨bodyOf Try.f83, [.tmp 2], [68]⟩ := finfo_at Try.func83 rfl (by kernel_rfl) (by kernel_rfl)
def e83 : Int → AV := fun r => .v (.int .u32 r)
set_option maxHeartbeats 1000000 in
theorem w83 (cp : CallP) (fu : Nat) (x1 : Int) : J (go Try.prog noC cp noI 0 [] d83 fu (fin Try.prog [.tmp 2] [68]) (bodyOf Try.f83) (initE 0 [.v (.int .u32 x1)]) [] []) (soft_Abs fu x1) e83 := by
  unfold soft_Abs e83
  refine J.some ?_
  simp (disch := first | assumption | decide | with_unfolding_all rfl | omega | (simp only [LN] <;> omega) | (simp only [RO, OF])) only [bodyOf, Try.f83, RR, RM, LN, TT, d83_at, ↓reduceIte, Nat.reduceEqDiff, Nat.reduceLT, Nat.reduceLeDiff, Nat.reduceAdd, Nat.reduceSub, Nat.reduceMul, Nat.reduceMod, Nat.reduceDiv, Nat.reduceBEq, RH, FF, LN, NN, NT]
noncomputable def t83 (fu : Nat) : CallP := noP
theorem t83_ok (fu : Nat) : CpOK Try.prog (t83 fu ) := noP_ok
theorem ok83 (fu : Nat) (x1 : Int) (r) (h : soft_Abs fu x1 = some r) : PureOK Try.prog 83 [.v (.int .u32 x1)] (e83 r) :=
  pure_J mixed (cp := t83 fu ) (t83_ok fu  ) noI_ok i83 (w83 _ fu x1  ) h
/-! 81: lattice/soft.NaN -/
def d81 : List (Nat × List Nat) := [(0, [2]), (0, []), (0, [0, 3, 4, 5])]
def d81_at := And.intro (show d81.getD 0 (0, []) = (0, [2]) from rfl) <| And.intro (show d81.getD 1 (0, []) = (0, []) from rfl) <| (show d81.getD 2 (0, []) = (0, [0, 3, 4, 5]) from rfl)
theorem i81 : finfo Try.prog 81 d81 = some ⟨bodyOf Try.f81, [.tmp 2], [4]⟩ := finfo_at Try.func81 rfl (by kernel_rfl) (by kernel_rfl)
def e81 : Bool → AV := fun r => .v (.bool r)
set_option maxHeartbeats 1000000 in
theorem w81 (cp : CallP) (fu : Nat) (x1 : Int) (H83_0 : ∀ (a0 : Int) r, soft_Abs fu a0 = some r → cp 83 [.v (.int .u32 a0)] = some (.v (.int .u32 r))) : J (go Try.prog noC cp noI 0 [] d81 fu (fin Try.prog [.tmp 2] [4]) (bodyOf Try.f81) (initE 0 [.v (.int .u32 x1)]) [] []) (soft_NaN fu x1) e81 := by
  unfold soft_NaN e81
  refine J.bind fun x2 h1 => ?_
  have e_h1 := H83_0 _ _ h1
  try simp only [NN, NT, LN] at e_h1
  refine J.some ?_
  simp (disch := first | assumption | decide | with_unfolding_all rfl | omega | (simp only [LN] <;> omega) | (simp only [RO, OF])) only [bodyOf, Try.f81, RR, RM, LN, TT, d81_at, ↓reduceIte, Nat.reduceEqDiff, Nat.reduceLT, Nat.reduceLeDiff, Nat.reduceAdd, Nat.reduceSub, Nat.reduceMul, Nat.reduceMod, Nat.reduceDiv, Nat.reduceBEq, RH, e_h1, FF, LN, NN, NT]
noncomputable def t81 (fu : Nat) : CallP := orE 83 (mkC (fun (t : Int) => ([.v (.int .u32 t)] : List AV)) (fun t => soft_Abs fu t) e83) (noP)
theorem t81_ok (fu : Nat) : CpOK Try.prog (t81 fu ) := orE_ok (noP_ok) (mkC_ok (fun t b h => ok83 fu t  b h))
theorem ok81 (fu : Nat) (x1 : Int) (r) (h : soft_NaN fu x1 = some r) : PureOK Try.prog 81 [.v (.int .u32 x1)] (e81 r) :=
  pure_J mixed (cp := t81 fu ) (t81_ok fu  ) noI_ok i81 (w81 _ fu x1  (fun a0 r h => orE_hit (mkC_at (a := a0) (by intro a b h; first | (exact rfl) | (simp only [INJ, c_inj_iff c_T_Tensor_inj, lm_inj_iff (inj_avf (inj_fm c_T_Tensor_len (by decide) c_T_Tensor_inj)), fm_inj_iff (inj_fm c_T_Tensor_len (by decide) c_T_Tensor_inj)] at h; first | exact h | (simp_all [Prod.ext_iff]) )) h))) h
/-! 74: lattice/soft.Canon -/
def d74 : List (Nat × List Nat) := [(0, [2]), (0, []), (0, [3]), (0, []), (0, []), (0, []), (0, [0, 5])]
def d74_at := And.intro (show d74.getD 0 (0, []) = (0, [2]) from rfl) <| And.intro (show d74.getD 1 (0, []) = (0, []) from rfl) <| And.intro (show d74.getD 2 (0, []) = (0, [3]) from rfl) <| And.intro (show d74.getD 3 (0, []) = (0, []) from rfl) <| And.intro (show d74.getD 4 (0, []) = (0, []) from rfl) <| And.intro (show d74.getD 5 (0, []) = (0, []) from rfl) <| (show d74.getD 6 (0, []) = (0, [0, 5]) from rfl)
theorem i74 : finfo Try.prog 74 d74 = some ⟨bodyOf Try.f74, [.tmp 2], [68]⟩ := finfo_at Try.func74 rfl (by kernel_rfl) (by kernel_rfl)
def e74 : Int → AV := fun r => .v (.int .u32 r)
set_option maxHeartbeats 1000000 in
theorem w74 (cp : CallP) (fu : Nat) (x1 : Int) (H81_0 : ∀ (a0 : Int) r, soft_NaN fu a0 = some r → cp 81 [.v (.int .u32 a0)] = some (.v (.bool r))) : J (go Try.prog noC cp noI 0 [] d74 fu (fin Try.prog [.tmp 2] [68]) (bodyOf Try.f74) (initE 0 [.v (.int .u32 x1)]) [] []) (soft_Canon fu x1) e74 := by
  unfold soft_Canon e74
  conv => arg 1; simp (maxSteps := 1000000) (disch := first | assumption | decide | with_unfolding_all rfl | omega | (simp only [LN] <;> omega) | (simp only [RO, OF])) only [bodyOf, Try.f74, RR, RM, LN, TT, d74_at, ↓reduceIte, Nat.reduceEqDiff, Nat.reduceLT, Nat.reduceLeDiff, Nat.reduceAdd, Nat.reduceSub, Nat.reduceMul, Nat.reduceMod, Nat.reduceDiv, Nat.reduceBEq, RH]
  refine J.eq go_seq ?_
  refine J.bind fun x2 h1 => ?_
  have e_h1 := H81_0 _ _ h1
  try simp only [NN, NT, LN] at e_h1
  conv => arg 1; simp (maxSteps := 1000000) (disch := first | assumption | decide | with_unfolding_all rfl | omega | (simp only [LN] <;> omega) | (simp only [RO, OF])) only [RR, RM, LN, TT, d74_at, ↓reduceIte, Nat.reduceEqDiff, Nat.reduceLT, Nat.reduceLeDiff, Nat.reduceAdd, Nat.reduceSub, Nat.reduceMul, Nat.reduceMod, Nat.reduceDiv, Nat.reduceBEq, RH, e_h1]
  refine J.ite (fun h2 => ?_) (fun h2 => ?_)
  · have h2' : x2 = true := h2
    refine J.some ?_
    simp (disch := first | assumption | decide | with_unfolding_all rfl | omega | (simp only [LN] <;> omega) | (simp only [RO, OF])) only [RR, RM, LN, TT, d74_at, ↓reduceIte, Nat.reduceEqDiff, Nat.reduceLT, Nat.reduceLeDiff, Nat.reduceAdd, Nat.reduceSub, Nat.reduceMul, Nat.reduceMod, Nat.reduceDiv, Nat.reduceBEq, RH, e_h1, h2', FF, LN, NN, NT]
  · have h2' : x2 = false := Bool.eq_false_iff.2 h2
    conv => arg 1; simp (maxSteps := 1000000) (disch := first | assumption | decide | with_unfolding_all rfl | omega | (simp only [LN] <;> omega) | (simp only [RO, OF])) only [RR, RM, LN, TT, d74_at, ↓reduceIte, Nat.reduceEqDiff, Nat.reduceLT, Nat.reduceLeDiff, Nat.reduceAdd, Nat.reduceSub, Nat.reduceMul, Nat.reduceMod, Nat.reduceDiv, Nat.reduceBEq, RH, e_h1, h2']
    refine J.eq ret_seq ?_
    refine J.some ?_
    simp (disch := first | assumption | decide | with_unfolding_all rfl | omega | (simp only [LN] <;> omega) | (simp only [RO, OF])) only [RR, RM, LN, TT, d74_at, ↓reduceIte, Nat.reduceEqDiff, Nat.reduceLT, Nat.reduceLeDiff, Nat.reduceAdd, Nat.reduceSub, Nat.reduceMul, Nat.reduceMod, Nat.reduceDiv, Nat.reduceBEq, RH, e_h1, h2', FF, LN, NN, NT]
noncomputable def t74 (fu : Nat) : CallP := orE 81 (mkC (fun (t : Int) => ([.v (.int .u32 t)] : List AV)) (fun t => soft_NaN fu t) e81) (noP)
theorem t74_ok (fu : Nat) : CpOK Try.prog (t74 fu ) := orE_ok (noP_ok) (mkC_ok (fun t b h => ok81 fu t  b h))
theorem ok74 (fu : Nat) (x1 : Int) (r) (h : soft_Canon fu x1 = some r) : PureOK Try.prog 74 [.v (.int .u32 x1)] (e74 r) :=
  pure_J mixed (cp := t74 fu ) (t74_ok fu  ) noI_ok i74 (w74 _ fu x1  (fun a0 r h => orE_hit (mkC_at (a := a0) (by intro a b h; first | (exact rfl) | (simp only [INJ, c_inj_iff c_T_Tensor_inj, lm_inj_iff (inj_avf (inj_fm c_T_Tensor_len (by decide) c_T_Tensor_inj)), fm_inj_iff (inj_fm c_T_Tensor_len (by decide) c_T_Tensor_inj)] at h; first | exact h | (simp_all [Prod.ext_iff]) )) h))) h
/-! 46: lattice/tens.Canon -/
def d46 : List (Nat × List Nat) := [(0, [0]), (0, [9, 10, 11]), (0, [1, 6, 7]), (0, []), (0, [8]), (0, []), (0, []), (0, []), (0, [13, 14, 15]), (0, []), (6, [4, 5, 16, 17, 18, 19, 20, 21]), (0, []), (0, [22]), (0, []), (0, [3, 23])]
def d46_at := And.intro (show d46.getD 0 (0, []) = (0, [0]) from rfl) <| And.intro (show d46.getD 1 (0, []) = (0, [9, 10, 11]) from rfl) <| And.intro (show d46.getD 2 (0, []) = (0, [1, 6, 7]) from rfl) <| And.intro (show d46.getD 3 (0, []) = (0, []) from rfl) <| And.intro (show d46.getD 4 (0, []) = (0, [8]) from rfl) <| And.intro (show d46.getD 5 (0, []) = (0, []) from rfl) <| And.intro (show d46.getD 6 (0, []) = (0, []) from rfl) <| And.intro (show d46.getD 7 (0, []) = (0, []) from rfl) <| And.intro (show d46.getD 8 (0, []) = (0, [13, 14, 15]) from rfl) <| And.intro (show d46.getD 9 (0, []) = (0, []) from rfl) <| And.intro (show d46.getD 10 (0, []) = (6, [4, 5, 16, 17, 18, 19, 20, 21]) from rfl) <| And.intro (show d46.getD 11 (0, []) = (0, []) from rfl) <| And.intro (show d46.getD 12 (0, []) = (0, [22]) from rfl) <| And.intro (show d46.getD 13 (0, []) = (0, []) from rfl) <| (show d46.getD 14 (0, []) = (0, [3, 23]) from rfl)
theorem i46 : finfo Try.prog 46 d46 = some ⟨bodyOf Try.f46, [.cell 2 42], [42]⟩ := finfo_at Try.func46 rfl (by kernel_rfl) (by kernel_rfl)
def e46 : T_Tensor → AV := fun r => .agg [.v (.int .i64 r.fType), .fresh 1 r.fDims.length (lm (ik .i64) r.fDims), .fresh 1 r.fF.length (lm (ik .u32) r.fF), .fresh 1 r.fI.length (lm (ik .i64) r.fI), .fresh 1 r.fB.length (lm (bk) r.fB)]
set_option maxHeartbeats 1000000 in
theorem w46 (cp : CallP) (fu : Nat) (x1 : T_Tensor) (H45_0 : ∀ (a0 : T_Tensor) r, tens_Copy fu a0 = some r → cp 45 [.agg (c_T_Tensor a0)] = some (.agg [.v (.int .i64 r.fType), .fresh 1 r.fDims.length (lm (ik .i64) r.fDims), .fresh 1 r.fF.length (lm (ik .u32) r.fF), .fresh 1 r.fI.length (lm (ik .i64) r.fI), .fresh 1 r.fB.length (lm (bk) r.fB)])) (H74_0 : ∀ (a0 : Int) r, soft_Canon fu a0 = some r → cp 74 [.v (.int .u32 a0)] = some (.v (.int .u32 r))) : J (go Try.prog noC cp noI 0 [] d46 fu (fin Try.prog [.cell 2 42] [42]) (bodyOf Try.f46) (initE 0 [.agg (c_T_Tensor x1)]) [] []) (tens_Canon fu x1) e46 := by
  unfold tens_Canon e46
  refine J.bind fun x2 h1 => ?_
  have e_h1 := H45_0 _ _ h1
  try simp only [NN, NT, LN] at e_h1
  conv => arg 1; simp (maxSteps := 1000000) (disch := first | assumption | decide | with_unfolding_all rfl | omega | (simp only [LN] <;> omega) | (simp only [RO, OF])) only [bodyOf, Try.f46, RR, RM, LN, TT, d46_at, ↓reduceIte, Nat.reduceEqDiff, Nat.reduceLT, Nat.reduceLeDiff, Nat.reduceAdd, Nat.reduceSub, Nat.reduceMul, Nat.reduceMod, Nat.reduceDiv, Nat.reduceBEq, RH, e_h1]
  refine J.eq go_seq ?_
  conv => arg 1; simp (maxSteps := 1000000) (disch := first | assumption | decide | with_unfolding_all rfl | omega | (simp only [LN] <;> omega) | (simp only [RO, OF])) only [RR, RM, LN, TT, d46_at, ↓reduceIte, Nat.reduceEqDiff, Nat.reduceLT, Nat.reduceLeDiff, Nat.reduceAdd, Nat.reduceSub, Nat.reduceMul, Nat.reduceMod, Nat.reduceDiv, Nat.reduceBEq, RH, e_h1]
  unfold tens_Canon_W1
  refine J.loop (fun (s : (List Int) × Int) => ([(2, .ptr (0, 2, 0) 0 0), (3, .ptr (0, 3, 0) 0 0), (9, .own (0, 7, 1) 0 s.1.length s.1.length), (10, .v (.int .i64 ((x2.fF.length : Nat) : Int))), (11, .v (.int .i64 s.2))], [((0, 2, 0), .bx true ([.v (.int .i64 0), .v (.slice none 0 0), .v (.slice none 0 0), .v (.slice none 0 0), .v (.slice none 0 0)])), ((0, 7, 0), .sl true true 1 x2.fDims.length (lm (ik .i64) x2.fDims)), ((0, 7, 1), .sl true true 1 s.1.length (lm (ik .u32) s.1)), ((0, 7, 2), .sl true true 1 x2.fI.length (lm (ik .i64) x2.fI)), ((0, 7, 3), .sl true true 1 x2.fB.length (lm (bk) x2.fB)), ((0, 3, 0), .bx true ([.v (.int .i64 x2.fType), .own (0, 7, 0) 0 x2.fDims.length x2.fDims.length, .own (0, 7, 1) 0 s.1.length s.1.length, .own (0, 7, 2) 0 x2.fI.length x2.fI.length, .own (0, 7, 3) 0 x2.fB.length x2.fB.length]))])) (fun next s => tens_Canon_L1 fu x2 (fun x5 x6 => next (x5, x6)) s.1 s.2) (s0 := (x2.fF, 0)) ?_ ?_ ?_
  · first | rfl | (simp only [LN, NN, NT])
  · first | (simp (disch := first | assumption | decide | with_unfolding_all rfl | omega | (simp only [LN] <;> omega) | (simp only [RO, OF])) only [RR, ↓reduceIte, Nat.reduceEqDiff, Nat.reduceLT, Nat.reduceLeDiff, Nat.reduceAdd, Nat.reduceSub, Nat.reduceMul, Nat.reduceMod, Nat.reduceDiv, Nat.reduceBEq, LN, NN, NT]; done) | rfl
  rintro next k1 hn1 ⟨x5, x6⟩
  let nx1 : (List Int) → Int → Option T_Tensor := (fun x5 x6 => next (x5, x6))
  show J _ (tens_Canon_L1 fu x2 nx1 x5 x6) _
  unfold tens_Canon_L1
  conv => arg 1; simp (maxSteps := 1000000) (disch := first | assumption | decide | with_unfolding_all rfl | omega | (simp only [LN] <;> omega) | (simp only [RO, OF])) only [RR, RM, LN, TT, d46_at, ↓reduceIte, Nat.reduceEqDiff, Nat.reduceLT, Nat.reduceLeDiff, Nat.reduceAdd, Nat.reduceSub, Nat.reduceMul, Nat.reduceMod, Nat.reduceDiv, Nat.reduceBEq, RH, e_h1]
  refine J.eq go_seq ?_
  conv => arg 1; simp (maxSteps := 1000000) (disch := first | assumption | decide | with_unfolding_all rfl | omega | (simp only [LN] <;> omega) | (simp only [RO, OF])) only [RR, RM, LN, TT, d46_at, ↓reduceIte, Nat.reduceEqDiff, Nat.reduceLT, Nat.reduceLeDiff, Nat.reduceAdd, Nat.reduceSub, Nat.reduceMul, Nat.reduceMod, Nat.reduceDiv, Nat.reduceBEq, RH, e_h1]
  refine J.ite (fun h2 => ?_) (fun h2 => ?_)
  · have h2' := decide_eq_true h2
    have h2'' : decide (((x2.fF.length : Nat) : Int) ≤ x6) = false := decide_eq_false (by omega)
    conv => arg 1; simp (maxSteps := 1000000) (disch := first | assumption | decide | with_unfolding_all rfl | omega | (simp only [LN] <;> omega) | (simp only [RO, OF])) only [RR, RM, LN, TT, d46_at, ↓reduceIte, Nat.reduceEqDiff, Nat.reduceLT, Nat.reduceLeDiff, Nat.reduceAdd, Nat.reduceSub, Nat.reduceMul, Nat.reduceMod, Nat.reduceDiv, Nat.reduceBEq, RH, e_h1, h2'', h2']
    refine J.eq ret_seq ?_
    refine J.eq go_seq ?_
    refine J.at fun x9 h3 h4 h5 => ?_
    refine J.bind fun x10 h6 => ?_
    have e_h6 := H74_0 _ _ h6
    try simp only [NN, NT, LN] at e_h6
    refine J.chk fun h7 => ?_
    conv => arg 1; simp (maxSteps := 1000000) (disch := first | assumption | decide | with_unfolding_all rfl | omega | (simp only [LN] <;> omega) | (simp only [RO, OF])) only [RR, RM, LN, TT, d46_at, ↓reduceIte, Nat.reduceEqDiff, Nat.reduceLT, Nat.reduceLeDiff, Nat.reduceAdd, Nat.reduceSub, Nat.reduceMul, Nat.reduceMod, Nat.reduceDiv, Nat.reduceBEq, RH, e_h1, h2'', h2', lm_ik h5, e_h6]
    refine J.eq ret_seq ?_
    conv => arg 1; simp (maxSteps := 1000000) (disch := first | assumption | decide | with_unfolding_all rfl | omega | (simp only [LN] <;> omega) | (simp only [RO, OF])) only [RR, RM, LN, TT, d46_at, ↓reduceIte, Nat.reduceEqDiff, Nat.reduceLT, Nat.reduceLeDiff, Nat.reduceAdd, Nat.reduceSub, Nat.reduceMul, Nat.reduceMod, Nat.reduceDiv, Nat.reduceBEq, RH, e_h1, h2'', h2', lm_ik h5, e_h6]
    refine J.next (s := (x5.set x6.toNat x10, wk .i64 (x6 + 1))) hn1 ?_ ?_
    · first | rfl | (simp only [LN, NN, NT])
    · first | (simp (disch := first | assumption | decide | with_unfolding_all rfl | omega | (simp only [LN] <;> omega) | (simp only [RO, OF])) only [RR, ↓reduceIte, Nat.reduceEqDiff, Nat.reduceLT, Nat.reduceLeDiff, Nat.reduceAdd, Nat.reduceSub, Nat.reduceMul, Nat.reduceMod, Nat.reduceDiv, Nat.reduceBEq, LN, NN, NT]; done) | rfl
  · have h2' := decide_eq_false h2
    have h2'' : decide (((x2.fF.length : Nat) : Int) ≤ x6) = true := decide_eq_true (by omega)
    conv => arg 1; simp (maxSteps := 1000000) (disch := first | assumption | decide | with_unfolding_all rfl | omega | (simp only [LN] <;> omega) | (simp only [RO, OF])) only [RR, RM, LN, TT, d46_at, ↓reduceIte, Nat.reduceEqDiff, Nat.reduceLT, Nat.reduceLeDiff, Nat.reduceAdd, Nat.reduceSub, Nat.reduceMul, Nat.reduceMod, Nat.reduceDiv, Nat.reduceBEq, RH, e_h1, h2'', h2']
    refine J.eq ret_seq ?_
    refine J.some ?_
    simp (disch := first | assumption | decide | with_unfolding_all rfl | omega | (simp only [LN] <;> omega) | (simp only [RO, OF])) only [RR, RM, LN, TT, d46_at, ↓reduceIte, Nat.reduceEqDiff, Nat.reduceLT, Nat.reduceLeDiff, Nat.reduceAdd, Nat.reduceSub, Nat.reduceMul, Nat.reduceMod, Nat.reduceDiv, Nat.reduceBEq, RH, e_h1, h2'', h2', FF, LN, NN, NT]
noncomputable def t46 (fu : Nat) : CallP := orE 45 (mkC (fun (t : T_Tensor) => ([.agg (c_T_Tensor t)] : List AV)) (fun t => tens_Copy fu t) e45) (orE 74 (mkC (fun (t : Int) => ([.v (.int .u32 t)] : List AV)) (fun t => soft_Canon fu t) e74) (noP))
theorem t46_ok (fu : Nat) : CpOK Try.prog (t46 fu ) := orE_ok (orE_ok (noP_ok) (mkC_ok (fun t b h => ok74 fu t  b h))) (mkC_ok (fun t b h => ok45 fu t  b h))
theorem ok46 (fu : Nat) (x1 : T_Tensor) (r) (h : tens_Canon fu x1 = some r) : PureOK Try.prog 46 [.agg (c_T_Tensor x1)] (e46 r) :=
  pure_J mixed (cp := t46 fu ) (t46_ok fu  ) noI_ok i46 (w46 _ fu x1  (fun a0 r h => orE_hit (mkC_at (a := a0) (by intro a b h; first | (exact rfl) | (simp only [INJ, c_inj_iff c_T_Tensor_inj, lm_inj_iff (inj_avf (inj_fm c_T_Tensor_len (by decide) c_T_Tensor_inj)), fm_inj_iff (inj_fm c_T_Tensor_len (by decide) c_T_Tensor_inj)] at h; first | exact h | (simp_all [Prod.ext_iff]) )) h)) (fun a0 r h => orE_miss (by decide) (orE_hit (mkC_at (a := a0) (by intro a b h; first | (exact rfl) | (simp only [INJ, c_inj_iff c_T_Tensor_inj, lm_inj_iff (inj_avf (inj_fm c_T_Tensor_len (by decide) c_T_Tensor_inj)), fm_inj_iff (inj_fm c_T_Tensor_len (by decide) c_T_Tensor_inj)] at h; first | exact h | (simp_all [Prod.ext_iff]) )) h)))) h
/-! 23: lattice/latticeref04.SameInts -/
def d23 : List (Nat × List Nat) := [(0, [4]), (0, [0, 1, 5]), (0, [6, 7, 8, 9]), (0, []), (0, []), (0, []), (0, []), (0, []), (0, [11, 12, 13]), (0, []), (0, [15, 16]), (0, []), (9, [17, 18, 19, 20, 21, 22, 23, 24]), (0, []), (0, []), (0, []), (0, [])]
def d23_at := And.intro (show d23.getD 0 (0, []) = (0, [4]) from rfl) <| And.intro (show d23.getD 1 (0, []) = (0, [0, 1, 5]) from rfl) <| And.intro (show d23.getD 2 (0, []) = (0, [6, 7, 8, 9]) from rfl) <| And.intro (show d23.getD 3 (0, []) = (0, []) from rfl) <| And.intro (show d23.getD 4 (0, []) = (0, []) from rfl) <| And.intro (show d23.getD 5 (0, []) = (0, []) from rfl) <| And.intro (show d23.getD 6 (0, []) = (0, []) from rfl) <| And.intro (show d23.getD 7 (0, []) = (0, []) from rfl) <| And.intro (show d23.getD 8 (0, []) = (0, [11, 12, 13]) from rfl) <| And.intro (show d23.getD 9 (0, []) = (0, []) from rfl) <| And.intro (show d23.getD 10 (0, []) = (0, [15, 16]) from rfl) <| And.intro (show d23.getD 11 (0, []) = (0, []) from rfl) <| And.intro (show d23.getD 12 (0, []) = (9, [17, 18, 19, 20, 21, 22, 23, 24]) from rfl) <| And.intro (show d23.getD 13 (0, []) = (0, []) from rfl) <| And.intro (show d23.getD 14 (0, []) = (0, []) from rfl) <| And.intro (show d23.getD 15 (0, []) = (0, []) from rfl) <| (show d23.getD 16 (0, []) = (0, []) from rfl)
theorem i23 : finfo Try.prog 23 d23 = some ⟨bodyOf Try.f23, [.tmp 4], [4]⟩ := finfo_at Try.func23 rfl (by kernel_rfl) (by kernel_rfl)
def e23 : Bool → AV := fun r => .v (.bool r)
set_option maxHeartbeats 1000000 in
theorem w23 (cp : CallP) (fu : Nat) (x1 : List Int) (x2 : List Int) : J (go Try.prog noC cp noI 0 [] d23 fu (fin Try.prog [.tmp 4] [4]) (bodyOf Try.f23) (initE 0 [.arr x1.length (lm (ik .i64) x1), .arr x2.length (lm (ik .i64) x2)]) [] []) (ref04_SameInts fu x1 x2) e23 := by
  unfold ref04_SameInts e23
  conv => arg 1; simp (maxSteps := 1000000) (disch := first | assumption | decide | with_unfolding_all rfl | omega | (simp only [LN] <;> omega) | (simp only [RO, OF])) only [bodyOf, Try.f23, RR, RM, LN, TT, d23_at, ↓reduceIte, Nat.reduceEqDiff, Nat.reduceLT, Nat.reduceLeDiff, Nat.reduceAdd, Nat.reduceSub, Nat.reduceMul, Nat.reduceMod, Nat.reduceDiv, Nat.reduceBEq, RH]
  refine J.eq go_seq ?_
  conv => arg 1; simp (maxSteps := 1000000) (disch := first | assumption | decide | with_unfolding_all rfl | omega | (simp only [LN] <;> omega) | (simp only [RO, OF])) only [RR, RM, LN, TT, d23_at, ↓reduceIte, Nat.reduceEqDiff, Nat.reduceLT, Nat.reduceLeDiff, Nat.reduceAdd, Nat.reduceSub, Nat.reduceMul, Nat.reduceMod, Nat.reduceDiv, Nat.reduceBEq, RH]
  refine J.ite (fun h1 => ?_) (fun h1 => ?_)
  · have h1' := decide_eq_true h1
    conv => arg 1; simp (maxSteps := 1000000) (disch := first | assumption | decide | with_unfolding_all rfl | omega | (simp only [LN] <;> omega) | (simp only [RO, OF])) only [RR, RM, LN, TT, d23_at, ↓reduceIte, Nat.reduceEqDiff, Nat.reduceLT, Nat.reduceLeDiff, Nat.reduceAdd, Nat.reduceSub, Nat.reduceMul, Nat.reduceMod, Nat.reduceDiv, Nat.reduceBEq, RH, h1']
    refine J.eq ret_seq ?_
    refine J.eq go_seq ?_
    conv => arg 1; simp (maxSteps := 1000000) (disch := first | assumption | decide | with_unfolding_all rfl | omega | (simp only [LN] <;> omega) | (simp only [RO, OF])) only [RR, RM, LN, TT, d23_at, ↓reduceIte, Nat.reduceEqDiff, Nat.reduceLT, Nat.reduceLeDiff, Nat.reduceAdd, Nat.reduceSub, Nat.reduceMul, Nat.reduceMod, Nat.reduceDiv, Nat.reduceBEq, RH, h1']
    unfold ref04_SameInts_W1
    refine J.loop (fun (s : Int) => ([(0, .arr x1.length (lm (ik .i64) x1)), (1, .arr x2.length (lm (ik .i64) x2)), (5, .v (.int .i64 s))], [])) (fun next s => ref04_SameInts_L1 fu x1 x2 next s) (s0 := 0) ?_ ?_ ?_
    · first | rfl | (simp only [LN, NN, NT])
    · first | (simp (disch := first | assumption | decide | with_unfolding_all rfl | omega | (simp only [LN] <;> omega) | (simp only [RO, OF])) only [RR, ↓reduceIte, Nat.reduceEqDiff, Nat.reduceLT, Nat.reduceLeDiff, Nat.reduceAdd, Nat.reduceSub, Nat.reduceMul, Nat.reduceMod, Nat.reduceDiv, Nat.reduceBEq, LN, NN, NT]; done) | rfl
    rintro nx1 k1 hn1 x5
    show J _ (ref04_SameInts_L1 fu x1 x2 nx1 x5) _
    unfold ref04_SameInts_L1
    refine J.eq go_seq ?_
    conv => arg 1; simp (maxSteps := 1000000) (disch := first | assumption | decide | with_unfolding_all rfl | omega | (simp only [LN] <;> omega) | (simp only [RO, OF])) only [RR, RM, LN, TT, d23_at, ↓reduceIte, Nat.reduceEqDiff, Nat.reduceLT, Nat.reduceLeDiff, Nat.reduceAdd, Nat.reduceSub, Nat.reduceMul, Nat.reduceMod, Nat.reduceDiv, Nat.reduceBEq, RH, h1']
    refine J.ite (fun h2 => ?_) (fun h2 => ?_)
    · have h2' := decide_eq_true h2
      have h2'' : decide ((x1.length : Int) ≤ x5) = false := decide_eq_false (by omega)
      conv => arg 1; simp (maxSteps := 1000000) (disch := first | assumption | decide | with_unfolding_all rfl | omega | (simp only [LN] <;> omega) | (simp only [RO, OF])) only [RR, RM, LN, TT, d23_at, ↓reduceIte, Nat.reduceEqDiff, Nat.reduceLT, Nat.reduceLeDiff, Nat.reduceAdd, Nat.reduceSub, Nat.reduceMul, Nat.reduceMod, Nat.reduceDiv, Nat.reduceBEq, RH, h1', h2'', h2']
      refine J.eq ret_seq ?_
      refine J.eq go_seq ?_
      refine J.at fun x8 h3 h4 h5 => ?_
      refine J.at fun x9 h6 h7 h8 => ?_
      conv => arg 1; simp (maxSteps := 1000000) (disch := first | assumption | decide | with_unfolding_all rfl | omega | (simp only [LN] <;> omega) | (simp only [RO, OF])) only [RR, RM, LN, TT, d23_at, ↓reduceIte, Nat.reduceEqDiff, Nat.reduceLT, Nat.reduceLeDiff, Nat.reduceAdd, Nat.reduceSub, Nat.reduceMul, Nat.reduceMod, Nat.reduceDiv, Nat.reduceBEq, RH, h1', h2'', h2', lm_ik h5, lm_ik h8]
      refine J.ite (fun h9 => ?_) (fun h9 => ?_)
      · have h9' := decide_eq_true h9
        conv => arg 1; simp (maxSteps := 1000000) (disch := first | assumption | decide | with_unfolding_all rfl | omega | (simp only [LN] <;> omega) | (simp only [RO, OF])) only [RR, RM, LN, TT, d23_at, ↓reduceIte, Nat.reduceEqDiff, Nat.reduceLT, Nat.reduceLeDiff, Nat.reduceAdd, Nat.reduceSub, Nat.reduceMul, Nat.reduceMod, Nat.reduceDiv, Nat.reduceBEq, RH, h1', h2'', h2', lm_ik h5, lm_ik h8, h9']
        refine J.eq ret_seq ?_
        conv => arg 1; simp (maxSteps := 1000000) (disch := first | assumption | decide | with_unfolding_all rfl | omega | (simp only [LN] <;> omega) | (simp only [RO, OF])) only [RR, RM, LN, TT, d23_at, ↓reduceIte, Nat.reduceEqDiff, Nat.reduceLT, Nat.reduceLeDiff, Nat.reduceAdd, Nat.reduceSub, Nat.reduceMul, Nat.reduceMod, Nat.reduceDiv, Nat.reduceBEq, RH, h1', h2'', h2', lm_ik h5, lm_ik h8, h9']
        refine J.next (s := wk .i64 (x5 + 1)) hn1 ?_ ?_
        · first | rfl | (simp only [LN, NN, NT])
        · first | (simp (disch := first | assumption | decide | with_unfolding_all rfl | omega | (simp only [LN] <;> omega) | (simp only [RO, OF])) only [RR, ↓reduceIte, Nat.reduceEqDiff, Nat.reduceLT, Nat.reduceLeDiff, Nat.reduceAdd, Nat.reduceSub, Nat.reduceMul, Nat.reduceMod, Nat.reduceDiv, Nat.reduceBEq, LN, NN, NT]; done) | rfl
      · have h9' := decide_eq_false h9
        refine J.some ?_
        simp (disch := first | assumption | decide | with_unfolding_all rfl | omega | (simp only [LN] <;> omega) | (simp only [RO, OF])) only [RR, RM, LN, TT, d23_at, ↓reduceIte, Nat.reduceEqDiff, Nat.reduceLT, Nat.reduceLeDiff, Nat.reduceAdd, Nat.reduceSub, Nat.reduceMul, Nat.reduceMod, Nat.reduceDiv, Nat.reduceBEq, RH, h1', h2'', h2', lm_ik h5, lm_ik h8, h9', FF, LN, NN, NT]
    · have h2' := decide_eq_false h2
      have h2'' : decide ((x1.length : Int) ≤ x5) = true := decide_eq_true (by omega)
      conv => arg 1; simp (maxSteps := 1000000) (disch := first | assumption | decide | with_unfolding_all rfl | omega | (simp only [LN] <;> omega) | (simp only [RO, OF])) only [RR, RM, LN, TT, d23_at, ↓reduceIte, Nat.reduceEqDiff, Nat.reduceLT, Nat.reduceLeDiff, Nat.reduceAdd, Nat.reduceSub, Nat.reduceMul, Nat.reduceMod, Nat.reduceDiv, Nat.reduceBEq, RH, h1', h2'', h2']
      refine J.eq ret_seq ?_
      refine J.some ?_
      simp (disch := first | assumption | decide | with_unfolding_all rfl | omega | (simp only [LN] <;> omega) | (simp only [RO, OF])) only [RR, RM, LN, TT, d23_at, ↓reduceIte, Nat.reduceEqDiff, Nat.reduceLT, Nat.reduceLeDiff, Nat.reduceAdd, Nat.reduceSub, Nat.reduceMul, Nat.reduceMod, Nat.reduceDiv, Nat.reduceBEq, RH, h1', h2'', h2', FF, LN, NN, NT]
  · have h1' := decide_eq_false h1
    refine J.some ?_
    simp (disch := first | assumption | decide | with_unfolding_all rfl | omega | (simp only [LN] <;> omega) | (simp only [RO, OF])) only [RR, RM, LN, TT, d23_at, ↓reduceIte, Nat.reduceEqDiff, Nat.reduceLT, Nat.reduceLeDiff, Nat.reduceAdd, Nat.reduceSub, Nat.reduceMul, Nat.reduceMod, Nat.reduceDiv, Nat.reduceBEq, RH, h1', FF, LN, NN, NT]
noncomputable def t23 (fu : Nat) : CallP := noP
theorem t23_ok (fu : Nat) : CpOK Try.prog (t23 fu ) := noP_ok
theorem ok23 (fu : Nat) (x1 : List Int) (x2 : List Int) (r) (h : ref04_SameInts fu x1 x2 = some r) : PureOK Try.prog 23 [.arr x1.length (lm (ik .i64) x1), .arr x2.length (lm (ik .i64) x2)] (e23 r) :=
  pure_J mixed (cp := t23 fu ) (t23_ok fu  ) noI_ok i23 (w23 _ fu x1 x2  ) h
/-! 32: lattice/latticeref05.Same -/
def d32 : List (Nat × List Nat) := [(0, [0, 1, 4]), (0, [5]), (0, [8, 9, 10, 11, 12, 13, 14, 15, 16, 17, 18, 19, 20, 21, 22, 23, 24, 25, 26, 27, 28, 29, 30, 31, 32, 33, 34, 35, 36, 37, 38, 39, 40, 41, 42, 43, 44, 45, 46]), (0, []), (0, []), (0, [6]), (0, []), (0, []), (0, [48, 49, 50, 51]), (0, [2, 3, 7]), (0, [53, 54]), (0, []), (11, [55, 56, 57, 58, 59, 60, 61, 62, 63, 64]), (0, []), (0, []), (0, []), (0, []), (0, []), (0, [66, 67, 68, 69]), (0, []), (0, [71, 72]), (0, []), (11, [73, 74, 75, 76, 77, 78, 79, 80, 81, 82]), (0, []), (0, []), (0, []), (0, []), (0, []), (0, [84, 85, 86, 87]), (0, []), (0, [89, 90]), (0, []), (11, [91, 92, 93, 94, 95, 96, 97, 98, 99, 100]), (0, []), (0, []), (0, []), (0, [])]
def d32_at := And.intro (show d32.getD 0 (0, []) = (0, [0, 1, 4]) from rfl) <| And.intro (show d32.getD 1 (0, []) = (0, [5]) from rfl) <| And.intro (show d32.getD 2 (0, []) = (0, [8, 9, 10, 11, 12, 13, 14, 15, 16, 17, 18, 19, 20, 21, 22, 23, 24, 25, 26, 27, 28, 29, 30, 31, 32, 33, 34, 35, 36, 37, 38, 39, 40, 41, 42, 43, 44, 45, 46]) from rfl) <| And.intro (show d32.getD 3 (0, []) = (0, []) from rfl) <| And.intro (show d32.getD 4 (0, []) = (0, []) from rfl) <| And.intro (show d32.getD 5 (0, []) = (0, [6]) from rfl) <| And.intro (show d32.getD 6 (0, []) = (0, []) from rfl) <| And.intro (show d32.getD 7 (0, []) = (0, []) from rfl) <| And.intro (show d32.getD 8 (0, []) = (0, [48, 49, 50, 51]) from rfl) <| And.intro (show d32.getD 9 (0, []) = (0, [2, 3, 7]) from rfl) <| And.intro (show d32.getD 10 (0, []) = (0, [53, 54]) from rfl) <| And.intro (show d32.getD 11 (0, []) = (0, []) from rfl) <| And.intro (show d32.getD 12 (0, []) = (11, [55, 56, 57, 58, 59, 60, 61, 62, 63, 64]) from rfl) <| And.intro (show d32.getD 13 (0, []) = (0, []) from rfl) <| And.intro (show d32.getD 14 (0, []) = (0, []) from rfl) <| And.intro (show d32.getD 15 (0, []) = (0, []) from rfl) <| And.intro (show d32.getD 16 (0, []) = (0, []) from rfl) <| And.intro (show d32.getD 17 (0, []) = (0, []) from rfl) <| And.intro (show d32.getD 18 (0, []) = (0, [66, 67, 68, 69]) from rfl) <| And.intro (show d32.getD 19 (0, []) = (0, []) from rfl) <| And.intro (show d32.getD 20 (0, []) = (0, [71, 72]) from rfl) <| And.intro (show d32.getD 21 (0, []) = (0, []) from rfl) <| And.intro (show d32.getD 22 (0, []) = (11, [73, 74, 75, 76, 77, 78, 79, 80, 81, 82]) from rfl) <| And.intro (show d32.getD 23 (0, []) = (0, []) from rfl) <| And.intro (show d32.getD 24 (0, []) = (0, []) from rfl) <| And.intro (show d32.getD 25 (0, []) = (0, []) from rfl) <| And.intro (show d32.getD 26 (0, []) = (0, []) from rfl) <| And.intro (show d32.getD 27 (0, []) = (0, []) from rfl) <| And.intro (show d32.getD 28 (0, []) = (0, [84, 85, 86, 87]) from rfl) <| And.intro (show d32.getD 29 (0, []) = (0, []) from rfl) <| And.intro (show d32.getD 30 (0, []) = (0, [89, 90]) from rfl) <| And.intro (show d32.getD 31 (0, []) = (0, []) from rfl) <| And.intro (show d32.getD 32 (0, []) = (11, [91, 92, 93, 94, 95, 96, 97, 98, 99, 100]) from rfl) <| And.intro (show d32.getD 33 (0, []) = (0, []) from rfl) <| And.intro (show d32.getD 34 (0, []) = (0, []) from rfl) <| And.intro (show d32.getD 35 (0, []) = (0, []) from rfl) <| (show d32.getD 36 (0, []) = (0, []) from rfl)
theorem i32 : finfo Try.prog 32 d32 = some ⟨bodyOf Try.f32, [.tmp 4], [4]⟩ := finfo_at Try.func32 rfl (by kernel_rfl) (by kernel_rfl)
def e32 : Bool → AV := fun r => .v (.bool r)
set_option maxHeartbeats 1000000 in
theorem w32 (cp : CallP) (fu : Nat) (x1 : T_Tensor) (x2 : T_Tensor) (H23_0 : ∀ (a0 : List Int) (a1 : List Int) r, ref04_SameInts fu a0 a1 = some r → cp 23 [.arr a0.length (lm (ik .i64) a0), .arr a1.length (lm (ik .i64) a1)] = some (.v (.bool r))) : J (go Try.prog noC cp noI 0 [] d32 fu (fin Try.prog [.tmp 4] [4]) (bodyOf Try.f32) (initE 0 [.agg (c_T_Tensor x1), .agg (c_T_Tensor x2)]) [] []) (ref05_Same fu x1 x2) e32 := by
  unfold ref05_Same e32
  conv => arg 1; simp (maxSteps := 1000000) (disch := first | assumption | decide | with_unfolding_all rfl | omega | (simp only [LN] <;> omega) | (simp only [RO, OF])) only [bodyOf, Try.f32, RR, RM, LN, TT, d32_at, ↓reduceIte, Nat.reduceEqDiff, Nat.reduceLT, Nat.reduceLeDiff, Nat.reduceAdd, Nat.reduceSub, Nat.reduceMul, Nat.reduceMod, Nat.reduceDiv, Nat.reduceBEq, RH]
  refine J.joinS (fun (t : Unit) => ([(2, .ptr (0, 2, 0) 0 0), (3, .ptr (0, 3, 0) 0 0)], [((0, 2, 0), .bx true ([.v (.int .i64 x1.fType), .arr x1.fDims.length (lm (ik .i64) x1.fDims), .arr x1.fF.length (lm (ik .u32) x1.fF), .arr x1.fI.length (lm (ik .i64) x1.fI), .arr x1.fB.length (lm (bk) x1.fB)])), ((0, 3, 0), .bx true ([.v (.int .i64 x2.fType), .arr x2.fDims.length (lm (ik .i64) x2.fDims), .arr x2.fF.length (lm (ik .u32) x2.fF), .arr x2.fI.length (lm (ik .i64) x2.fI), .arr x2.fB.length (lm (bk) x2.fB)]))])) (fun t => ref05_Same_k1 fu x1 x2) ?_ (fun hj1 => ?_)
  · rintro ⟨⟩
    show J _ (ref05_Same_k1 fu x1 x2) _
    unfold ref05_Same_k1
    refine J.joinS (fun (t : Unit) => ([(2, .ptr (0, 2, 0) 0 0), (3, .ptr (0, 3, 0) 0 0)], [((0, 2, 0), .bx true ([.v (.int .i64 x1.fType), .arr x1.fDims.length (lm (ik .i64) x1.fDims), .arr x1.fF.length (lm (ik .u32) x1.fF), .arr x1.fI.length (lm (ik .i64) x1.fI), .arr x1.fB.length (lm (bk) x1.fB)])), ((0, 3, 0), .bx true ([.v (.int .i64 x2.fType), .arr x2.fDims.length (lm (ik .i64) x2.fDims), .arr x2.fF.length (lm (ik .u32) x2.fF), .arr x2.fI.length (lm (ik .i64) x2.fI), .arr x2.fB.length (lm (bk) x2.fB)]))])) (fun t => ref05_Same_k2 fu x1 x2) ?_ (fun hj2 => ?_)
    · rintro ⟨⟩
      show J _ (ref05_Same_k2 fu x1 x2) _
      unfold ref05_Same_k2
      refine J.joinS (fun (t : Unit) => ([(2, .ptr (0, 2, 0) 0 0), (3, .ptr (0, 3, 0) 0 0)], [((0, 2, 0), .bx true ([.v (.int .i64 x1.fType), .arr x1.fDims.length (lm (ik .i64) x1.fDims), .arr x1.fF.length (lm (ik .u32) x1.fF), .arr x1.fI.length (lm (ik .i64) x1.fI), .arr x1.fB.length (lm (bk) x1.fB)])), ((0, 3, 0), .bx true ([.v (.int .i64 x2.fType), .arr x2.fDims.length (lm (ik .i64) x2.fDims), .arr x2.fF.length (lm (ik .u32) x2.fF), .arr x2.fI.length (lm (ik .i64) x2.fI), .arr x2.fB.length (lm (bk) x2.fB)]))])) (fun t => ref05_Same_k3 fu x1 x2) ?_ (fun hj3 => ?_)
      · rintro ⟨⟩
        show J _ (ref05_Same_k3 fu x1 x2) _
        unfold ref05_Same_k3
        refine J.eq go_seq ?_
        conv => arg 1; simp (maxSteps := 1000000) (disch := first | assumption | decide | with_unfolding_all rfl | omega | (simp only [LN] <;> omega) | (simp only [RO, OF])) only [RR, RM, LN, TT, d32_at, ↓reduceIte, Nat.reduceEqDiff, Nat.reduceLT, Nat.reduceLeDiff, Nat.reduceAdd, Nat.reduceSub, Nat.reduceMul, Nat.reduceMod, Nat.reduceDiv, Nat.reduceBEq, RH]
        unfold ref05_Same_W1
        refine J.loop (fun (s : Int) => ([(2, .ptr (0, 2, 0) 0 0), (3, .ptr (0, 3, 0) 0 0), (7, .v (.int .i64 s))], [((0, 2, 0), .bx true ([.v (.int .i64 x1.fType), .arr x1.fDims.length (lm (ik .i64) x1.fDims), .arr x1.fF.length (lm (ik .u32) x1.fF), .arr x1.fI.length (lm (ik .i64) x1.fI), .arr x1.fB.length (lm (bk) x1.fB)])), ((0, 3, 0), .bx true ([.v (.int .i64 x2.fType), .arr x2.fDims.length (lm (ik .i64) x2.fDims), .arr x2.fF.length (lm (ik .u32) x2.fF), .arr x2.fI.length (lm (ik .i64) x2.fI), .arr x2.fB.length (lm (bk) x2.fB)]))])) (fun next s => ref05_Same_L1 fu x1 x2 next s) (s0 := 0) ?_ ?_ ?_
        · first | rfl | (simp only [LN, NN, NT])
        · first | (simp (disch := first | assumption | decide | with_unfolding_all rfl | omega | (simp only [LN] <;> omega) | (simp only [RO, OF])) only [RR, ↓reduceIte, Nat.reduceEqDiff, Nat.reduceLT, Nat.reduceLeDiff, Nat.reduceAdd, Nat.reduceSub, Nat.reduceMul, Nat.reduceMod, Nat.reduceDiv, Nat.reduceBEq, LN, NN, NT]; done) | rfl
        rintro nx1 k1 hn1 x5
        show J _ (ref05_Same_L1 fu x1 x2 nx1 x5) _
        unfold ref05_Same_L1
        refine J.eq go_seq ?_
        conv => arg 1; simp (maxSteps := 1000000) (disch := first | assumption | decide | with_unfolding_all rfl | omega | (simp only [LN] <;> omega) | (simp only [RO, OF])) only [RR, RM, LN, TT, d32_at, ↓reduceIte, Nat.reduceEqDiff, Nat.reduceLT, Nat.reduceLeDiff, Nat.reduceAdd, Nat.reduceSub, Nat.reduceMul, Nat.reduceMod, Nat.reduceDiv, Nat.reduceBEq, RH]
        refine J.ite (fun h1 => ?_) (fun h1 => ?_)
        · have h1' := decide_eq_true h1
          have h1'' : decide ((x1.fB.length : Int) ≤ x5) = false := decide_eq_false (by omega)
          conv => arg 1; simp (maxSteps := 1000000) (disch := first | assumption | decide | with_unfolding_all rfl | omega | (simp only [LN] <;> omega) | (simp only [RO, OF])) only [RR, RM, LN, TT, d32_at, ↓reduceIte, Nat.reduceEqDiff, Nat.reduceLT, Nat.reduceLeDiff, Nat.reduceAdd, Nat.reduceSub, Nat.reduceMul, Nat.reduceMod, Nat.reduceDiv, Nat.reduceBEq, RH, h1'', h1']
          refine J.eq ret_seq ?_
          refine J.eq go_seq ?_
          refine J.at fun x8 h2 h3 h4 => ?_
          refine J.at fun x9 h5 h6 h7 => ?_
          conv => arg 1; simp (maxSteps := 1000000) (disch := first | assumption | decide | with_unfolding_all rfl | omega | (simp only [LN] <;> omega) | (simp only [RO, OF])) only [RR, RM, LN, TT, d32_at, ↓reduceIte, Nat.reduceEqDiff, Nat.reduceLT, Nat.reduceLeDiff, Nat.reduceAdd, Nat.reduceSub, Nat.reduceMul, Nat.reduceMod, Nat.reduceDiv, Nat.reduceBEq, RH, h1'', h1', lm_bk h4, lm_bk h7]
          refine J.ite (fun h8 => ?_) (fun h8 => ?_)
          · have h8' : (x8 == x9) = true := h8
            conv => arg 1; simp (maxSteps := 1000000) (disch := first | assumption | decide | with_unfolding_all rfl | omega | (simp only [LN] <;> omega) | (simp only [RO, OF])) only [RR, RM, LN, TT, d32_at, ↓reduceIte, Nat.reduceEqDiff, Nat.reduceLT, Nat.reduceLeDiff, Nat.reduceAdd, Nat.reduceSub, Nat.reduceMul, Nat.reduceMod, Nat.reduceDiv, Nat.reduceBEq, RH, h1'', h1', lm_bk h4, lm_bk h7, h8']
            refine J.eq ret_seq ?_
            conv => arg 1; simp (maxSteps := 1000000) (disch := first | assumption | decide | with_unfolding_all rfl | omega | (simp only [LN] <;> omega) | (simp only [RO, OF])) only [RR, RM, LN, TT, d32_at, ↓reduceIte, Nat.reduceEqDiff, Nat.reduceLT, Nat.reduceLeDiff, Nat.reduceAdd, Nat.reduceSub, Nat.reduceMul, Nat.reduceMod, Nat.reduceDiv, Nat.reduceBEq, RH, h1'', h1', lm_bk h4, lm_bk h7, h8']
            refine J.next (s := wk .i64 (x5 + 1)) hn1 ?_ ?_
            · first | rfl | (simp only [LN, NN, NT])
            · first | (simp (disch := first | assumption | decide | with_unfolding_all rfl | omega | (simp only [LN] <;> omega) | (simp only [RO, OF])) only [RR, ↓reduceIte, Nat.reduceEqDiff, Nat.reduceLT, Nat.reduceLeDiff, Nat.reduceAdd, Nat.reduceSub, Nat.reduceMul, Nat.reduceMod, Nat.reduceDiv, Nat.reduceBEq, LN, NN, NT]; done) | rfl
          · have h8' : (x8 == x9) = false := Bool.eq_false_iff.2 h8
            refine J.some ?_
            simp (disch := first | assumption | decide | with_unfolding_all rfl | omega | (simp only [LN] <;> omega) | (simp only [RO, OF])) only [RR, RM, LN, TT, d32_at, ↓reduceIte, Nat.reduceEqDiff, Nat.reduceLT, Nat.reduceLeDiff, Nat.reduceAdd, Nat.reduceSub, Nat.reduceMul, Nat.reduceMod, Nat.reduceDiv, Nat.reduceBEq, RH, h1'', h1', lm_bk h4, lm_bk h7, h8', FF, LN, NN, NT]
        · have h1' := decide_eq_false h1
          have h1'' : decide ((x1.fB.length : Int) ≤ x5) = true := decide_eq_true (by omega)
          conv => arg 1; simp (maxSteps := 1000000) (disch := first | assumption | decide | with_unfolding_all rfl | omega | (simp only [LN] <;> omega) | (simp only [RO, OF])) only [RR, RM, LN, TT, d32_at, ↓reduceIte, Nat.reduceEqDiff, Nat.reduceLT, Nat.reduceLeDiff, Nat.reduceAdd, Nat.reduceSub, Nat.reduceMul, Nat.reduceMod, Nat.reduceDiv, Nat.reduceBEq, RH, h1'', h1']
          refine J.eq ret_seq ?_
          refine J.some ?_
          simp (disch := first | assumption | decide | with_unfolding_all rfl | omega | (simp only [LN] <;> omega) | (simp only [RO, OF])) only [RR, RM, LN, TT, d32_at, ↓reduceIte, Nat.reduceEqDiff, Nat.reduceLT, Nat.reduceLeDiff, Nat.reduceAdd, Nat.reduceSub, Nat.reduceMul, Nat.reduceMod, Nat.reduceDiv, Nat.reduceBEq, RH, h1'', h1', FF, LN, NN, NT]
      · conv => arg 1; simp (maxSteps := 1000000) (disch := first | assumption | decide | with_unfolding_all rfl | omega | (simp only [LN] <;> omega) | (simp only [RO, OF])) only [RR, RM, LN, TT, d32_at, ↓reduceIte, Nat.reduceEqDiff, Nat.reduceLT, Nat.reduceLeDiff, Nat.reduceAdd, Nat.reduceSub, Nat.reduceMul, Nat.reduceMod, Nat.reduceDiv, Nat.reduceBEq, RH]
        unfold ref05_Same_W2
        refine J.loop (fun (s : Int) => ([(2, .ptr (0, 2, 0) 0 0), (3, .ptr (0, 3, 0) 0 0), (6, .v (.int .i64 s))], [((0, 2, 0), .bx true ([.v (.int .i64 x1.fType), .arr x1.fDims.length (lm (ik .i64) x1.fDims), .arr x1.fF.length (lm (ik .u32) x1.fF), .arr x1.fI.length (lm (ik .i64) x1.fI), .arr x1.fB.length (lm (bk) x1.fB)])), ((0, 3, 0), .bx true ([.v (.int .i64 x2.fType), .arr x2.fDims.length (lm (ik .i64) x2.fDims), .arr x2.fF.length (lm (ik .u32) x2.fF), .arr x2.fI.length (lm (ik .i64) x2.fI), .arr x2.fB.length (lm (bk) x2.fB)]))])) (fun next s => ref05_Same_L2 fu x1 x2 next s) (s0 := 0) ?_ ?_ ?_
        · first | rfl | (simp only [LN, NN, NT])
        · first | (simp (disch := first | assumption | decide | with_unfolding_all rfl | omega | (simp only [LN] <;> omega) | (simp only [RO, OF])) only [RR, ↓reduceIte, Nat.reduceEqDiff, Nat.reduceLT, Nat.reduceLeDiff, Nat.reduceAdd, Nat.reduceSub, Nat.reduceMul, Nat.reduceMod, Nat.reduceDiv, Nat.reduceBEq, LN, NN, NT]; done) | rfl
        rintro nx2 k2 hn2 x12
        show J _ (ref05_Same_L2 fu x1 x2 nx2 x12) _
        unfold ref05_Same_L2
        refine J.eq go_seq ?_
        conv => arg 1; simp (maxSteps := 1000000) (disch := first | assumption | decide | with_unfolding_all rfl | omega | (simp only [LN] <;> omega) | (simp only [RO, OF])) only [RR, RM, LN, TT, d32_at, ↓reduceIte, Nat.reduceEqDiff, Nat.reduceLT, Nat.reduceLeDiff, Nat.reduceAdd, Nat.reduceSub, Nat.reduceMul, Nat.reduceMod, Nat.reduceDiv, Nat.reduceBEq, RH]
        refine J.ite (fun h9 => ?_) (fun h9 => ?_)
        · have h9' := decide_eq_true h9
          have h9'' : decide ((x1.fI.length : Int) ≤ x12) = false := decide_eq_false (by omega)
          conv => arg 1; simp (maxSteps := 1000000) (disch := first | assumption | decide | with_unfolding_all rfl | omega | (simp only [LN] <;> omega) | (simp only [RO, OF])) only [RR, RM, LN, TT, d32_at, ↓reduceIte, Nat.reduceEqDiff, Nat.reduceLT, Nat.reduceLeDiff, Nat.reduceAdd, Nat.reduceSub, Nat.reduceMul, Nat.reduceMod, Nat.reduceDiv, Nat.reduceBEq, RH, h9'', h9']
          refine J.eq ret_seq ?_
          refine J.eq go_seq ?_
          refine J.at fun x15 h10 h11 h12 => ?_
          refine J.at fun x16 h13 h14 h15 => ?_
          conv => arg 1; simp (maxSteps := 1000000) (disch := first | assumption | decide | with_unfolding_all rfl | omega | (simp only [LN] <;> omega) | (simp only [RO, OF])) only [RR, RM, LN, TT, d32_at, ↓reduceIte, Nat.reduceEqDiff, Nat.reduceLT, Nat.reduceLeDiff, Nat.reduceAdd, Nat.reduceSub, Nat.reduceMul, Nat.reduceMod, Nat.reduceDiv, Nat.reduceBEq, RH, h9'', h9', lm_ik h12, lm_ik h15]
          refine J.ite (fun h16 => ?_) (fun h16 => ?_)
          · have h16' := decide_eq_true h16
            conv => arg 1; simp (maxSteps := 1000000) (disch := first | assumption | decide | with_unfolding_all rfl | omega | (simp only [LN] <;> omega) | (simp only [RO, OF])) only [RR, RM, LN, TT, d32_at, ↓reduceIte, Nat.reduceEqDiff, Nat.reduceLT, Nat.reduceLeDiff, Nat.reduceAdd, Nat.reduceSub, Nat.reduceMul, Nat.reduceMod, Nat.reduceDiv, Nat.reduceBEq, RH, h9'', h9', lm_ik h12, lm_ik h15, h16']
            refine J.eq ret_seq ?_
            conv => arg 1; simp (maxSteps := 1000000) (disch := first | assumption | decide | with_unfolding_all rfl | omega | (simp only [LN] <;> omega) | (simp only [RO, OF])) only [RR, RM, LN, TT, d32_at, ↓reduceIte, Nat.reduceEqDiff, Nat.reduceLT, Nat.reduceLeDiff, Nat.reduceAdd, Nat.reduceSub, Nat.reduceMul, Nat.reduceMod, Nat.reduceDiv, Nat.reduceBEq, RH, h9'', h9', lm_ik h12, lm_ik h15, h16']
            refine J.next (s := wk .i64 (x12 + 1)) hn2 ?_ ?_
            · first | rfl | (simp only [LN, NN, NT])
            · first | (simp (disch := first | assumption | decide | with_unfolding_all rfl | omega | (simp only [LN] <;> omega) | (simp only [RO, OF])) only [RR, ↓reduceIte, Nat.reduceEqDiff, Nat.reduceLT, Nat.reduceLeDiff, Nat.reduceAdd, Nat.reduceSub, Nat.reduceMul, Nat.reduceMod, Nat.reduceDiv, Nat.reduceBEq, LN, NN, NT]; done) | rfl
          · have h16' := decide_eq_false h16
            refine J.some ?_
            simp (disch := first | assumption | decide | with_unfolding_all rfl | omega | (simp only [LN] <;> omega) | (simp only [RO, OF])) only [RR, RM, LN, TT, d32_at, ↓reduceIte, Nat.reduceEqDiff, Nat.reduceLT, Nat.reduceLeDiff, Nat.reduceAdd, Nat.reduceSub, Nat.reduceMul, Nat.reduceMod, Nat.reduceDiv, Nat.reduceBEq, RH, h9'', h9', lm_ik h12, lm_ik h15, h16', FF, LN, NN, NT]
        · have h9' := decide_eq_false h9
          have h9'' : decide ((x1.fI.length : Int) ≤ x12) = true := decide_eq_true (by omega)
          conv => arg 1; simp (maxSteps := 1000000) (disch := first | assumption | decide | with_unfolding_all rfl | omega | (simp only [LN] <;> omega) | (simp only [RO, OF])) only [RR, RM, LN, TT, d32_at, ↓reduceIte, Nat.reduceEqDiff, Nat.reduceLT, Nat.reduceLeDiff, Nat.reduceAdd, Nat.reduceSub, Nat.reduceMul, Nat.reduceMod, Nat.reduceDiv, Nat.reduceBEq, RH, h9'', h9']
          refine J.jmp (t := ()) hj3 ?_ ?_
          · first | rfl | (simp only [LN, NN, NT])
          · first | (simp (disch := first | assumption | decide | with_unfolding_all rfl | omega | (simp only [LN] <;> omega) | (simp only [RO, OF])) only [RR, ↓reduceIte, Nat.reduceEqDiff, Nat.reduceLT, Nat.reduceLeDiff, Nat.reduceAdd, Nat.reduceSub, Nat.reduceMul, Nat.reduceMod, Nat.reduceDiv, Nat.reduceBEq, LN, NN, NT]; done) | rfl
    · conv => arg 1; simp (maxSteps := 1000000) (disch := first | assumption | decide | with_unfolding_all rfl | omega | (simp only [LN] <;> omega) | (simp only [RO, OF])) only [RR, RM, LN, TT, d32_at, ↓reduceIte, Nat.reduceEqDiff, Nat.reduceLT, Nat.reduceLeDiff, Nat.reduceAdd, Nat.reduceSub, Nat.reduceMul, Nat.reduceMod, Nat.reduceDiv, Nat.reduceBEq, RH]
      unfold ref05_Same_W3
      refine J.loop (fun (s : Int) => ([(2, .ptr (0, 2, 0) 0 0), (3, .ptr (0, 3, 0) 0 0), (5, .v (.int .i64 s))], [((0, 2, 0), .bx true ([.v (.int .i64 x1.fType), .arr x1.fDims.length (lm (ik .i64) x1.fDims), .arr x1.fF.length (lm (ik .u32) x1.fF), .arr x1.fI.length (lm (ik .i64) x1.fI), .arr x1.fB.length (lm (bk) x1.fB)])), ((0, 3, 0), .bx true ([.v (.int .i64 x2.fType), .arr x2.fDims.length (lm (ik .i64) x2.fDims), .arr x2.fF.length (lm (ik .u32) x2.fF), .arr x2.fI.length (lm (ik .i64) x2.fI), .arr x2.fB.length (lm (bk) x2.fB)]))])) (fun next s => ref05_Same_L3 fu x1 x2 next s) (s0 := 0) ?_ ?_ ?_
      · first | rfl | (simp only [LN, NN, NT])
      · first | (simp (disch := first | assumption | decide | with_unfolding_all rfl | omega | (simp only [LN] <;> omega) | (simp only [RO, OF])) only [RR, ↓reduceIte, Nat.reduceEqDiff, Nat.reduceLT, Nat.reduceLeDiff, Nat.reduceAdd, Nat.reduceSub, Nat.reduceMul, Nat.reduceMod, Nat.reduceDiv, Nat.reduceBEq, LN, NN, NT]; done) | rfl
      rintro nx3 k3 hn3 x19
      show J _ (ref05_Same_L3 fu x1 x2 nx3 x19) _
      unfold ref05_Same_L3
      refine J.eq go_seq ?_
      conv => arg 1; simp (maxSteps := 1000000) (disch := first | assumption | decide | with_unfolding_all rfl | omega | (simp only [LN] <;> omega) | (simp only [RO, OF])) only [RR, RM, LN, TT, d32_at, ↓reduceIte, Nat.reduceEqDiff, Nat.reduceLT, Nat.reduceLeDiff, Nat.reduceAdd, Nat.reduceSub, Nat.reduceMul, Nat.reduceMod, Nat.reduceDiv, Nat.reduceBEq, RH]
      refine J.ite (fun h17 => ?_) (fun h17 => ?_)
      · have h17' := decide_eq_true h17
        have h17'' : decide ((x1.fF.length : Int) ≤ x19) = false := decide_eq_false (by omega)
        conv => arg 1; simp (maxSteps := 1000000) (disch := first | assumption | decide | with_unfolding_all rfl | omega | (simp only [LN] <;> omega) | (simp only [RO, OF])) only [RR, RM, LN, TT, d32_at, ↓reduceIte, Nat.reduceEqDiff, Nat.reduceLT, Nat.reduceLeDiff, Nat.reduceAdd, Nat.reduceSub, Nat.reduceMul, Nat.reduceMod, Nat.reduceDiv, Nat.reduceBEq, RH, h17'', h17']
        refine J.eq ret_seq ?_
        refine J.eq go_seq ?_
        refine J.at fun x22 h18 h19 h20 => ?_
        refine J.at fun x23 h21 h22 h23 => ?_
        conv => arg 1; simp (maxSteps := 1000000) (disch := first | assumption | decide | with_unfolding_all rfl | omega | (simp only [LN] <;> omega) | (simp only [RO, OF])) only [RR, RM, LN, TT, d32_at, ↓reduceIte, Nat.reduceEqDiff, Nat.reduceLT, Nat.reduceLeDiff, Nat.reduceAdd, Nat.reduceSub, Nat.reduceMul, Nat.reduceMod, Nat.reduceDiv, Nat.reduceBEq, RH, h17'', h17', lm_ik h20, lm_ik h23]
        refine J.ite (fun h24 => ?_) (fun h24 => ?_)
        · have h24' := decide_eq_true h24
          conv => arg 1; simp (maxSteps := 1000000) (disch := first | assumption | decide | with_unfolding_all rfl | omega | (simp only [LN] <;> omega) | (simp only [RO, OF])) only [RR, RM, LN, TT, d32_at, ↓reduceIte, Nat.reduceEqDiff, Nat.reduceLT, Nat.reduceLeDiff, Nat.reduceAdd, Nat.reduceSub, Nat.reduceMul, Nat.reduceMod, Nat.reduceDiv, Nat.reduceBEq, RH, h17'', h17', lm_ik h20, lm_ik h23, h24']
          refine J.eq ret_seq ?_
          conv => arg 1; simp (maxSteps := 1000000) (disch := first | assumption | decide | with_unfolding_all rfl | omega | (simp only [LN] <;> omega) | (simp only [RO, OF])) only [RR, RM, LN, TT, d32_at, ↓reduceIte, Nat.reduceEqDiff, Nat.reduceLT, Nat.reduceLeDiff, Nat.reduceAdd, Nat.reduceSub, Nat.reduceMul, Nat.reduceMod, Nat.reduceDiv, Nat.reduceBEq, RH, h17'', h17', lm_ik h20, lm_ik h23, h24']
          refine J.next (s := wk .i64 (x19 + 1)) hn3 ?_ ?_
          · first | rfl | (simp only [LN, NN, NT])
          · first | (simp (disch := first | assumption | decide | with_unfolding_all rfl | omega | (simp only [LN] <;> omega) | (simp only [RO, OF])) only [RR, ↓reduceIte, Nat.reduceEqDiff, Nat.reduceLT, Nat.reduceLeDiff, Nat.reduceAdd, Nat.reduceSub, Nat.reduceMul, Nat.reduceMod, Nat.reduceDiv, Nat.reduceBEq, LN, NN, NT]; done) | rfl
        · have h24' := decide_eq_false h24
          refine J.some ?_
          simp (disch := first | assumption | decide | with_unfolding_all rfl | omega | (simp only [LN] <;> omega) | (simp only [RO, OF])) only [RR, RM, LN, TT, d32_at, ↓reduceIte, Nat.reduceEqDiff, Nat.reduceLT, Nat.reduceLeDiff, Nat.reduceAdd, Nat.reduceSub, Nat.reduceMul, Nat.reduceMod, Nat.reduceDiv, Nat.reduceBEq, RH, h17'', h17', lm_ik h20, lm_ik h23, h24', FF, LN, NN, NT]
      · have h17' := decide_eq_false h17
        have h17'' : decide ((x1.fF.length : Int) ≤ x19) = true := decide_eq_true (by omega)
        conv => arg 1; simp (maxSteps := 1000000) (disch := first | assumption | decide | with_unfolding_all rfl | omega | (simp only [LN] <;> omega) | (simp only [RO, OF])) only [RR, RM, LN, TT, d32_at, ↓reduceIte, Nat.reduceEqDiff, Nat.reduceLT, Nat.reduceLeDiff, Nat.reduceAdd, Nat.reduceSub, Nat.reduceMul, Nat.reduceMod, Nat.reduceDiv, Nat.reduceBEq, RH, h17'', h17']
        refine J.jmp (t := ()) hj2 ?_ ?_
        · first | rfl | (simp only [LN, NN, NT])
        · first | (simp (disch := first | assumption | decide | with_unfolding_all rfl | omega | (simp only [LN] <;> omega) | (simp only [RO, OF])) only [RR, ↓reduceIte, Nat.reduceEqDiff, Nat.reduceLT, Nat.reduceLeDiff, Nat.reduceAdd, Nat.reduceSub, Nat.reduceMul, Nat.reduceMod, Nat.reduceDiv, Nat.reduceBEq, LN, NN, NT]; done) | rfl
  · refine J.eq go_seq ?_
    conv => arg 1; simp (maxSteps := 1000000) (disch := first | assumption | decide | with_unfolding_all rfl | omega | (simp only [LN] <;> omega) | (simp only [RO, OF])) only [RR, RM, LN, TT, d32_at, ↓reduceIte, Nat.reduceEqDiff, Nat.reduceLT, Nat.reduceLeDiff, Nat.reduceAdd, Nat.reduceSub, Nat.reduceMul, Nat.reduceMod, Nat.reduceDiv, Nat.reduceBEq, RH]
    refine J.ite (fun h25 => ?_) (fun h25 => ?_)
    · have h25' := decide_eq_true h25
      refine J.bind fun x24 h26 => ?_
      have e_h26 := H23_0 _ _ _ h26
      try simp only [NN, NT, LN] at e_h26
      conv => arg 1; simp (maxSteps := 1000000) (disch := first | assumption | decide | with_unfolding_all rfl | omega | (simp only [LN] <;> omega) | (simp only [RO, OF])) only [RR, RM, LN, TT, d32_at, ↓reduceIte, Nat.reduceEqDiff, Nat.reduceLT, Nat.reduceLeDiff, Nat.reduceAdd, Nat.reduceSub, Nat.reduceMul, Nat.reduceMod, Nat.reduceDiv, Nat.reduceBEq, RH, h25', e_h26]
      refine J.ite (fun h27 => ?_) (fun h27 => ?_)
      · have h27' : x24 = true := h27
        conv => arg 1; simp (maxSteps := 1000000) (disch := first | assumption | decide | with_unfolding_all rfl | omega | (simp only [LN] <;> omega) | (simp only [RO, OF])) only [RR, RM, LN, TT, d32_at, ↓reduceIte, Nat.reduceEqDiff, Nat.reduceLT, Nat.reduceLeDiff, Nat.reduceAdd, Nat.reduceSub, Nat.reduceMul, Nat.reduceMod, Nat.reduceDiv, Nat.reduceBEq, RH, h25', e_h26, h27']
        refine J.ite (fun h28 => ?_) (fun h28 => ?_)
        · have h28' := decide_eq_true h28
          conv => arg 1; simp (maxSteps := 1000000) (disch := first | assumption | decide | with_unfolding_all rfl | omega | (simp only [LN] <;> omega) | (simp only [RO, OF])) only [RR, RM, LN, TT, d32_at, ↓reduceIte, Nat.reduceEqDiff, Nat.reduceLT, Nat.reduceLeDiff, Nat.reduceAdd, Nat.reduceSub, Nat.reduceMul, Nat.reduceMod, Nat.reduceDiv, Nat.reduceBEq, RH, h25', e_h26, h27', h28']
          refine J.ite (fun h29 => ?_) (fun h29 => ?_)
          · have h29' := decide_eq_true h29
            conv => arg 1; simp (maxSteps := 1000000) (disch := first | assumption | decide | with_unfolding_all rfl | omega | (simp only [LN] <;> omega) | (simp only [RO, OF])) only [RR, RM, LN, TT, d32_at, ↓reduceIte, Nat.reduceEqDiff, Nat.reduceLT, Nat.reduceLeDiff, Nat.reduceAdd, Nat.reduceSub, Nat.reduceMul, Nat.reduceMod, Nat.reduceDiv, Nat.reduceBEq, RH, h25', e_h26, h27', h28', h29']
            refine J.eq ret_seq ?_
            conv => arg 1; simp (maxSteps := 1000000) (disch := first | assumption | decide | with_unfolding_all rfl | omega | (simp only [LN] <;> omega) | (simp only [RO, OF])) only [RR, RM, LN, TT, d32_at, ↓reduceIte, Nat.reduceEqDiff, Nat.reduceLT, Nat.reduceLeDiff, Nat.reduceAdd, Nat.reduceSub, Nat.reduceMul, Nat.reduceMod, Nat.reduceDiv, Nat.reduceBEq, RH, h25', e_h26, h27', h28', h29']
            refine J.ite (fun h30 => ?_) (fun h30 => ?_)
            · have h30' := decide_eq_true h30
              conv => arg 1; simp (maxSteps := 1000000) (disch := first | assumption | decide | with_unfolding_all rfl | omega | (simp only [LN] <;> omega) | (simp only [RO, OF])) only [RR, RM, LN, TT, d32_at, ↓reduceIte, Nat.reduceEqDiff, Nat.reduceLT, Nat.reduceLeDiff, Nat.reduceAdd, Nat.reduceSub, Nat.reduceMul, Nat.reduceMod, Nat.reduceDiv, Nat.reduceBEq, RH, h25', e_h26, h27', h28', h29', h30']
              refine J.jmp (t := ()) hj1 ?_ ?_
              · first | rfl | (simp only [LN, NN, NT])
              · first | (simp (disch := first | assumption | decide | with_unfolding_all rfl | omega | (simp only [LN] <;> omega) | (simp only [RO, OF])) only [RR, ↓reduceIte, Nat.reduceEqDiff, Nat.reduceLT, Nat.reduceLeDiff, Nat.reduceAdd, Nat.reduceSub, Nat.reduceMul, Nat.reduceMod, Nat.reduceDiv, Nat.reduceBEq, LN, NN, NT]; done) | rfl
            · have h30' := decide_eq_false h30
              refine J.some ?_
              simp (disch := first | assumption | decide | with_unfolding_all rfl | omega | (simp only [LN] <;> omega) | (simp only [RO, OF])) only [RR, RM, LN, TT, d32_at, ↓reduceIte, Nat.reduceEqDiff, Nat.reduceLT, Nat.reduceLeDiff, Nat.reduceAdd, Nat.reduceSub, Nat.reduceMul, Nat.reduceMod, Nat.reduceDiv, Nat.reduceBEq, RH, h25', e_h26, h27', h28', h29', h30', FF, LN, NN, NT]
          · have h29' := decide_eq_false h29
            conv => arg 1; simp (maxSteps := 1000000) (disch := first | assumption | decide | with_unfolding_all rfl | omega | (simp only [LN] <;> omega) | (simp only [RO, OF])) only [RR, RM, LN, TT, d32_at, ↓reduceIte, Nat.reduceEqDiff, Nat.reduceLT, Nat.reduceLeDiff, Nat.reduceAdd, Nat.reduceSub, Nat.reduceMul, Nat.reduceMod, Nat.reduceDiv, Nat.reduceBEq, RH, h25', e_h26, h27', h28', h29']
            refine J.eq ret_seq ?_
            refine J.some ?_
            simp (disch := first | assumption | decide | with_unfolding_all rfl | omega | (simp only [LN] <;> omega) | (simp only [RO, OF])) only [RR, RM, LN, TT, d32_at, ↓reduceIte, Nat.reduceEqDiff, Nat.reduceLT, Nat.reduceLeDiff, Nat.reduceAdd, Nat.reduceSub, Nat.reduceMul, Nat.reduceMod, Nat.reduceDiv, Nat.reduceBEq, RH, h25', e_h26, h27', h28', h29', FF, LN, NN, NT]
        · have h28' := decide_eq_false h28
          conv => arg 1; simp (maxSteps := 1000000) (disch := first | assumption | decide | with_unfolding_all rfl | omega | (simp only [LN] <;> omega) | (simp only [RO, OF])) only [RR, RM, LN, TT, d32_at, ↓reduceIte, Nat.reduceEqDiff, Nat.reduceLT, Nat.reduceLeDiff, Nat.reduceAdd, Nat.reduceSub, Nat.reduceMul, Nat.reduceMod, Nat.reduceDiv, Nat.reduceBEq, RH, h25', e_h26, h27', h28']
          refine J.eq ret_seq ?_
          refine J.some ?_
          simp (disch := first | assumption | decide | with_unfolding_all rfl | omega | (simp only [LN] <;> omega) | (simp only [RO, OF])) only [RR, RM, LN, TT, d32_at, ↓reduceIte, Nat.reduceEqDiff, Nat.reduceLT, Nat.reduceLeDiff, Nat.reduceAdd, Nat.reduceSub, Nat.reduceMul, Nat.reduceMod, Nat.reduceDiv, Nat.reduceBEq, RH, h25', e_h26, h27', h28', FF, LN, NN, NT]
      · have h27' : x24 = false := Bool.eq_false_iff.2 h27
        conv => arg 1; simp (maxSteps := 1000000) (disch := first | assumption | decide | with_unfolding_all rfl | omega | (simp only [LN] <;> omega) | (simp only [RO, OF])) only [RR, RM, LN, TT, d32_at, ↓reduceIte, Nat.reduceEqDiff, Nat.reduceLT, Nat.reduceLeDiff, Nat.reduceAdd, Nat.reduceSub, Nat.reduceMul, Nat.reduceMod, Nat.reduceDiv, Nat.reduceBEq, RH, h25', e_h26, h27']
        refine J.eq ret_seq ?_
        refine J.some ?_
        simp (disch := first | assumption | decide | with_unfolding_all rfl | omega | (simp only [LN] <;> omega) | (simp only [RO, OF])) only [RR, RM, LN, TT, d32_at, ↓reduceIte, Nat.reduceEqDiff, Nat.reduceLT, Nat.reduceLeDiff, Nat.reduceAdd, Nat.reduceSub, Nat.reduceMul, Nat.reduceMod, Nat.reduceDiv, Nat.reduceBEq, RH, h25', e_h26, h27', FF, LN, NN, NT]
    · have h25' := decide_eq_false h25
      conv => arg 1; simp (maxSteps := 1000000) (disch := first | assumption | decide | with_unfolding_all rfl | omega | (simp only [LN] <;> omega) | (simp only [RO, OF])) only [RR, RM, LN, TT, d32_at, ↓reduceIte, Nat.reduceEqDiff, Nat.reduceLT, Nat.reduceLeDiff, Nat.reduceAdd, Nat.reduceSub, Nat.reduceMul, Nat.reduceMod, Nat.reduceDiv, Nat.reduceBEq, RH, h25']
      refine J.eq ret_seq ?_
      refine J.some ?_
      simp (disch := first | assumption | decide | with_unfolding_all rfl | omega | (simp only [LN] <;> omega) | (simp only [RO, OF])) only [RR, RM, LN, TT, d32_at, ↓reduceIte, Nat.reduceEqDiff, Nat.reduceLT, Nat.reduceLeDiff, Nat.reduceAdd, Nat.reduceSub, Nat.reduceMul, Nat.reduceMod, Nat.reduceDiv, Nat.reduceBEq, RH, h25', FF, LN, NN, NT]
noncomputable def t32 (fu : Nat) : CallP := orE 23 (mkC (fun (t : (List Int) × (List Int)) => ([.arr t.1.length (lm (ik .i64) t.1), .arr t.2.length (lm (ik .i64) t.2)] : List AV)) (fun t => ref04_SameInts fu t.1 t.2) e23) (noP)
theorem t32_ok (fu : Nat) : CpOK Try.prog (t32 fu ) := orE_ok (noP_ok) (mkC_ok (fun t b h => ok23 fu t.1 t.2  b h))
theorem ok32 (fu : Nat) (x1 : T_Tensor) (x2 : T_Tensor) (r) (h : ref05_Same fu x1 x2 = some r) : PureOK Try.prog 32 [.agg (c_T_Tensor x1), .agg (c_T_Tensor x2)] (e32 r) :=
  pure_J mixed (cp := t32 fu ) (t32_ok fu  ) noI_ok i32 (w32 _ fu x1 x2  (fun a0 a1 r h => orE_hit (mkC_at (a := (a0, a1)) (by intro a b h; first | (exact rfl) | (simp only [INJ, c_inj_iff c_T_Tensor_inj, lm_inj_iff (inj_avf (inj_fm c_T_Tensor_len (by decide) c_T_Tensor_inj)), fm_inj_iff (inj_fm c_T_Tensor_len (by decide) c_T_Tensor_inj)] at h; first | exact h | (simp_all [Prod.ext_iff]) )) h))) h
/-! 29: lattice/latticelaw05.awake -/
def d29 : List (Nat × List Nat) := [(0, [0]), (0, []), (0, [15, 16, 17]), (0, []), (0, [18, 19, 20, 21, 22, 23, 24]), (0, []), (0, [4, 25, 26, 27, 28, 29, 30, 31]), (0, []), (0, [32, 33, 34, 35, 36]), (0, []), (0, [1, 37, 38, 39, 40, 41]), (0, []), (0, [10, 42, 43, 44, 45, 46, 47]), (0, []), (0, [48, 49, 50]), (0, []), (0, [51, 52, 53]), (0, []), (0, [54, 55, 56, 57]), (0, []), (0, [58, 59, 60, 61, 62, 63, 64, 65]), (0, []), (0, []), (0, []), (0, [2, 3, 5, 6, 7, 8, 9, 11, 12, 13, 14, 67, 68, 69, 70, 71, 72, 73, 74, 75, 76, 77, 78, 79, 80, 81, 82, 83, 84, 85, 86, 87, 88, 89, 90, 91, 92, 93, 94, 95, 96, 97, 98, 99, 100, 101, 102, 103, 104, 105, 106, 107, 108, 109, 110, 111])]
def d29_at := And.intro (show d29.getD 0 (0, []) = (0, [0]) from rfl) <| And.intro (show d29.getD 1 (0, []) = (0, []) from rfl) <| And.intro (show d29.getD 2 (0, []) = (0, [15, 16, 17]) from rfl) <| And.intro (show d29.getD 3 (0, []) = (0, []) from rfl) <| And.intro (show d29.getD 4 (0, []) = (0, [18, 19, 20, 21, 22, 23, 24]) from rfl) <| And.intro (show d29.getD 5 (0, []) = (0, []) from rfl) <| And.intro (show d29.getD 6 (0, []) = (0, [4, 25, 26, 27, 28, 29, 30, 31]) from rfl) <| And.intro (show d29.getD 7 (0, []) = (0, []) from rfl) <| And.intro (show d29.getD 8 (0, []) = (0, [32, 33, 34, 35, 36]) from rfl) <| And.intro (show d29.getD 9 (0, []) = (0, []) from rfl) <| And.intro (show d29.getD 10 (0, []) = (0, [1, 37, 38, 39, 40, 41]) from rfl) <| And.intro (show d29.getD 11 (0, []) = (0, []) from rfl) <| And.intro (show d29.getD 12 (0, []) = (0, [10, 42, 43, 44, 45, 46, 47]) from rfl) <| And.intro (show d29.getD 13 (0, []) = (0, []) from rfl) <| And.intro (show d29.getD 14 (0, []) = (0, [48, 49, 50]) from rfl) <| And.intro (show d29.getD 15 (0, []) = (0, []) from rfl) <| And.intro (show d29.getD 16 (0, []) = (0, [51, 52, 53]) from rfl) <| And.intro (show d29.getD 17 (0, []) = (0, []) from rfl) <| And.intro (show d29.getD 18 (0, []) = (0, [54, 55, 56, 57]) from rfl) <| And.intro (show d29.getD 19 (0, []) = (0, []) from rfl) <| And.intro (show d29.getD 20 (0, []) = (0, [58, 59, 60, 61, 62, 63, 64, 65]) from rfl) <| And.intro (show d29.getD 21 (0, []) = (0, []) from rfl) <| And.intro (show d29.getD 22 (0, []) = (0, []) from rfl) <| And.intro (show d29.getD 23 (0, []) = (0, []) from rfl) <| (show d29.getD 24 (0, []) = (0, [2, 3, 5, 6, 7, 8, 9, 11, 12, 13, 14, 67, 68, 69, 70, 71, 72, 73, 74, 75, 76, 77, 78, 79, 80, 81, 82, 83, 84, 85, 86, 87, 88, 89, 90, 91, 92, 93, 94, 95, 96, 97, 98, 99, 100, 101, 102, 103, 104, 105, 106, 107, 108, 109, 110, 111]) from rfl)
theorem i29 : finfo Try.prog 29 d29 = some ⟨bodyOf Try.f29, [.tmp 0], [4]⟩ := finfo_at Try.func29 rfl (by kernel_rfl) (by kernel_rfl)
def e29 : Bool → AV := fun r => .v (.bool r)
set_option maxHeartbeats 1000000 in
theorem w29 (cp : CallP) (fu : Nat) (H37_0 : ∀ (a0 : T_Tensor) (a1 : List Int) (a2 : List Int) r, tens_Pick fu a0 a1 a2 = some r → cp 37 [.agg (c_T_Tensor a0), .arr a1.length (lm (ik .i64) a1), .arr a2.length (lm (ik .i64) a2)] = some (.tuple [.agg [.v (.int .i64 r.1.fType), .fresh 1 r.1.fDims.length (lm (ik .i64) r.1.fDims), .fresh 1 r.1.fF.length (lm (ik .u32) r.1.fF), .fresh 1 r.1.fI.length (lm (ik .i64) r.1.fI), .fresh 1 r.1.fB.length (lm (bk) r.1.fB)], .v (.int .i64 r.2)])) (H39_0 : ∀ (a0 : T_Tensor) r, tens_Ints fu a0 = some r → cp 39 [.agg (c_T_Tensor a0)] = some (.tuple [.fresh 1 r.1.length (lm (ik .i64) r.1), .v (.int .i64 r.2)])) (H41_0 : ∀ (a0 : T_Tensor) r, tens_Bytes fu a0 = some r → cp 41 [.agg (c_T_Tensor a0)] = some (.tuple [.fresh 1 r.1.length (lm (ik .u8) r.1), .v (.int .i64 r.2)])) (H43_0 : ∀ (a0 : Int) (a1 : List Int) (a2 : List Int) r, tens_FromBytes fu a0 a1 a2 = some r → cp 43 [.v (.int .i64 a0), .arr a1.length (lm (ik .i64) a1), .arr a2.length (lm (ik .u8) a2)] = some (.tuple [.agg [.v (.int .i64 r.1.fType), .fresh 1 r.1.fDims.length (lm (ik .i64) r.1.fDims), .fresh 1 r.1.fF.length (lm (ik .u32) r.1.fF), .fresh 1 r.1.fI.length (lm (ik .i64) r.1.fI), .fresh 1 r.1.fB.length (lm (bk) r.1.fB)], .v (.int .i64 r.2)])) (H46_0 : ∀ (a0 : T_Tensor) r, tens_Canon fu a0 = some r → cp 46 [.agg (c_T_Tensor a0)] = some (.agg [.v (.int .i64 r.fType), .fresh 1 r.fDims.length (lm (ik .i64) r.fDims), .fresh 1 r.fF.length (lm (ik .u32) r.fF), .fresh 1 r.fI.length (lm (ik .i64) r.fI), .fresh 1 r.fB.length (lm (bk) r.fB)])) (H48_0 : ∀ (a0 : T_Tensor) r, tens_Check fu a0 = some r → cp 48 [.agg (c_T_Tensor a0)] = some (.v (.int .i64 r))) (H32_0 : ∀ (a0 : T_Tensor) (a1 : T_Tensor) r, ref05_Same fu a0 a1 = some r → cp 32 [.agg (c_T_Tensor a0), .agg (c_T_Tensor a1)] = some (.v (.bool r))) (H23_0 : ∀ (a0 : List Int) (a1 : List Int) r, ref04_SameInts fu a0 a1 = some r → cp 23 [.arr a0.length (lm (ik .i64) a0), .arr a1.length (lm (ik .i64) a1)] = some (.v (.bool r))) : J (go Try.prog noC cp noI 0 [] d29 fu (fin Try.prog [.tmp 0] [4]) (bodyOf Try.f29) (initE 0 []) [] []) (law05_awake fu) e29 := by
  unfold law05_awake e29
  refine J.bind fun x1 h1 => ?_
  have e_h1 := H37_0 _ _ _ _ h1
  try simp only [NN, NT, LN] at e_h1
  refine J.bind fun x2 h2 => ?_
  have e_h2 := H37_0 _ _ _ _ h2
  try simp only [NN, NT, LN] at e_h2
  refine J.bind fun x3 h3 => ?_
  have e_h3 := H39_0 _ _ h3
  try simp only [NN, NT, LN] at e_h3
  refine J.bind fun x4 h4 => ?_
  have e_h4 := H41_0 _ _ h4
  try simp only [NN, NT, LN] at e_h4
  refine J.bind fun x5 h5 => ?_
  have e_h5 := H43_0 _ _ _ _ h5
  try simp only [NN, NT, LN] at e_h5
  refine J.bind fun x6 h6 => ?_
  have e_h6 := H46_0 _ _ h6
  try simp only [NN, NT, LN] at e_h6
  refine J.bind fun x7 h7 => ?_
  have e_h7 := H48_0 _ _ h7
  try simp only [NN, NT, LN] at e_h7
  conv => arg 1; simp (maxSteps := 1000000) (disch := first | assumption | decide | with_unfolding_all rfl | omega | (simp only [LN] <;> omega) | (simp only [RO, OF])) only [bodyOf, Try.f29, RR, RM, LN, TT, d29_at, ↓reduceIte, Nat.reduceEqDiff, Nat.reduceLT, Nat.reduceLeDiff, Nat.reduceAdd, Nat.reduceSub, Nat.reduceMul, Nat.reduceMod, Nat.reduceDiv, Nat.reduceBEq, RH, e_h1, e_h2, e_h3, e_h4, e_h5, e_h6, e_h7]
  refine J.joinS (fun (t : Unit) => ([(2, .ptr (0, 2, 0) 0 0), (3, .v (.int .i64 x1.2)), (5, .v (.int .i64 x2.2)), (6, .own (0, 34, 0) 0 x3.1.length x3.1.length), (7, .v (.int .i64 x3.2)), (8, .own (0, 39, 0) 0 x4.1.length x4.1.length), (9, .v (.int .i64 x4.2)), (11, .v (.int .i64 x5.2)), (12, .ptr (0, 12, 0) 0 0), (13, .ptr (0, 13, 0) 0 0), (14, .v (.int .i64 x7))], [((0, 22, 0), .sl true true 1 x1.1.fDims.length (lm (ik .i64) x1.1.fDims)), ((0, 22, 1), .sl true true 1 x1.1.fF.length (lm (ik .u32) x1.1.fF)), ((0, 22, 2), .sl true true 1 x1.1.fI.length (lm (ik .i64) x1.1.fI)), ((0, 22, 3), .sl true true 1 x1.1.fB.length (lm (bk) x1.1.fB)), ((0, 2, 0), .bx true ([.v (.int .i64 x1.1.fType), .own (0, 22, 0) 0 x1.1.fDims.length x1.1.fDims.length, .own (0, 22, 1) 0 x1.1.fF.length x1.1.fF.length, .own (0, 22, 2) 0 x1.1.fI.length x1.1.fI.length, .own (0, 22, 3) 0 x1.1.fB.length x1.1.fB.length])), ((0, 34, 0), .sl true true 1 x3.1.length (lm (ik .i64) x3.1)), ((0, 39, 0), .sl true true 1 x4.1.length (lm (ik .u8) x4.1)), ((0, 50, 0), .sl true true 1 x6.fDims.length (lm (ik .i64) x6.fDims)), ((0, 50, 1), .sl true true 1 x6.fF.length (lm (ik .u32) x6.fF)), ((0, 50, 2), .sl true true 1 x6.fI.length (lm (ik .i64) x6.fI)), ((0, 50, 3), .sl true true 1 x6.fB.length (lm (bk) x6.fB)), ((0, 12, 0), .bx true ([.v (.int .i64 x6.fType), .own (0, 50, 0) 0 x6.fDims.length x6.fDims.length, .own (0, 50, 1) 0 x6.fF.length x6.fF.length, .own (0, 50, 2) 0 x6.fI.length x6.fI.length, .own (0, 50, 3) 0 x6.fB.length x6.fB.length])), ((0, 51, 0), .sl true true 1 1 ([.v (.int .i64 3)])), ((0, 52, 0), .sl true true 1 3 ([.v (.int .i64 7), .v (.int .i64 0), .v (.int .i64 5)])), ((0, 13, 0), .bx true ([.v (.int .i64 7), .own (0, 51, 0) 0 1 1, .v (.slice none 0 0), .own (0, 52, 0) 0 3 3, .v (.slice none 0 0)]))])) (fun t => law05_awake_k1 fu x1 x2 x3 x4 x5 x6 x7) ?_ (fun hj1 => ?_)
  · rintro ⟨⟩
    show J _ (law05_awake_k1 fu x1 x2 x3 x4 x5 x6 x7) _
    unfold law05_awake_k1
    refine J.eq go_seq ?_
    conv => arg 1; simp (maxSteps := 1000000) (disch := first | assumption | decide | with_unfolding_all rfl | omega | (simp only [LN] <;> omega) | (simp only [RO, OF])) only [RR, RM, LN, TT, d29_at, ↓reduceIte, Nat.reduceEqDiff, Nat.reduceLT, Nat.reduceLeDiff, Nat.reduceAdd, Nat.reduceSub, Nat.reduceMul, Nat.reduceMod, Nat.reduceDiv, Nat.reduceBEq, RH, e_h1, e_h2, e_h3, e_h4, e_h5, e_h6, e_h7]
    refine J.ite (fun h8 => ?_) (fun h8 => ?_)
    · have h8' := decide_eq_true h8
      refine J.bind fun x8 h9 => ?_
      have e_h9 := H32_0 _ _ _ h9
      try simp only [NN, NT, LN] at e_h9
      conv => arg 1; simp (maxSteps := 1000000) (disch := first | assumption | decide | with_unfolding_all rfl | omega | (simp only [LN] <;> omega) | (simp only [RO, OF])) only [RR, RM, LN, TT, d29_at, ↓reduceIte, Nat.reduceEqDiff, Nat.reduceLT, Nat.reduceLeDiff, Nat.reduceAdd, Nat.reduceSub, Nat.reduceMul, Nat.reduceMod, Nat.reduceDiv, Nat.reduceBEq, RH, e_h1, e_h2, e_h3, e_h4, e_h5, e_h6, e_h7, h8', e_h9]
      refine J.ite (fun h10 => ?_) (fun h10 => ?_)
      · have h10' : x8 = true := h10
        conv => arg 1; simp (maxSteps := 1000000) (disch := first | assumption | decide | with_unfolding_all rfl | omega | (simp only [LN] <;> omega) | (simp only [RO, OF])) only [RR, RM, LN, TT, d29_at, ↓reduceIte, Nat.reduceEqDiff, Nat.reduceLT, Nat.reduceLeDiff, Nat.reduceAdd, Nat.reduceSub, Nat.reduceMul, Nat.reduceMod, Nat.reduceDiv, Nat.reduceBEq, RH, e_h1, e_h2, e_h3, e_h4, e_h5, e_h6, e_h7, h8', e_h9, h10']
        refine J.ite (fun h11 => ?_) (fun h11 => ?_)
        · have h11' := decide_eq_true h11
          conv => arg 1; simp (maxSteps := 1000000) (disch := first | assumption | decide | with_unfolding_all rfl | omega | (simp only [LN] <;> omega) | (simp only [RO, OF])) only [RR, RM, LN, TT, d29_at, ↓reduceIte, Nat.reduceEqDiff, Nat.reduceLT, Nat.reduceLeDiff, Nat.reduceAdd, Nat.reduceSub, Nat.reduceMul, Nat.reduceMod, Nat.reduceDiv, Nat.reduceBEq, RH, e_h1, e_h2, e_h3, e_h4, e_h5, e_h6, e_h7, h8', e_h9, h10', h11']
          refine J.ite (fun h12 => ?_) (fun h12 => ?_)
          · have h12' := decide_eq_true h12
            refine J.bind fun x9 h13 => ?_
            have e_h13 := H23_0 _ _ _ h13
            try simp only [NN, NT, LN] at e_h13
            conv => arg 1; simp (maxSteps := 1000000) (disch := first | assumption | decide | with_unfolding_all rfl | omega | (simp only [LN] <;> omega) | (simp only [RO, OF])) only [RR, RM, LN, TT, d29_at, ↓reduceIte, Nat.reduceEqDiff, Nat.reduceLT, Nat.reduceLeDiff, Nat.reduceAdd, Nat.reduceSub, Nat.reduceMul, Nat.reduceMod, Nat.reduceDiv, Nat.reduceBEq, RH, e_h1, e_h2, e_h3, e_h4, e_h5, e_h6, e_h7, h8', e_h9, h10', h11', h12', e_h13]
            refine J.ite (fun h14 => ?_) (fun h14 => ?_)
            · have h14' : x9 = true := h14
              conv => arg 1; simp (maxSteps := 1000000) (disch := first | assumption | decide | with_unfolding_all rfl | omega | (simp only [LN] <;> omega) | (simp only [RO, OF])) only [RR, RM, LN, TT, d29_at, ↓reduceIte, Nat.reduceEqDiff, Nat.reduceLT, Nat.reduceLeDiff, Nat.reduceAdd, Nat.reduceSub, Nat.reduceMul, Nat.reduceMod, Nat.reduceDiv, Nat.reduceBEq, RH, e_h1, e_h2, e_h3, e_h4, e_h5, e_h6, e_h7, h8', e_h9, h10', h11', h12', e_h13, h14']
              refine J.ite (fun h15 => ?_) (fun h15 => ?_)
              · have h15' := decide_eq_true h15
                refine J.at fun x10 h16 h17 h18 => ?_
                conv => arg 1; simp (maxSteps := 1000000) (disch := first | assumption | decide | with_unfolding_all rfl | omega | (simp only [LN] <;> omega) | (simp only [RO, OF])) only [RR, RM, LN, TT, d29_at, ↓reduceIte, Nat.reduceEqDiff, Nat.reduceLT, Nat.reduceLeDiff, Nat.reduceAdd, Nat.reduceSub, Nat.reduceMul, Nat.reduceMod, Nat.reduceDiv, Nat.reduceBEq, RH, e_h1, e_h2, e_h3, e_h4, e_h5, e_h6, e_h7, h8', e_h9, h10', h11', h12', e_h13, h14', h15', lm_ik h18]
                refine J.ite (fun h19 => ?_) (fun h19 => ?_)
                · have h19' := decide_eq_true h19
                  conv => arg 1; simp (maxSteps := 1000000) (disch := first | assumption | decide | with_unfolding_all rfl | omega | (simp only [LN] <;> omega) | (simp only [RO, OF])) only [RR, RM, LN, TT, d29_at, ↓reduceIte, Nat.reduceEqDiff, Nat.reduceLT, Nat.reduceLeDiff, Nat.reduceAdd, Nat.reduceSub, Nat.reduceMul, Nat.reduceMod, Nat.reduceDiv, Nat.reduceBEq, RH, e_h1, e_h2, e_h3, e_h4, e_h5, e_h6, e_h7, h8', e_h9, h10', h11', h12', e_h13, h14', h15', lm_ik h18, h19']
                  refine J.ite (fun h20 => ?_) (fun h20 => ?_)
                  · have h20' := decide_eq_true h20
                    refine J.at fun x11 h21 h22 h23 => ?_
                    conv => arg 1; simp (maxSteps := 1000000) (disch := first | assumption | decide | with_unfolding_all rfl | omega | (simp only [LN] <;> omega) | (simp only [RO, OF])) only [RR, RM, LN, TT, d29_at, ↓reduceIte, Nat.reduceEqDiff, Nat.reduceLT, Nat.reduceLeDiff, Nat.reduceAdd, Nat.reduceSub, Nat.reduceMul, Nat.reduceMod, Nat.reduceDiv, Nat.reduceBEq, RH, e_h1, e_h2, e_h3, e_h4, e_h5, e_h6, e_h7, h8', e_h9, h10', h11', h12', e_h13, h14', h15', lm_ik h18, h19', h20', lm_ik h23]
                    refine J.ite (fun h24 => ?_) (fun h24 => ?_)
                    · have h24' := decide_eq_true h24
                      conv => arg 1; simp (maxSteps := 1000000) (disch := first | assumption | decide | with_unfolding_all rfl | omega | (simp only [LN] <;> omega) | (simp only [RO, OF])) only [RR, RM, LN, TT, d29_at, ↓reduceIte, Nat.reduceEqDiff, Nat.reduceLT, Nat.reduceLeDiff, Nat.reduceAdd, Nat.reduceSub, Nat.reduceMul, Nat.reduceMod, Nat.reduceDiv, Nat.reduceBEq, RH, e_h1, e_h2, e_h3, e_h4, e_h5, e_h6, e_h7, h8', e_h9, h10', h11', h12', e_h13, h14', h15', lm_ik h18, h19', h20', lm_ik h23, h24']
                      refine J.eq ret_seq ?_
                      refine J.some ?_
                      simp (disch := first | assumption | decide | with_unfolding_all rfl | omega | (simp only [LN] <;> omega) | (simp only [RO, OF])) only [RR, RM, LN, TT, d29_at, ↓reduceIte, Nat.reduceEqDiff, Nat.reduceLT, Nat.reduceLeDiff, Nat.reduceAdd, Nat.reduceSub, Nat.reduceMul, Nat.reduceMod, Nat.reduceDiv, Nat.reduceBEq, RH, e_h1, e_h2, e_h3, e_h4, e_h5, e_h6, e_h7, h8', e_h9, h10', h11', h12', e_h13, h14', h15', lm_ik h18, h19', h20', lm_ik h23, h24', FF, LN, NN, NT]
                    · have h24' := decide_eq_false h24
                      conv => arg 1; simp (maxSteps := 1000000) (disch := first | assumption | decide | with_unfolding_all rfl | omega | (simp only [LN] <;> omega) | (simp only [RO, OF])) only [RR, RM, LN, TT, d29_at, ↓reduceIte, Nat.reduceEqDiff, Nat.reduceLT, Nat.reduceLeDiff, Nat.reduceAdd, Nat.reduceSub, Nat.reduceMul, Nat.reduceMod, Nat.reduceDiv, Nat.reduceBEq, RH, e_h1, e_h2, e_h3, e_h4, e_h5, e_h6, e_h7, h8', e_h9, h10', h11', h12', e_h13, h14', h15', lm_ik h18, h19', h20', lm_ik h23, h24']
                      refine J.eq ret_seq ?_
                      refine J.some ?_
                      simp (disch := first | assumption | decide | with_unfolding_all rfl | omega | (simp only [LN] <;> omega) | (simp only [RO, OF])) only [RR, RM, LN, TT, d29_at, ↓reduceIte, Nat.reduceEqDiff, Nat.reduceLT, Nat.reduceLeDiff, Nat.reduceAdd, Nat.reduceSub, Nat.reduceMul, Nat.reduceMod, Nat.reduceDiv, Nat.reduceBEq, RH, e_h1, e_h2, e_h3, e_h4, e_h5, e_h6, e_h7, h8', e_h9, h10', h11', h12', e_h13, h14', h15', lm_ik h18, h19', h20', lm_ik h23, h24', FF, LN, NN, NT]
                  · have h20' := decide_eq_false h20
                    conv => arg 1; simp (maxSteps := 1000000) (disch := first | assumption | decide | with_unfolding_all rfl | omega | (simp only [LN] <;> omega) | (simp only [RO, OF])) only [RR, RM, LN, TT, d29_at, ↓reduceIte, Nat.reduceEqDiff, Nat.reduceLT, Nat.reduceLeDiff, Nat.reduceAdd, Nat.reduceSub, Nat.reduceMul, Nat.reduceMod, Nat.reduceDiv, Nat.reduceBEq, RH, e_h1, e_h2, e_h3, e_h4, e_h5, e_h6, e_h7, h8', e_h9, h10', h11', h12', e_h13, h14', h15', lm_ik h18, h19', h20']
                    refine J.eq ret_seq ?_
                    refine J.some ?_
                    simp (disch := first | assumption | decide | with_unfolding_all rfl | omega | (simp only [LN] <;> omega) | (simp only [RO, OF])) only [RR, RM, LN, TT, d29_at, ↓reduceIte, Nat.reduceEqDiff, Nat.reduceLT, Nat.reduceLeDiff, Nat.reduceAdd, Nat.reduceSub, Nat.reduceMul, Nat.reduceMod, Nat.reduceDiv, Nat.reduceBEq, RH, e_h1, e_h2, e_h3, e_h4, e_h5, e_h6, e_h7, h8', e_h9, h10', h11', h12', e_h13, h14', h15', lm_ik h18, h19', h20', FF, LN, NN, NT]
                · have h19' := decide_eq_false h19
                  conv => arg 1; simp (maxSteps := 1000000) (disch := first | assumption | decide | with_unfolding_all rfl | omega | (simp only [LN] <;> omega) | (simp only [RO, OF])) only [RR, RM, LN, TT, d29_at, ↓reduceIte, Nat.reduceEqDiff, Nat.reduceLT, Nat.reduceLeDiff, Nat.reduceAdd, Nat.reduceSub, Nat.reduceMul, Nat.reduceMod, Nat.reduceDiv, Nat.reduceBEq, RH, e_h1, e_h2, e_h3, e_h4, e_h5, e_h6, e_h7, h8', e_h9, h10', h11', h12', e_h13, h14', h15', lm_ik h18, h19']
                  refine J.eq ret_seq ?_
                  refine J.some ?_
                  simp (disch := first | assumption | decide | with_unfolding_all rfl | omega | (simp only [LN] <;> omega) | (simp only [RO, OF])) only [RR, RM, LN, TT, d29_at, ↓reduceIte, Nat.reduceEqDiff, Nat.reduceLT, Nat.reduceLeDiff, Nat.reduceAdd, Nat.reduceSub, Nat.reduceMul, Nat.reduceMod, Nat.reduceDiv, Nat.reduceBEq, RH, e_h1, e_h2, e_h3, e_h4, e_h5, e_h6, e_h7, h8', e_h9, h10', h11', h12', e_h13, h14', h15', lm_ik h18, h19', FF, LN, NN, NT]
              · have h15' := decide_eq_false h15
                conv => arg 1; simp (maxSteps := 1000000) (disch := first | assumption | decide | with_unfolding_all rfl | omega | (simp only [LN] <;> omega) | (simp only [RO, OF])) only [RR, RM, LN, TT, d29_at, ↓reduceIte, Nat.reduceEqDiff, Nat.reduceLT, Nat.reduceLeDiff, Nat.reduceAdd, Nat.reduceSub, Nat.reduceMul, Nat.reduceMod, Nat.reduceDiv, Nat.reduceBEq, RH, e_h1, e_h2, e_h3, e_h4, e_h5, e_h6, e_h7, h8', e_h9, h10', h11', h12', e_h13, h14', h15']
                refine J.eq ret_seq ?_
                refine J.some ?_
                simp (disch := first | assumption | decide | with_unfolding_all rfl | omega | (simp only [LN] <;> omega) | (simp only [RO, OF])) only [RR, RM, LN, TT, d29_at, ↓reduceIte, Nat.reduceEqDiff, Nat.reduceLT, Nat.reduceLeDiff, Nat.reduceAdd, Nat.reduceSub, Nat.reduceMul, Nat.reduceMod, Nat.reduceDiv, Nat.reduceBEq, RH, e_h1, e_h2, e_h3, e_h4, e_h5, e_h6, e_h7, h8', e_h9, h10', h11', h12', e_h13, h14', h15', FF, LN, NN, NT]
            · have h14' : x9 = false := Bool.eq_false_iff.2 h14
              conv => arg 1; simp (maxSteps := 1000000) (disch := first | assumption | decide | with_unfolding_all rfl | omega | (simp only [LN] <;> omega) | (simp only [RO, OF])) only [RR, RM, LN, TT, d29_at, ↓reduceIte, Nat.reduceEqDiff, Nat.reduceLT, Nat.reduceLeDiff, Nat.reduceAdd, Nat.reduceSub, Nat.reduceMul, Nat.reduceMod, Nat.reduceDiv, Nat.reduceBEq, RH, e_h1, e_h2, e_h3, e_h4, e_h5, e_h6, e_h7, h8', e_h9, h10', h11', h12', e_h13, h14']
              refine J.eq ret_seq ?_
              refine J.some ?_
              simp (disch := first | assumption | decide | with_unfolding_all rfl | omega | (simp only [LN] <;> omega) | (simp only [RO, OF])) only [RR, RM, LN, TT, d29_at, ↓reduceIte, Nat.reduceEqDiff, Nat.reduceLT, Nat.reduceLeDiff, Nat.reduceAdd, Nat.reduceSub, Nat.reduceMul, Nat.reduceMod, Nat.reduceDiv, Nat.reduceBEq, RH, e_h1, e_h2, e_h3, e_h4, e_h5, e_h6, e_h7, h8', e_h9, h10', h11', h12', e_h13, h14', FF, LN, NN, NT]
          · have h12' := decide_eq_false h12
            conv => arg 1; simp (maxSteps := 1000000) (disch := first | assumption | decide | with_unfolding_all rfl | omega | (simp only [LN] <;> omega) | (simp only [RO, OF])) only [RR, RM, LN, TT, d29_at, ↓reduceIte, Nat.reduceEqDiff, Nat.reduceLT, Nat.reduceLeDiff, Nat.reduceAdd, Nat.reduceSub, Nat.reduceMul, Nat.reduceMod, Nat.reduceDiv, Nat.reduceBEq, RH, e_h1, e_h2, e_h3, e_h4, e_h5, e_h6, e_h7, h8', e_h9, h10', h11', h12']
            refine J.eq ret_seq ?_
            refine J.some ?_
            simp (disch := first | assumption | decide | with_unfolding_all rfl | omega | (simp only [LN] <;> omega) | (simp only [RO, OF])) only [RR, RM, LN, TT, d29_at, ↓reduceIte, Nat.reduceEqDiff, Nat.reduceLT, Nat.reduceLeDiff, Nat.reduceAdd, Nat.reduceSub, Nat.reduceMul, Nat.reduceMod, Nat.reduceDiv, Nat.reduceBEq, RH, e_h1, e_h2, e_h3, e_h4, e_h5, e_h6, e_h7, h8', e_h9, h10', h11', h12', FF, LN, NN, NT]
        · have h11' := decide_eq_false h11
          conv => arg 1; simp (maxSteps := 1000000) (disch := first | assumption | decide | with_unfolding_all rfl | omega | (simp only [LN] <;> omega) | (simp only [RO, OF])) only [RR, RM, LN, TT, d29_at, ↓reduceIte, Nat.reduceEqDiff, Nat.reduceLT, Nat.reduceLeDiff, Nat.reduceAdd, Nat.reduceSub, Nat.reduceMul, Nat.reduceMod, Nat.reduceDiv, Nat.reduceBEq, RH, e_h1, e_h2, e_h3, e_h4, e_h5, e_h6, e_h7, h8', e_h9, h10', h11']
          refine J.eq ret_seq ?_
          refine J.some ?_
          simp (disch := first | assumption | decide | with_unfolding_all rfl | omega | (simp only [LN] <;> omega) | (simp only [RO, OF])) only [RR, RM, LN, TT, d29_at, ↓reduceIte, Nat.reduceEqDiff, Nat.reduceLT, Nat.reduceLeDiff, Nat.reduceAdd, Nat.reduceSub, Nat.reduceMul, Nat.reduceMod, Nat.reduceDiv, Nat.reduceBEq, RH, e_h1, e_h2, e_h3, e_h4, e_h5, e_h6, e_h7, h8', e_h9, h10', h11', FF, LN, NN, NT]
      · have h10' : x8 = false := Bool.eq_false_iff.2 h10
        conv => arg 1; simp (maxSteps := 1000000) (disch := first | assumption | decide | with_unfolding_all rfl | omega | (simp only [LN] <;> omega) | (simp only [RO, OF])) only [RR, RM, LN, TT, d29_at, ↓reduceIte, Nat.reduceEqDiff, Nat.reduceLT, Nat.reduceLeDiff, Nat.reduceAdd, Nat.reduceSub, Nat.reduceMul, Nat.reduceMod, Nat.reduceDiv, Nat.reduceBEq, RH, e_h1, e_h2, e_h3, e_h4, e_h5, e_h6, e_h7, h8', e_h9, h10']
        refine J.eq ret_seq ?_
        refine J.some ?_
        simp (disch := first | assumption | decide | with_unfolding_all rfl | omega | (simp only [LN] <;> omega) | (simp only [RO, OF])) only [RR, RM, LN, TT, d29_at, ↓reduceIte, Nat.reduceEqDiff, Nat.reduceLT, Nat.reduceLeDiff, Nat.reduceAdd, Nat.reduceSub, Nat.reduceMul, Nat.reduceMod, Nat.reduceDiv, Nat.reduceBEq, RH, e_h1, e_h2, e_h3, e_h4, e_h5, e_h6, e_h7, h8', e_h9, h10', FF, LN, NN, NT]
    · have h8' := decide_eq_false h8
      conv => arg 1; simp (maxSteps := 1000000) (disch := first | assumption | decide | with_unfolding_all rfl | omega | (simp only [LN] <;> omega) | (simp only [RO, OF])) only [RR, RM, LN, TT, d29_at, ↓reduceIte, Nat.reduceEqDiff, Nat.reduceLT, Nat.reduceLeDiff, Nat.reduceAdd, Nat.reduceSub, Nat.reduceMul, Nat.reduceMod, Nat.reduceDiv, Nat.reduceBEq, RH, e_h1, e_h2, e_h3, e_h4, e_h5, e_h6, e_h7, h8']
      refine J.eq ret_seq ?_
      refine J.some ?_
      simp (disch := first | assumption | decide | with_unfolding_all rfl | omega | (simp only [LN] <;> omega) | (simp only [RO, OF])) only [RR, RM, LN, TT, d29_at, ↓reduceIte, Nat.reduceEqDiff, Nat.reduceLT, Nat.reduceLeDiff, Nat.reduceAdd, Nat.reduceSub, Nat.reduceMul, Nat.reduceMod, Nat.reduceDiv, Nat.reduceBEq, RH, e_h1, e_h2, e_h3, e_h4, e_h5, e_h6, e_h7, h8', FF, LN, NN, NT]
  · refine J.eq go_seq ?_
    conv => arg 1; simp (maxSteps := 1000000) (disch := first | assumption | decide | with_unfolding_all rfl | omega | (simp only [LN] <;> omega) | (simp only [RO, OF])) only [RR, RM, LN, TT, d29_at, ↓reduceIte, Nat.reduceEqDiff, Nat.reduceLT, Nat.reduceLeDiff, Nat.reduceAdd, Nat.reduceSub, Nat.reduceMul, Nat.reduceMod, Nat.reduceDiv, Nat.reduceBEq, RH, e_h1, e_h2, e_h3, e_h4, e_h5, e_h6, e_h7]
    refine J.ite (fun h25 => ?_) (fun h25 => ?_)
    · have h25' := decide_eq_true h25
      conv => arg 1; simp (maxSteps := 1000000) (disch := first | assumption | decide | with_unfolding_all rfl | omega | (simp only [LN] <;> omega) | (simp only [RO, OF])) only [RR, RM, LN, TT, d29_at, ↓reduceIte, Nat.reduceEqDiff, Nat.reduceLT, Nat.reduceLeDiff, Nat.reduceAdd, Nat.reduceSub, Nat.reduceMul, Nat.reduceMod, Nat.reduceDiv, Nat.reduceBEq, RH, e_h1, e_h2, e_h3, e_h4, e_h5, e_h6, e_h7, h25']
      refine J.eq ret_seq ?_
      conv => arg 1; simp (maxSteps := 1000000) (disch := first | assumption | decide | with_unfolding_all rfl | omega | (simp only [LN] <;> omega) | (simp only [RO, OF])) only [RR, RM, LN, TT, d29_at, ↓reduceIte, Nat.reduceEqDiff, Nat.reduceLT, Nat.reduceLeDiff, Nat.reduceAdd, Nat.reduceSub, Nat.reduceMul, Nat.reduceMod, Nat.reduceDiv, Nat.reduceBEq, RH, e_h1, e_h2, e_h3, e_h4, e_h5, e_h6, e_h7, h25']
      refine J.ite (fun h26 => ?_) (fun h26 => ?_)
      · have h26' := decide_eq_true h26
        conv => arg 1; simp (maxSteps := 1000000) (disch := first | assumption | decide | with_unfolding_all rfl | omega | (simp only [LN] <;> omega) | (simp only [RO, OF])) only [RR, RM, LN, TT, d29_at, ↓reduceIte, Nat.reduceEqDiff, Nat.reduceLT, Nat.reduceLeDiff, Nat.reduceAdd, Nat.reduceSub, Nat.reduceMul, Nat.reduceMod, Nat.reduceDiv, Nat.reduceBEq, RH, e_h1, e_h2, e_h3, e_h4, e_h5, e_h6, e_h7, h25', h26']
        refine J.jmp (t := ()) hj1 ?_ ?_
        · first | rfl | (simp only [LN, NN, NT])
        · first | (simp (disch := first | assumption | decide | with_unfolding_all rfl | omega | (simp only [LN] <;> omega) | (simp only [RO, OF])) only [RR, ↓reduceIte, Nat.reduceEqDiff, Nat.reduceLT, Nat.reduceLeDiff, Nat.reduceAdd, Nat.reduceSub, Nat.reduceMul, Nat.reduceMod, Nat.reduceDiv, Nat.reduceBEq, LN, NN, NT]; done) | rfl
      · have h26' := decide_eq_false h26
        refine J.some ?_
        simp (disch := first | assumption | decide | with_unfolding_all rfl | omega | (simp only [LN] <;> omega) | (simp only [RO, OF])) only [RR, RM, LN, TT, d29_at, ↓reduceIte, Nat.reduceEqDiff, Nat.reduceLT, Nat.reduceLeDiff, Nat.reduceAdd, Nat.reduceSub, Nat.reduceMul, Nat.reduceMod, Nat.reduceDiv, Nat.reduceBEq, RH, e_h1, e_h2, e_h3, e_h4, e_h5, e_h6, e_h7, h25', h26', FF, LN, NN, NT]
    · have h25' := decide_eq_false h25
      conv => arg 1; simp (maxSteps := 1000000) (disch := first | assumption | decide | with_unfolding_all rfl | omega | (simp only [LN] <;> omega) | (simp only [RO, OF])) only [RR, RM, LN, TT, d29_at, ↓reduceIte, Nat.reduceEqDiff, Nat.reduceLT, Nat.reduceLeDiff, Nat.reduceAdd, Nat.reduceSub, Nat.reduceMul, Nat.reduceMod, Nat.reduceDiv, Nat.reduceBEq, RH, e_h1, e_h2, e_h3, e_h4, e_h5, e_h6, e_h7, h25']
      refine J.eq ret_seq ?_
      refine J.some ?_
      simp (disch := first | assumption | decide | with_unfolding_all rfl | omega | (simp only [LN] <;> omega) | (simp only [RO, OF])) only [RR, RM, LN, TT, d29_at, ↓reduceIte, Nat.reduceEqDiff, Nat.reduceLT, Nat.reduceLeDiff, Nat.reduceAdd, Nat.reduceSub, Nat.reduceMul, Nat.reduceMod, Nat.reduceDiv, Nat.reduceBEq, RH, e_h1, e_h2, e_h3, e_h4, e_h5, e_h6, e_h7, h25', FF, LN, NN, NT]
noncomputable def t29 (fu : Nat) : CallP := orE 37 (mkC (fun (t : T_Tensor × (List Int) × (List Int)) => ([.agg (c_T_Tensor t.1), .arr t.2.1.length (lm (ik .i64) t.2.1), .arr t.2.2.length (lm (ik .i64) t.2.2)] : List AV)) (fun t => tens_Pick fu t.1 t.2.1 t.2.2) e37) (orE 39 (mkC (fun (t : T_Tensor) => ([.agg (c_T_Tensor t)] : List AV)) (fun t => tens_Ints fu t) e39) (orE 41 (mkC (fun (t : T_Tensor) => ([.agg (c_T_Tensor t)] : List AV)) (fun t => tens_Bytes fu t) e41) (orE 43 (mkC (fun (t : Int × (List Int) × (List Int)) => ([.v (.int .i64 t.1), .arr t.2.1.length (lm (ik .i64) t.2.1), .arr t.2.2.length (lm (ik .u8) t.2.2)] : List AV)) (fun t => tens_FromBytes fu t.1 t.2.1 t.2.2) e43) (orE 46 (mkC (fun (t : T_Tensor) => ([.agg (c_T_Tensor t)] : List AV)) (fun t => tens_Canon fu t) e46) (orE 48 (mkC (fun (t : T_Tensor) => ([.agg (c_T_Tensor t)] : List AV)) (fun t => tens_Check fu t) e48) (orE 32 (mkC (fun (t : T_Tensor × T_Tensor) => ([.agg (c_T_Tensor t.1), .agg (c_T_Tensor t.2)] : List AV)) (fun t => ref05_Same fu t.1 t.2) e32) (orE 23 (mkC (fun (t : (List Int) × (List Int)) => ([.arr t.1.length (lm (ik .i64) t.1), .arr t.2.length (lm (ik .i64) t.2)] : List AV)) (fun t => ref04_SameInts fu t.1 t.2) e23) (noP))))))))
theorem t29_ok (fu : Nat) : CpOK Try.prog (t29 fu ) := orE_ok (orE_ok (orE_ok (orE_ok (orE_ok (orE_ok (orE_ok (orE_ok (noP_ok) (mkC_ok (fun t b h => ok23 fu t.1 t.2  b h))) (mkC_ok (fun t b h => ok32 fu t.1 t.2  b h))) (mkC_ok (fun t b h => ok48 fu t  b h))) (mkC_ok (fun t b h => ok46 fu t  b h))) (mkC_ok (fun t b h => ok43 fu t.1 t.2.1 t.2.2  b h))) (mkC_ok (fun t b h => ok41 fu t  b h))) (mkC_ok (fun t b h => ok39 fu t  b h))) (mkC_ok (fun t b h => ok37 fu t.1 t.2.1 t.2.2  b h))
theorem ok29 (fu : Nat) (r) (h : law05_awake fu = some r) : PureOK Try.prog 29 [] (e29 r) :=
  pure_J mixed (cp := t29 fu ) (t29_ok fu  ) noI_ok i29 (w29 _ fu   (fun a0 a1 a2 r h => orE_hit (mkC_at (a := (a0, a1, a2)) (by intro a b h; first | (exact rfl) | (simp only [INJ, c_inj_iff c_T_Tensor_inj, lm_inj_iff (inj_avf (inj_fm c_T_Tensor_len (by decide) c_T_Tensor_inj)), fm_inj_iff (inj_fm c_T_Tensor_len (by decide) c_T_Tensor_inj)] at h; first | exact h | (simp_all [Prod.ext_iff]) )) h)) (fun a0 r h => orE_miss (by decide) (orE_hit (mkC_at (a := a0) (by intro a b h; first | (exact rfl) | (simp only [INJ, c_inj_iff c_T_Tensor_inj, lm_inj_iff (inj_avf (inj_fm c_T_Tensor_len (by decide) c_T_Tensor_inj)), fm_inj_iff (inj_fm c_T_Tensor_len (by decide) c_T_Tensor_inj)] at h; first | exact h | (simp_all [Prod.ext_iff]) )) h))) (fun a0 r h => orE_miss (by decide) (orE_miss (by decide) (orE_hit (mkC_at (a := a0) (by intro a b h; first | (exact rfl) | (simp only [INJ, c_inj_iff c_T_Tensor_inj, lm_inj_iff (inj_avf (inj_fm c_T_Tensor_len (by decide) c_T_Tensor_inj)), fm_inj_iff (inj_fm c_T_Tensor_len (by decide) c_T_Tensor_inj)] at h; first | exact h | (simp_all [Prod.ext_iff]) )) h)))) (fun a0 a1 a2 r h => orE_miss (by decide) (orE_miss (by decide) (orE_miss (by decide) (orE_hit (mkC_at (a := (a0, a1, a2)) (by intro a b h; first | (exact rfl) | (simp only [INJ, c_inj_iff c_T_Tensor_inj, lm_inj_iff (inj_avf (inj_fm c_T_Tensor_len (by decide) c_T_Tensor_inj)), fm_inj_iff (inj_fm c_T_Tensor_len (by decide) c_T_Tensor_inj)] at h; first | exact h | (simp_all [Prod.ext_iff]) )) h))))) (fun a0 r h => orE_miss (by decide) (orE_miss (by decide) (orE_miss (by decide) (orE_miss (by decide) (orE_hit (mkC_at (a := a0) (by intro a b h; first | (exact rfl) | (simp only [INJ, c_inj_iff c_T_Tensor_inj, lm_inj_iff (inj_avf (inj_fm c_T_Tensor_len (by decide) c_T_Tensor_inj)), fm_inj_iff (inj_fm c_T_Tensor_len (by decide) c_T_Tensor_inj)] at h; first | exact h | (simp_all [Prod.ext_iff]) )) h)))))) (fun a0 r h => orE_miss (by decide) (orE_miss (by decide) (orE_miss (by decide) (orE_miss (by decide) (orE_miss (by decide) (orE_hit (mkC_at (a := a0) (by intro a b h; first | (exact rfl) | (simp only [INJ, c_inj_iff c_T_Tensor_inj, lm_inj_iff (inj_avf (inj_fm c_T_Tensor_len (by decide) c_T_Tensor_inj)), fm_inj_iff (inj_fm c_T_Tensor_len (by decide) c_T_Tensor_inj)] at h; first | exact h | (simp_all [Prod.ext_iff]) )) h))))))) (fun a0 a1 r h => orE_miss (by decide) (orE_miss (by decide) (orE_miss (by decide) (orE_miss (by decide) (orE_miss (by decide) (orE_miss (by decide) (orE_hit (mkC_at (a := (a0, a1)) (by intro a b h; first | (exact rfl) | (simp only [INJ, c_inj_iff c_T_Tensor_inj, lm_inj_iff (inj_avf (inj_fm c_T_Tensor_len (by decide) c_T_Tensor_inj)), fm_inj_iff (inj_fm c_T_Tensor_len (by decide) c_T_Tensor_inj)] at h; first | exact h | (simp_all [Prod.ext_iff]) )) h)))))))) (fun a0 a1 r h => orE_miss (by decide) (orE_miss (by decide) (orE_miss (by decide) (orE_miss (by decide) (orE_miss (by decide) (orE_miss (by decide) (orE_miss (by decide) (orE_hit (mkC_at (a := (a0, a1)) (by intro a b h; first | (exact rfl) | (simp only [INJ, c_inj_iff c_T_Tensor_inj, lm_inj_iff (inj_avf (inj_fm c_T_Tensor_len (by decide) c_T_Tensor_inj)), fm_inj_iff (inj_fm c_T_Tensor_len (by decide) c_T_Tensor_inj)] at h; first | exact h | (simp_all [Prod.ext_iff]) )) h)))))))))) h
theorem awake29 : PureOK Try.prog 29 [] (.v (.bool true)) := ok29 64 true (by kernel_rfl)
/-! 16: lattice/latticeref04.Size -/
def d16 : List (Nat × List Nat) := [(0, [2, 3]), (0, [6]), (0, []), (0, []), (0, [9, 10, 11]), (0, [0, 8]), (0, []), (0, []), (0, [12, 13, 14]), (0, []), (0, [16, 17]), (0, []), (0, [18, 19, 20, 21]), (0, []), (0, []), (0, []), (0, [23, 24, 25, 26, 27, 28, 29, 30]), (0, []), (0, [31, 32, 33, 34, 35, 36, 37, 38]), (0, []), (0, [5]), (0, []), (0, []), (0, []), (0, [4]), (0, []), (0, []), (0, []), (0, []), (0, []), (0, []), (0, []), (0, [41, 42, 43]), (0, []), (0, [45, 46]), (0, []), (0, [47, 48, 49, 50, 51, 52, 53, 54, 55, 56, 57, 58, 59]), (0, []), (0, []), (0, []), (0, [61, 62, 63, 64, 65, 66]), (0, []), (0, [7, 67])]
def d16_at := And.intro (show d16.getD 0 (0, []) = (0, [2, 3]) from rfl) <| And.intro (show d16.getD 1 (0, []) = (0, [6]) from rfl) <| And.intro (show d16.getD 2 (0, []) = (0, []) from rfl) <| And.intro (show d16.getD 3 (0, []) = (0, []) from rfl) <| And.intro (show d16.getD 4 (0, []) = (0, [9, 10, 11]) from rfl) <| And.intro (show d16.getD 5 (0, []) = (0, [0, 8]) from rfl) <| And.intro (show d16.getD 6 (0, []) = (0, []) from rfl) <| And.intro (show d16.getD 7 (0, []) = (0, []) from rfl) <| And.intro (show d16.getD 8 (0, []) = (0, [12, 13, 14]) from rfl) <| And.intro (show d16.getD 9 (0, []) = (0, []) from rfl) <| And.intro (show d16.getD 10 (0, []) = (0, [16, 17]) from rfl) <| And.intro (show d16.getD 11 (0, []) = (0, []) from rfl) <| And.intro (show d16.getD 12 (0, []) = (0, [18, 19, 20, 21]) from rfl) <| And.intro (show d16.getD 13 (0, []) = (0, []) from rfl) <| And.intro (show d16.getD 14 (0, []) = (0, []) from rfl) <| And.intro (show d16.getD 15 (0, []) = (0, []) from rfl) <| And.intro (show d16.getD 16 (0, []) = (0, [23, 24, 25, 26, 27, 28, 29, 30]) from rfl) <| And.intro (show d16.getD 17 (0, []) = (0, []) from rfl) <| And.intro (show d16.getD 18 (0, []) = (0, [31, 32, 33, 34, 35, 36, 37, 38]) from rfl) <| And.intro (show d16.getD 19 (0, []) = (0, []) from rfl) <| And.intro (show d16.getD 20 (0, []) = (0, [5]) from rfl) <| And.intro (show d16.getD 21 (0, []) = (0, []) from rfl) <| And.intro (show d16.getD 22 (0, []) = (0, []) from rfl) <| And.intro (show d16.getD 23 (0, []) = (0, []) from rfl) <| And.intro (show d16.getD 24 (0, []) = (0, [4]) from rfl) <| And.intro (show d16.getD 25 (0, []) = (0, []) from rfl) <| And.intro (show d16.getD 26 (0, []) = (0, []) from rfl) <| And.intro (show d16.getD 27 (0, []) = (0, []) from rfl) <| And.intro (show d16.getD 28 (0, []) = (0, []) from rfl) <| And.intro (show d16.getD 29 (0, []) = (0, []) from rfl) <| And.intro (show d16.getD 30 (0, []) = (0, []) from rfl) <| And.intro (show d16.getD 31 (0, []) = (0, []) from rfl) <| And.intro (show d16.getD 32 (0, []) = (0, [41, 42, 43]) from rfl) <| And.intro (show d16.getD 33 (0, []) = (0, []) from rfl) <| And.intro (show d16.getD 34 (0, []) = (0, [45, 46]) from rfl) <| And.intro (show d16.getD 35 (0, []) = (0, []) from rfl) <| And.intro (show d16.getD 36 (0, []) = (0, [47, 48, 49, 50, 51, 52, 53, 54, 55, 56, 57, 58, 59]) from rfl) <| And.intro (show d16.getD 37 (0, []) = (0, []) from rfl) <| And.intro (show d16.getD 38 (0, []) = (0, []) from rfl) <| And.intro (show d16.getD 39 (0, []) = (0, []) from rfl) <| And.intro (show d16.getD 40 (0, []) = (0, [61, 62, 63, 64, 65, 66]) from rfl) <| And.intro (show d16.getD 41 (0, []) = (0, []) from rfl) <| (show d16.getD 42 (0, []) = (0, [7, 67]) from rfl)
theorem i16 : finfo Try.prog 16 d16 = some ⟨bodyOf Try.f16, [.tmp 2, .tmp 3], [3, 25]⟩ := finfo_at Try.func16 rfl (by kernel_rfl) (by kernel_rfl)
def e16 : (Int × Int) → AV := fun r => .tuple [.v (.int .i64 r.1), .v (.int .i64 r.2)]
set_option maxHeartbeats 1000000 in
theorem w16 (cp : CallP) (fu : Nat) (x1 : List Int) : J (go Try.prog noC cp noI 0 [] d16 fu (fin Try.prog [.tmp 2, .tmp 3] [3, 25]) (bodyOf Try.f16) (initE 0 [.arr x1.length (lm (ik .i64) x1)]) [] []) (ref04_Size fu x1) e16 := by
  unfold ref04_Size e16
  conv => arg 1; simp (maxSteps := 1000000) (disch := first | assumption | decide | with_unfolding_all rfl | omega | (simp only [LN] <;> omega) | (simp only [RO, OF])) only [bodyOf, Try.f16, RR, RM, LN, TT, d16_at, ↓reduceIte, Nat.reduceEqDiff, Nat.reduceLT, Nat.reduceLeDiff, Nat.reduceAdd, Nat.reduceSub, Nat.reduceMul, Nat.reduceMod, Nat.reduceDiv, Nat.reduceBEq, RH]
  refine J.joinS (fun (t : Bool × Bool) => ([(0, .arr x1.length (lm (ik .i64) x1)), (4, .v (.bool t.1)), (5, .v (.bool t.2))], [])) (fun t => ref04_Size_k1 fu x1 t.1 t.2) ?_ (fun hj1 => ?_)
  · rintro ⟨x2, x3⟩
    show J _ (ref04_Size_k1 fu x1 x2 x3) _
    unfold ref04_Size_k1
    refine J.eq go_seq ?_
    conv => arg 1; simp (maxSteps := 1000000) (disch := first | assumption | decide | with_unfolding_all rfl | omega | (simp only [LN] <;> omega) | (simp only [RO, OF])) only [RR, RM, LN, TT, d16_at, ↓reduceIte, Nat.reduceEqDiff, Nat.reduceLT, Nat.reduceLeDiff, Nat.reduceAdd, Nat.reduceSub, Nat.reduceMul, Nat.reduceMod, Nat.reduceDiv, Nat.reduceBEq, RH]
    refine J.ite (fun h1 => ?_) (fun h1 => ?_)
    · have h1' : x3 = true := h1
      refine J.some ?_
      simp (disch := first | assumption | decide | with_unfolding_all rfl | omega | (simp only [LN] <;> omega) | (simp only [RO, OF])) only [RR, RM, LN, TT, d16_at, ↓reduceIte, Nat.reduceEqDiff, Nat.reduceLT, Nat.reduceLeDiff, Nat.reduceAdd, Nat.reduceSub, Nat.reduceMul, Nat.reduceMod, Nat.reduceDiv, Nat.reduceBEq, RH, h1', FF, LN, NN, NT]
    · have h1' : x3 = false := Bool.eq_false_iff.2 h1
      conv => arg 1; simp (maxSteps := 1000000) (disch := first | assumption | decide | with_unfolding_all rfl | omega | (simp only [LN] <;> omega) | (simp only [RO, OF])) only [RR, RM, LN, TT, d16_at, ↓reduceIte, Nat.reduceEqDiff, Nat.reduceLT, Nat.reduceLeDiff, Nat.reduceAdd, Nat.reduceSub, Nat.reduceMul, Nat.reduceMod, Nat.reduceDiv, Nat.reduceBEq, RH, h1']
      refine J.eq ret_seq ?_
      refine J.eq go_seq ?_
      conv => arg 1; simp (maxSteps := 1000000) (disch := first | assumption | decide | with_unfolding_all rfl | omega | (simp only [LN] <;> omega) | (simp only [RO, OF])) only [RR, RM, LN, TT, d16_at, ↓reduceIte, Nat.reduceEqDiff, Nat.reduceLT, Nat.reduceLeDiff, Nat.reduceAdd, Nat.reduceSub, Nat.reduceMul, Nat.reduceMod, Nat.reduceDiv, Nat.reduceBEq, RH, h1']
      refine J.ite (fun h2 => ?_) (fun h2 => ?_)
      · have h2' : x2 = true := h2
        refine J.some ?_
        simp (disch := first | assumption | decide | with_unfolding_all rfl | omega | (simp only [LN] <;> omega) | (simp only [RO, OF])) only [RR, RM, LN, TT, d16_at, ↓reduceIte, Nat.reduceEqDiff, Nat.reduceLT, Nat.reduceLeDiff, Nat.reduceAdd, Nat.reduceSub, Nat.reduceMul, Nat.reduceMod, Nat.reduceDiv, Nat.reduceBEq, RH, h1', h2', FF, LN, NN, NT]
      · have h2' : x2 = false := Bool.eq_false_iff.2 h2
        conv => arg 1; simp (maxSteps := 1000000) (disch := first | assumption | decide | with_unfolding_all rfl | omega | (simp only [LN] <;> omega) | (simp only [RO, OF])) only [RR, RM, LN, TT, d16_at, ↓reduceIte, Nat.reduceEqDiff, Nat.reduceLT, Nat.reduceLeDiff, Nat.reduceAdd, Nat.reduceSub, Nat.reduceMul, Nat.reduceMod, Nat.reduceDiv, Nat.reduceBEq, RH, h1', h2']
        refine J.eq ret_seq ?_
        conv => arg 1; simp (maxSteps := 1000000) (disch := first | assumption | decide | with_unfolding_all rfl | omega | (simp only [LN] <;> omega) | (simp only [RO, OF])) only [RR, RM, LN, TT, d16_at, ↓reduceIte, Nat.reduceEqDiff, Nat.reduceLT, Nat.reduceLeDiff, Nat.reduceAdd, Nat.reduceSub, Nat.reduceMul, Nat.reduceMod, Nat.reduceDiv, Nat.reduceBEq, RH, h1', h2']
        refine J.eq go_seq ?_
        conv => arg 1; simp (maxSteps := 1000000) (disch := first | assumption | decide | with_unfolding_all rfl | omega | (simp only [LN] <;> omega) | (simp only [RO, OF])) only [RR, RM, LN, TT, d16_at, ↓reduceIte, Nat.reduceEqDiff, Nat.reduceLT, Nat.reduceLeDiff, Nat.reduceAdd, Nat.reduceSub, Nat.reduceMul, Nat.reduceMod, Nat.reduceDiv, Nat.reduceBEq, RH, h1', h2']
        unfold ref04_Size_W1
        refine J.loop (fun (s : Int × Int) => ([(0, .arr x1.length (lm (ik .i64) x1)), (7, .v (.int .i64 s.1)), (8, .v (.int .i64 s.2))], [])) (fun next s => ref04_Size_L1 fu x1 (fun x6 x7 => next (x6, x7)) s.1 s.2) (s0 := (1, 0)) ?_ ?_ ?_
        · first | rfl | (simp only [LN, NN, NT])
        · first | (simp (disch := first | assumption | decide | with_unfolding_all rfl | omega | (simp only [LN] <;> omega) | (simp only [RO, OF])) only [RR, ↓reduceIte, Nat.reduceEqDiff, Nat.reduceLT, Nat.reduceLeDiff, Nat.reduceAdd, Nat.reduceSub, Nat.reduceMul, Nat.reduceMod, Nat.reduceDiv, Nat.reduceBEq, LN, NN, NT]; done) | rfl
        rintro next k1 hn1 ⟨x6, x7⟩
        let nx1 : Int → Int → Option (Int × Int) := (fun x6 x7 => next (x6, x7))
        show J _ (ref04_Size_L1 fu x1 nx1 x6 x7) _
        unfold ref04_Size_L1
        refine J.eq go_seq ?_
        conv => arg 1; simp (maxSteps := 1000000) (disch := first | assumption | decide | with_unfolding_all rfl | omega | (simp only [LN] <;> omega) | (simp only [RO, OF])) only [RR, RM, LN, TT, d16_at, ↓reduceIte, Nat.reduceEqDiff, Nat.reduceLT, Nat.reduceLeDiff, Nat.reduceAdd, Nat.reduceSub, Nat.reduceMul, Nat.reduceMod, Nat.reduceDiv, Nat.reduceBEq, RH, h1', h2']
        refine J.ite (fun h3 => ?_) (fun h3 => ?_)
        · have h3' := decide_eq_true h3
          have h3'' : decide ((x1.length : Int) ≤ x7) = false := decide_eq_false (by omega)
          conv => arg 1; simp (maxSteps := 1000000) (disch := first | assumption | decide | with_unfolding_all rfl | omega | (simp only [LN] <;> omega) | (simp only [RO, OF])) only [RR, RM, LN, TT, d16_at, ↓reduceIte, Nat.reduceEqDiff, Nat.reduceLT, Nat.reduceLeDiff, Nat.reduceAdd, Nat.reduceSub, Nat.reduceMul, Nat.reduceMod, Nat.reduceDiv, Nat.reduceBEq, RH, h1', h2', h3'', h3']
          refine J.eq ret_seq ?_
          refine J.eq go_seq ?_
          conv => arg 1; simp (maxSteps := 1000000) (disch := first | assumption | decide | with_unfolding_all rfl | omega | (simp only [LN] <;> omega) | (simp only [RO, OF])) only [RR, RM, LN, TT, d16_at, ↓reduceIte, Nat.reduceEqDiff, Nat.reduceLT, Nat.reduceLeDiff, Nat.reduceAdd, Nat.reduceSub, Nat.reduceMul, Nat.reduceMod, Nat.reduceDiv, Nat.reduceBEq, RH, h1', h2', h3'', h3']
          refine J.joinS (fun (t : Unit) => ([(0, .arr x1.length (lm (ik .i64) x1)), (7, .v (.int .i64 x6)), (8, .v (.int .i64 x7))], [])) (fun t => ref04_Size_k2 fu nx1 x1 x6 x7) ?_ (fun hj2 => ?_)
          · rintro ⟨⟩
            show J _ (ref04_Size_k2 fu nx1 x1 x6 x7) _
            unfold ref04_Size_k2
            refine J.at fun x10 h4 h5 h6 => ?_
            conv => arg 1; simp (maxSteps := 1000000) (disch := first | assumption | decide | with_unfolding_all rfl | omega | (simp only [LN] <;> omega) | (simp only [RO, OF])) only [RR, RM, LN, TT, d16_at, ↓reduceIte, Nat.reduceEqDiff, Nat.reduceLT, Nat.reduceLeDiff, Nat.reduceAdd, Nat.reduceSub, Nat.reduceMul, Nat.reduceMod, Nat.reduceDiv, Nat.reduceBEq, RH, h1', h2', h3'', h3', lm_ik h6]
            refine J.eq ret_seq ?_
            conv => arg 1; simp (maxSteps := 1000000) (disch := first | assumption | decide | with_unfolding_all rfl | omega | (simp only [LN] <;> omega) | (simp only [RO, OF])) only [RR, RM, LN, TT, d16_at, ↓reduceIte, Nat.reduceEqDiff, Nat.reduceLT, Nat.reduceLeDiff, Nat.reduceAdd, Nat.reduceSub, Nat.reduceMul, Nat.reduceMod, Nat.reduceDiv, Nat.reduceBEq, RH, h1', h2', h3'', h3', lm_ik h6]
            refine J.next (s := (wk .i64 (x6 * x10), wk .i64 (x7 + 1))) hn1 ?_ ?_
            · first | rfl | (simp only [LN, NN, NT])
            · first | (simp (disch := first | assumption | decide | with_unfolding_all rfl | omega | (simp only [LN] <;> omega) | (simp only [RO, OF])) only [RR, ↓reduceIte, Nat.reduceEqDiff, Nat.reduceLT, Nat.reduceLeDiff, Nat.reduceAdd, Nat.reduceSub, Nat.reduceMul, Nat.reduceMod, Nat.reduceDiv, Nat.reduceBEq, LN, NN, NT]; done) | rfl
          · refine J.eq go_seq ?_
            refine J.at fun x11 h7 h8 h9 => ?_
            conv => arg 1; simp (maxSteps := 1000000) (disch := first | assumption | decide | with_unfolding_all rfl | omega | (simp only [LN] <;> omega) | (simp only [RO, OF])) only [RR, RM, LN, TT, d16_at, ↓reduceIte, Nat.reduceEqDiff, Nat.reduceLT, Nat.reduceLeDiff, Nat.reduceAdd, Nat.reduceSub, Nat.reduceMul, Nat.reduceMod, Nat.reduceDiv, Nat.reduceBEq, RH, h1', h2', h3'', h3', lm_ik h9]
            refine J.ite (fun h10 => ?_) (fun h10 => ?_)
            · have h10' := decide_eq_true h10
              have h10'' : decide (x11 ≤ 4096) = false := decide_eq_false (by omega)
              conv => arg 1; simp (maxSteps := 1000000) (disch := first | assumption | decide | with_unfolding_all rfl | omega | (simp only [LN] <;> omega) | (simp only [RO, OF])) only [RR, RM, LN, TT, d16_at, ↓reduceIte, Nat.reduceEqDiff, Nat.reduceLT, Nat.reduceLeDiff, Nat.reduceAdd, Nat.reduceSub, Nat.reduceMul, Nat.reduceMod, Nat.reduceDiv, Nat.reduceBEq, RH, h1', h2', h3'', h3', lm_ik h9, h10'', h10']
              refine J.eq ret_seq ?_
              refine J.some ?_
              simp (disch := first | assumption | decide | with_unfolding_all rfl | omega | (simp only [LN] <;> omega) | (simp only [RO, OF])) only [RR, RM, LN, TT, d16_at, ↓reduceIte, Nat.reduceEqDiff, Nat.reduceLT, Nat.reduceLeDiff, Nat.reduceAdd, Nat.reduceSub, Nat.reduceMul, Nat.reduceMod, Nat.reduceDiv, Nat.reduceBEq, RH, h1', h2', h3'', h3', lm_ik h9, h10'', h10', FF, LN, NN, NT]
            · have h10' := decide_eq_false h10
              have h10'' : decide (x11 ≤ 4096) = true := decide_eq_true (by omega)
              conv => arg 1; simp (maxSteps := 1000000) (disch := first | assumption | decide | with_unfolding_all rfl | omega | (simp only [LN] <;> omega) | (simp only [RO, OF])) only [RR, RM, LN, TT, d16_at, ↓reduceIte, Nat.reduceEqDiff, Nat.reduceLT, Nat.reduceLeDiff, Nat.reduceAdd, Nat.reduceSub, Nat.reduceMul, Nat.reduceMod, Nat.reduceDiv, Nat.reduceBEq, RH, h1', h2', h3'', h3', lm_ik h9, h10'', h10']
              refine J.eq ret_seq ?_
              conv => arg 1; simp (maxSteps := 1000000) (disch := first | assumption | decide | with_unfolding_all rfl | omega | (simp only [LN] <;> omega) | (simp only [RO, OF])) only [RR, RM, LN, TT, d16_at, ↓reduceIte, Nat.reduceEqDiff, Nat.reduceLT, Nat.reduceLeDiff, Nat.reduceAdd, Nat.reduceSub, Nat.reduceMul, Nat.reduceMod, Nat.reduceDiv, Nat.reduceBEq, RH, h1', h2', h3'', h3', lm_ik h9, h10'', h10']
              refine J.ite (fun h11 => ?_) (fun h11 => ?_)
              · have h11' := decide_eq_true h11
                have h11'' : decide ((wk .i64 (x6 * x11)) ≤ 4096) = false := decide_eq_false (by omega)
                refine J.some ?_
                simp (disch := first | assumption | decide | with_unfolding_all rfl | omega | (simp only [LN] <;> omega) | (simp only [RO, OF])) only [RR, RM, LN, TT, d16_at, ↓reduceIte, Nat.reduceEqDiff, Nat.reduceLT, Nat.reduceLeDiff, Nat.reduceAdd, Nat.reduceSub, Nat.reduceMul, Nat.reduceMod, Nat.reduceDiv, Nat.reduceBEq, RH, h1', h2', h3'', h3', lm_ik h9, h10'', h10', h11'', h11', FF, LN, NN, NT]
              · have h11' := decide_eq_false h11
                have h11'' : decide ((wk .i64 (x6 * x11)) ≤ 4096) = true := decide_eq_true (by omega)
                conv => arg 1; simp (maxSteps := 1000000) (disch := first | assumption | decide | with_unfolding_all rfl | omega | (simp only [LN] <;> omega) | (simp only [RO, OF])) only [RR, RM, LN, TT, d16_at, ↓reduceIte, Nat.reduceEqDiff, Nat.reduceLT, Nat.reduceLeDiff, Nat.reduceAdd, Nat.reduceSub, Nat.reduceMul, Nat.reduceMod, Nat.reduceDiv, Nat.reduceBEq, RH, h1', h2', h3'', h3', lm_ik h9, h10'', h10', h11'', h11']
                refine J.jmp (t := ()) hj2 ?_ ?_
                · first | rfl | (simp only [LN, NN, NT])
                · first | (simp (disch := first | assumption | decide | with_unfolding_all rfl | omega | (simp only [LN] <;> omega) | (simp only [RO, OF])) only [RR, ↓reduceIte, Nat.reduceEqDiff, Nat.reduceLT, Nat.reduceLeDiff, Nat.reduceAdd, Nat.reduceSub, Nat.reduceMul, Nat.reduceMod, Nat.reduceDiv, Nat.reduceBEq, LN, NN, NT]; done) | rfl
        · have h3' := decide_eq_false h3
          have h3'' : decide ((x1.length : Int) ≤ x7) = true := decide_eq_true (by omega)
          conv => arg 1; simp (maxSteps := 1000000) (disch := first | assumption | decide | with_unfolding_all rfl | omega | (simp only [LN] <;> omega) | (simp only [RO, OF])) only [RR, RM, LN, TT, d16_at, ↓reduceIte, Nat.reduceEqDiff, Nat.reduceLT, Nat.reduceLeDiff, Nat.reduceAdd, Nat.reduceSub, Nat.reduceMul, Nat.reduceMod, Nat.reduceDiv, Nat.reduceBEq, RH, h1', h2', h3'', h3']
          refine J.eq ret_seq ?_
          refine J.some ?_
          simp (disch := first | assumption | decide | with_unfolding_all rfl | omega | (simp only [LN] <;> omega) | (simp only [RO, OF])) only [RR, RM, LN, TT, d16_at, ↓reduceIte, Nat.reduceEqDiff, Nat.reduceLT, Nat.reduceLeDiff, Nat.reduceAdd, Nat.reduceSub, Nat.reduceMul, Nat.reduceMod, Nat.reduceDiv, Nat.reduceBEq, RH, h1', h2', h3'', h3', FF, LN, NN, NT]
  · conv => arg 1; simp (maxSteps := 1000000) (disch := first | assumption | decide | with_unfolding_all rfl | omega | (simp only [LN] <;> omega) | (simp only [RO, OF])) only [RR, RM, LN, TT, d16_at, ↓reduceIte, Nat.reduceEqDiff, Nat.reduceLT, Nat.reduceLeDiff, Nat.reduceAdd, Nat.reduceSub, Nat.reduceMul, Nat.reduceMod, Nat.reduceDiv, Nat.reduceBEq, RH]
    unfold ref04_Size_W2
    refine J.loop (fun (s : Bool × Bool × Int) => ([(0, .arr x1.length (lm (ik .i64) x1)), (4, .v (.bool s.1)), (5, .v (.bool s.2.1)), (6, .v (.int .i64 s.2.2))], [])) (fun next s => ref04_Size_L2 fu x1 (fun x13 x14 x15 => next (x13, x14, x15)) s.1 s.2.1 s.2.2) (s0 := (false, decide (8 < (x1.length : Int)), 0)) ?_ ?_ ?_
    · first | rfl | (simp only [LN, NN, NT])
    · first | (simp (disch := first | assumption | decide | with_unfolding_all rfl | omega | (simp only [LN] <;> omega) | (simp only [RO, OF])) only [RR, ↓reduceIte, Nat.reduceEqDiff, Nat.reduceLT, Nat.reduceLeDiff, Nat.reduceAdd, Nat.reduceSub, Nat.reduceMul, Nat.reduceMod, Nat.reduceDiv, Nat.reduceBEq, LN, NN, NT]; done) | rfl
    rintro next k2 hn2 ⟨x13, x14, x15⟩
    let nx2 : Bool → Bool → Int → Option (Int × Int) := (fun x13 x14 x15 => next (x13, x14, x15))
    show J _ (ref04_Size_L2 fu x1 nx2 x13 x14 x15) _
    unfold ref04_Size_L2
    refine J.eq go_seq ?_
    conv => arg 1; simp (maxSteps := 1000000) (disch := first | assumption | decide | with_unfolding_all rfl | omega | (simp only [LN] <;> omega) | (simp only [RO, OF])) only [RR, RM, LN, TT, d16_at, ↓reduceIte, Nat.reduceEqDiff, Nat.reduceLT, Nat.reduceLeDiff, Nat.reduceAdd, Nat.reduceSub, Nat.reduceMul, Nat.reduceMod, Nat.reduceDiv, Nat.reduceBEq, RH]
    refine J.ite (fun h12 => ?_) (fun h12 => ?_)
    · have h12' := decide_eq_true h12
      have h12'' : decide ((x1.length : Int) ≤ x15) = false := decide_eq_false (by omega)
      conv => arg 1; simp (maxSteps := 1000000) (disch := first | assumption | decide | with_unfolding_all rfl | omega | (simp only [LN] <;> omega) | (simp only [RO, OF])) only [RR, RM, LN, TT, d16_at, ↓reduceIte, Nat.reduceEqDiff, Nat.reduceLT, Nat.reduceLeDiff, Nat.reduceAdd, Nat.reduceSub, Nat.reduceMul, Nat.reduceMod, Nat.reduceDiv, Nat.reduceBEq, RH, h12'', h12']
      refine J.eq ret_seq ?_
      refine J.eq go_seq ?_
      conv => arg 1; simp (maxSteps := 1000000) (disch := first | assumption | decide | with_unfolding_all rfl | omega | (simp only [LN] <;> omega) | (simp only [RO, OF])) only [RR, RM, LN, TT, d16_at, ↓reduceIte, Nat.reduceEqDiff, Nat.reduceLT, Nat.reduceLeDiff, Nat.reduceAdd, Nat.reduceSub, Nat.reduceMul, Nat.reduceMod, Nat.reduceDiv, Nat.reduceBEq, RH, h12'', h12']
      refine J.eq go_seq ?_
      refine J.at fun x18 h13 h14 h15 => ?_
      conv => arg 1; simp (maxSteps := 1000000) (disch := first | assumption | decide | with_unfolding_all rfl | omega | (simp only [LN] <;> omega) | (simp only [RO, OF])) only [RR, RM, LN, TT, d16_at, ↓reduceIte, Nat.reduceEqDiff, Nat.reduceLT, Nat.reduceLeDiff, Nat.reduceAdd, Nat.reduceSub, Nat.reduceMul, Nat.reduceMod, Nat.reduceDiv, Nat.reduceBEq, RH, h12'', h12', lm_ik h15]
      refine J.ite (fun h16 => ?_) (fun h16 => ?_)
      · have h16' := decide_eq_true h16
        have h16'' : decide (0 ≤ x18) = false := decide_eq_false (by omega)
        refine J.some ?_
        simp (disch := first | assumption | decide | with_unfolding_all rfl | omega | (simp only [LN] <;> omega) | (simp only [RO, OF])) only [RR, RM, LN, TT, d16_at, ↓reduceIte, Nat.reduceEqDiff, Nat.reduceLT, Nat.reduceLeDiff, Nat.reduceAdd, Nat.reduceSub, Nat.reduceMul, Nat.reduceMod, Nat.reduceDiv, Nat.reduceBEq, RH, h12'', h12', lm_ik h15, h16'', h16', FF, LN, NN, NT]
      · have h16' := decide_eq_false h16
        have h16'' : decide (0 ≤ x18) = true := decide_eq_true (by omega)
        conv => arg 1; simp (maxSteps := 1000000) (disch := first | assumption | decide | with_unfolding_all rfl | omega | (simp only [LN] <;> omega) | (simp only [RO, OF])) only [RR, RM, LN, TT, d16_at, ↓reduceIte, Nat.reduceEqDiff, Nat.reduceLT, Nat.reduceLeDiff, Nat.reduceAdd, Nat.reduceSub, Nat.reduceMul, Nat.reduceMod, Nat.reduceDiv, Nat.reduceBEq, RH, h12'', h12', lm_ik h15, h16'', h16']
        refine J.eq ret_seq ?_
        refine J.joinS (fun (t : Bool) => ([(0, .arr x1.length (lm (ik .i64) x1)), (4, .v (.bool t)), (5, .v (.bool x14)), (6, .v (.int .i64 x15))], [])) (fun t => ref04_Size_k3 fu nx2 x14 x15 x18 t) ?_ (fun hj3 => ?_)
        · rintro x19
          show J _ (ref04_Size_k3 fu nx2 x14 x15 x18 x19) _
          unfold ref04_Size_k3
          conv => arg 1; simp (maxSteps := 1000000) (disch := first | assumption | decide | with_unfolding_all rfl | omega | (simp only [LN] <;> omega) | (simp only [RO, OF])) only [RR, RM, LN, TT, d16_at, ↓reduceIte, Nat.reduceEqDiff, Nat.reduceLT, Nat.reduceLeDiff, Nat.reduceAdd, Nat.reduceSub, Nat.reduceMul, Nat.reduceMod, Nat.reduceDiv, Nat.reduceBEq, RH, h12'', h12', lm_ik h15, h16'', h16']
          refine J.ite (fun h17 => ?_) (fun h17 => ?_)
          · have h17' : x14 = true := h17
            conv => arg 1; simp (maxSteps := 1000000) (disch := first | assumption | decide | with_unfolding_all rfl | omega | (simp only [LN] <;> omega) | (simp only [RO, OF])) only [RR, RM, LN, TT, d16_at, ↓reduceIte, Nat.reduceEqDiff, Nat.reduceLT, Nat.reduceLeDiff, Nat.reduceAdd, Nat.reduceSub, Nat.reduceMul, Nat.reduceMod, Nat.reduceDiv, Nat.reduceBEq, RH, h12'', h12', lm_ik h15, h16'', h16', h17']
            refine J.eq ret_seq ?_
            conv => arg 1; simp (maxSteps := 1000000) (disch := first | assumption | decide | with_unfolding_all rfl | omega | (simp only [LN] <;> omega) | (simp only [RO, OF])) only [RR, RM, LN, TT, d16_at, ↓reduceIte, Nat.reduceEqDiff, Nat.reduceLT, Nat.reduceLeDiff, Nat.reduceAdd, Nat.reduceSub, Nat.reduceMul, Nat.reduceMod, Nat.reduceDiv, Nat.reduceBEq, RH, h12'', h12', lm_ik h15, h16'', h16', h17']
            refine J.next (s := (x19, true, wk .i64 (x15 + 1))) hn2 ?_ ?_
            · first | rfl | (simp only [LN, NN, NT])
            · first | (simp (disch := first | assumption | decide | with_unfolding_all rfl | omega | (simp only [LN] <;> omega) | (simp only [RO, OF])) only [RR, ↓reduceIte, Nat.reduceEqDiff, Nat.reduceLT, Nat.reduceLeDiff, Nat.reduceAdd, Nat.reduceSub, Nat.reduceMul, Nat.reduceMod, Nat.reduceDiv, Nat.reduceBEq, LN, NN, NT]; done) | rfl
          · have h17' : x14 = false := Bool.eq_false_iff.2 h17
            conv => arg 1; simp (maxSteps := 1000000) (disch := first | assumption | decide | with_unfolding_all rfl | omega | (simp only [LN] <;> omega) | (simp only [RO, OF])) only [RR, RM, LN, TT, d16_at, ↓reduceIte, Nat.reduceEqDiff, Nat.reduceLT, Nat.reduceLeDiff, Nat.reduceAdd, Nat.reduceSub, Nat.reduceMul, Nat.reduceMod, Nat.reduceDiv, Nat.reduceBEq, RH, h12'', h12', lm_ik h15, h16'', h16', h17']
            refine J.eq ret_seq ?_
            conv => arg 1; simp (maxSteps := 1000000) (disch := first | assumption | decide | with_unfolding_all rfl | omega | (simp only [LN] <;> omega) | (simp only [RO, OF])) only [RR, RM, LN, TT, d16_at, ↓reduceIte, Nat.reduceEqDiff, Nat.reduceLT, Nat.reduceLeDiff, Nat.reduceAdd, Nat.reduceSub, Nat.reduceMul, Nat.reduceMod, Nat.reduceDiv, Nat.reduceBEq, RH, h12'', h12', lm_ik h15, h16'', h16', h17']
            refine J.next (s := (x19, decide (4096 < x18), wk .i64 (x15 + 1))) hn2 ?_ ?_
            · first | rfl | (simp only [LN, NN, NT])
            · first | (simp (disch := first | assumption | decide | with_unfolding_all rfl | omega | (simp only [LN] <;> omega) | (simp only [RO, OF])) only [RR, ↓reduceIte, Nat.reduceEqDiff, Nat.reduceLT, Nat.reduceLeDiff, Nat.reduceAdd, Nat.reduceSub, Nat.reduceMul, Nat.reduceMod, Nat.reduceDiv, Nat.reduceBEq, LN, NN, NT]; done) | rfl
        · conv => arg 1; simp (maxSteps := 1000000) (disch := first | assumption | decide | with_unfolding_all rfl | omega | (simp only [LN] <;> omega) | (simp only [RO, OF])) only [RR, RM, LN, TT, d16_at, ↓reduceIte, Nat.reduceEqDiff, Nat.reduceLT, Nat.reduceLeDiff, Nat.reduceAdd, Nat.reduceSub, Nat.reduceMul, Nat.reduceMod, Nat.reduceDiv, Nat.reduceBEq, RH, h12'', h12', lm_ik h15, h16'', h16']
          refine J.ite (fun h18 => ?_) (fun h18 => ?_)
          · have h18' : x13 = true := h18
            conv => arg 1; simp (maxSteps := 1000000) (disch := first | assumption | decide | with_unfolding_all rfl | omega | (simp only [LN] <;> omega) | (simp only [RO, OF])) only [RR, RM, LN, TT, d16_at, ↓reduceIte, Nat.reduceEqDiff, Nat.reduceLT, Nat.reduceLeDiff, Nat.reduceAdd, Nat.reduceSub, Nat.reduceMul, Nat.reduceMod, Nat.reduceDiv, Nat.reduceBEq, RH, h12'', h12', lm_ik h15, h16'', h16', h18']
            refine J.jmp (t := true) hj3 ?_ ?_
            · first | rfl | (simp only [LN, NN, NT])
            · first | (simp (disch := first | assumption | decide | with_unfolding_all rfl | omega | (simp only [LN] <;> omega) | (simp only [RO, OF])) only [RR, ↓reduceIte, Nat.reduceEqDiff, Nat.reduceLT, Nat.reduceLeDiff, Nat.reduceAdd, Nat.reduceSub, Nat.reduceMul, Nat.reduceMod, Nat.reduceDiv, Nat.reduceBEq, LN, NN, NT]; done) | rfl
          · have h18' : x13 = false := Bool.eq_false_iff.2 h18
            conv => arg 1; simp (maxSteps := 1000000) (disch := first | assumption | decide | with_unfolding_all rfl | omega | (simp only [LN] <;> omega) | (simp only [RO, OF])) only [RR, RM, LN, TT, d16_at, ↓reduceIte, Nat.reduceEqDiff, Nat.reduceLT, Nat.reduceLeDiff, Nat.reduceAdd, Nat.reduceSub, Nat.reduceMul, Nat.reduceMod, Nat.reduceDiv, Nat.reduceBEq, RH, h12'', h12', lm_ik h15, h16'', h16', h18']
            refine J.jmp (t := decide (x18 = 0)) hj3 ?_ ?_
            · first | rfl | (simp only [LN, NN, NT])
            · first | (simp (disch := first | assumption | decide | with_unfolding_all rfl | omega | (simp only [LN] <;> omega) | (simp only [RO, OF])) only [RR, ↓reduceIte, Nat.reduceEqDiff, Nat.reduceLT, Nat.reduceLeDiff, Nat.reduceAdd, Nat.reduceSub, Nat.reduceMul, Nat.reduceMod, Nat.reduceDiv, Nat.reduceBEq, LN, NN, NT]; done) | rfl
    · have h12' := decide_eq_false h12
      have h12'' : decide ((x1.length : Int) ≤ x15) = true := decide_eq_true (by omega)
      conv => arg 1; simp (maxSteps := 1000000) (disch := first | assumption | decide | with_unfolding_all rfl | omega | (simp only [LN] <;> omega) | (simp only [RO, OF])) only [RR, RM, LN, TT, d16_at, ↓reduceIte, Nat.reduceEqDiff, Nat.reduceLT, Nat.reduceLeDiff, Nat.reduceAdd, Nat.reduceSub, Nat.reduceMul, Nat.reduceMod, Nat.reduceDiv, Nat.reduceBEq, RH, h12'', h12']
      refine J.jmp (t := (x13, x14)) hj1 ?_ ?_
      · first | rfl | (simp only [LN, NN, NT])
      · first | (simp (disch := first | assumption | decide | with_unfolding_all rfl | omega | (simp only [LN] <;> omega) | (simp only [RO, OF])) only [RR, ↓reduceIte, Nat.reduceEqDiff, Nat.reduceLT, Nat.reduceLeDiff, Nat.reduceAdd, Nat.reduceSub, Nat.reduceMul, Nat.reduceMod, Nat.reduceDiv, Nat.reduceBEq, LN, NN, NT]; done) | rfl
noncomputable def t16 (fu : Nat) : CallP := noP
theorem t16_ok (fu : Nat) : CpOK Try.prog (t16 fu ) := noP_ok
theorem ok16 (fu : Nat) (x1 : List Int) (r) (h : ref04_Size fu x1 = some r) : PureOK Try.prog 16 [.arr x1.length (lm (ik .i64) x1)] (e16 r) :=
  pure_J mixed (cp := t16 fu ) (t16_ok fu  ) noI_ok i16 (w16 _ fu x1  ) h
/-! 60: slices.Equal[[]int,int] -/
def d60 : List (Nat × List Nat) := [(0, [4]), (0, [0, 1, 12, 13]), (0, [6, 7, 8, 9]), (0, []), (0, []), (0, []), (0, [11]), (0, []), (0, []), (0, []), (0, [15]), (0, []), (9, [5, 16, 17, 18, 19, 20, 21, 22, 23]), (0, []), (0, []), (0, []), (0, [25]), (0, []), (0, [])]
def d60_at := And.intro (show d60.getD 0 (0, []) = (0, [4]) from rfl) <| And.intro (show d60.getD 1 (0, []) = (0, [0, 1, 12, 13]) from rfl) <| And.intro (show d60.getD 2 (0, []) = (0, [6, 7, 8, 9]) from rfl) <| And.intro (show d60.getD 3 (0, []) = (0, []) from rfl) <| And.intro (show d60.getD 4 (0, []) = (0, []) from rfl) <| And.intro (show d60.getD 5 (0, []) = (0, []) from rfl) <| And.intro (show d60.getD 6 (0, []) = (0, [11]) from rfl) <| And.intro (show d60.getD 7 (0, []) = (0, []) from rfl) <| And.intro (show d60.getD 8 (0, []) = (0, []) from rfl) <| And.intro (show d60.getD 9 (0, []) = (0, []) from rfl) <| And.intro (show d60.getD 10 (0, []) = (0, [15]) from rfl) <| And.intro (show d60.getD 11 (0, []) = (0, []) from rfl) <| And.intro (show d60.getD 12 (0, []) = (9, [5, 16, 17, 18, 19, 20, 21, 22, 23]) from rfl) <| And.intro (show d60.getD 13 (0, []) = (0, []) from rfl) <| And.intro (show d60.getD 14 (0, []) = (0, []) from rfl) <| And.intro (show d60.getD 15 (0, []) = (0, []) from rfl) <| And.intro (show d60.getD 16 (0, []) = (0, [25]) from rfl) <| And.intro (show d60.getD 17 (0, []) = (0, []) from rfl) <| (show d60.getD 18 (0, []) = (0, []) from rfl)
theorem i60 : finfo Try.prog 60 d60 = some ⟨bodyOf Try.f60, [.tmp 4], [4]⟩ := finfo_at Try.func60 rfl (by kernel_rfl) (by kernel_rfl)
def e60 : Bool → AV := fun r => .v (.bool r)
set_option maxHeartbeats 1000000 in
theorem w60 (cp : CallP) (fu : Nat) (x1 : List Int) (x2 : List Int) : J (go Try.prog noC cp noI 0 [] d60 fu (fin Try.prog [.tmp 4] [4]) (bodyOf Try.f60) (initE 0 [.arr x1.length (lm (ik .i64) x1), .arr x2.length (lm (ik .i64) x2)]) [] []) (slices_Equal_int fu x1 x2) e60 := by
  unfold slices_Equal_int e60
  conv => arg 1; simp (maxSteps := 1000000) (disch := first | assumption | decide | with_unfolding_all rfl | omega | (simp only [LN] <;> omega) | (simp only [RO, OF])) only [bodyOf, Try.f60, RR, RM, LN, TT, d60_at, ↓reduceIte, Nat.reduceEqDiff, Nat.reduceLT, Nat.reduceLeDiff, Nat.reduceAdd, Nat.reduceSub, Nat.reduceMul, Nat.reduceMod, Nat.reduceDiv, Nat.reduceBEq, RH]
  refine J.eq go_seq ?_
  conv => arg 1; simp (maxSteps := 1000000) (disch := first | assumption | decide | with_unfolding_all rfl | omega | (simp only [LN] <;> omega) | (simp only [RO, OF])) only [RR, RM, LN, TT, d60_at, ↓reduceIte, Nat.reduceEqDiff, Nat.reduceLT, Nat.reduceLeDiff, Nat.reduceAdd, Nat.reduceSub, Nat.reduceMul, Nat.reduceMod, Nat.reduceDiv, Nat.reduceBEq, RH]
  refine J.ite (fun h1 => ?_) (fun h1 => ?_)
  · have h1' := decide_eq_true h1
    conv => arg 1; simp (maxSteps := 1000000) (disch := first | assumption | decide | with_unfolding_all rfl | omega | (simp only [LN] <;> omega) | (simp only [RO, OF])) only [RR, RM, LN, TT, d60_at, ↓reduceIte, Nat.reduceEqDiff, Nat.reduceLT, Nat.reduceLeDiff, Nat.reduceAdd, Nat.reduceSub, Nat.reduceMul, Nat.reduceMod, Nat.reduceDiv, Nat.reduceBEq, RH, h1']
    refine J.eq ret_seq ?_
    refine J.eq go_seq ?_
    conv => arg 1; simp (maxSteps := 1000000) (disch := first | assumption | decide | with_unfolding_all rfl | omega | (simp only [LN] <;> omega) | (simp only [RO, OF])) only [RR, RM, LN, TT, d60_at, ↓reduceIte, Nat.reduceEqDiff, Nat.reduceLT, Nat.reduceLeDiff, Nat.reduceAdd, Nat.reduceSub, Nat.reduceMul, Nat.reduceMod, Nat.reduceDiv, Nat.reduceBEq, RH, h1']
    unfold slices_Equal_int_W1
    refine J.loop (fun (s : Int) => ([(0, .arr x1.length (lm (ik .i64) x1)), (1, .arr x2.length (lm (ik .i64) x2)), (12, .v (.int .i64 (x1.length : Int))), (13, .v (.int .i64 s))], [])) (fun next s => slices_Equal_int_L1 fu x1 x2 next s) (s0 := 0) ?_ ?_ ?_
    · first | rfl | (simp only [LN, NN, NT])
    · first | (simp (disch := first | assumption | decide | with_unfolding_all rfl | omega | (simp only [LN] <;> omega) | (simp only [RO, OF])) only [RR, ↓reduceIte, Nat.reduceEqDiff, Nat.reduceLT, Nat.reduceLeDiff, Nat.reduceAdd, Nat.reduceSub, Nat.reduceMul, Nat.reduceMod, Nat.reduceDiv, Nat.reduceBEq, LN, NN, NT]; done) | rfl
    rintro nx1 k1 hn1 x5
    show J _ (slices_Equal_int_L1 fu x1 x2 nx1 x5) _
    unfold slices_Equal_int_L1
    conv => arg 1; simp (maxSteps := 1000000) (disch := first | assumption | decide | with_unfolding_all rfl | omega | (simp only [LN] <;> omega) | (simp only [RO, OF])) only [RR, RM, LN, TT, d60_at, ↓reduceIte, Nat.reduceEqDiff, Nat.reduceLT, Nat.reduceLeDiff, Nat.reduceAdd, Nat.reduceSub, Nat.reduceMul, Nat.reduceMod, Nat.reduceDiv, Nat.reduceBEq, RH, h1']
    refine J.eq go_seq ?_
    conv => arg 1; simp (maxSteps := 1000000) (disch := first | assumption | decide | with_unfolding_all rfl | omega | (simp only [LN] <;> omega) | (simp only [RO, OF])) only [RR, RM, LN, TT, d60_at, ↓reduceIte, Nat.reduceEqDiff, Nat.reduceLT, Nat.reduceLeDiff, Nat.reduceAdd, Nat.reduceSub, Nat.reduceMul, Nat.reduceMod, Nat.reduceDiv, Nat.reduceBEq, RH, h1']
    refine J.ite (fun h2 => ?_) (fun h2 => ?_)
    · have h2' := decide_eq_true h2
      have h2'' : decide ((x1.length : Int) ≤ x5) = false := decide_eq_false (by omega)
      conv => arg 1; simp (maxSteps := 1000000) (disch := first | assumption | decide | with_unfolding_all rfl | omega | (simp only [LN] <;> omega) | (simp only [RO, OF])) only [RR, RM, LN, TT, d60_at, ↓reduceIte, Nat.reduceEqDiff, Nat.reduceLT, Nat.reduceLeDiff, Nat.reduceAdd, Nat.reduceSub, Nat.reduceMul, Nat.reduceMod, Nat.reduceDiv, Nat.reduceBEq, RH, h1', h2'', h2']
      refine J.eq ret_seq ?_
      refine J.eq go_seq ?_
      refine J.at fun x8 h3 h4 h5 => ?_
      refine J.at fun x9 h6 h7 h8 => ?_
      conv => arg 1; simp (maxSteps := 1000000) (disch := first | assumption | decide | with_unfolding_all rfl | omega | (simp only [LN] <;> omega) | (simp only [RO, OF])) only [RR, RM, LN, TT, d60_at, ↓reduceIte, Nat.reduceEqDiff, Nat.reduceLT, Nat.reduceLeDiff, Nat.reduceAdd, Nat.reduceSub, Nat.reduceMul, Nat.reduceMod, Nat.reduceDiv, Nat.reduceBEq, RH, h1', h2'', h2', lm_ik h5, lm_ik h8]
      refine J.ite (fun h9 => ?_) (fun h9 => ?_)
      · have h9' := decide_eq_true h9
        conv => arg 1; simp (maxSteps := 1000000) (disch := first | assumption | decide | with_unfolding_all rfl | omega | (simp only [LN] <;> omega) | (simp only [RO, OF])) only [RR, RM, LN, TT, d60_at, ↓reduceIte, Nat.reduceEqDiff, Nat.reduceLT, Nat.reduceLeDiff, Nat.reduceAdd, Nat.reduceSub, Nat.reduceMul, Nat.reduceMod, Nat.reduceDiv, Nat.reduceBEq, RH, h1', h2'', h2', lm_ik h5, lm_ik h8, h9']
        refine J.eq ret_seq ?_
        conv => arg 1; simp (maxSteps := 1000000) (disch := first | assumption | decide | with_unfolding_all rfl | omega | (simp only [LN] <;> omega) | (simp only [RO, OF])) only [RR, RM, LN, TT, d60_at, ↓reduceIte, Nat.reduceEqDiff, Nat.reduceLT, Nat.reduceLeDiff, Nat.reduceAdd, Nat.reduceSub, Nat.reduceMul, Nat.reduceMod, Nat.reduceDiv, Nat.reduceBEq, RH, h1', h2'', h2', lm_ik h5, lm_ik h8, h9']
        refine J.next (s := wk .i64 (x5 + 1)) hn1 ?_ ?_
        · first | rfl | (simp only [LN, NN, NT])
        · first | (simp (disch := first | assumption | decide | with_unfolding_all rfl | omega | (simp only [LN] <;> omega) | (simp only [RO, OF])) only [RR, ↓reduceIte, Nat.reduceEqDiff, Nat.reduceLT, Nat.reduceLeDiff, Nat.reduceAdd, Nat.reduceSub, Nat.reduceMul, Nat.reduceMod, Nat.reduceDiv, Nat.reduceBEq, LN, NN, NT]; done) | rfl
      · have h9' := decide_eq_false h9
        refine J.some ?_
        simp (disch := first | assumption | decide | with_unfolding_all rfl | omega | (simp only [LN] <;> omega) | (simp only [RO, OF])) only [RR, RM, LN, TT, d60_at, ↓reduceIte, Nat.reduceEqDiff, Nat.reduceLT, Nat.reduceLeDiff, Nat.reduceAdd, Nat.reduceSub, Nat.reduceMul, Nat.reduceMod, Nat.reduceDiv, Nat.reduceBEq, RH, h1', h2'', h2', lm_ik h5, lm_ik h8, h9', FF, LN, NN, NT]
    · have h2' := decide_eq_false h2
      have h2'' : decide ((x1.length : Int) ≤ x5) = true := decide_eq_true (by omega)
      conv => arg 1; simp (maxSteps := 1000000) (disch := first | assumption | decide | with_unfolding_all rfl | omega | (simp only [LN] <;> omega) | (simp only [RO, OF])) only [RR, RM, LN, TT, d60_at, ↓reduceIte, Nat.reduceEqDiff, Nat.reduceLT, Nat.reduceLeDiff, Nat.reduceAdd, Nat.reduceSub, Nat.reduceMul, Nat.reduceMod, Nat.reduceDiv, Nat.reduceBEq, RH, h1', h2'', h2']
      refine J.eq ret_seq ?_
      refine J.some ?_
      simp (disch := first | assumption | decide | with_unfolding_all rfl | omega | (simp only [LN] <;> omega) | (simp only [RO, OF])) only [RR, RM, LN, TT, d60_at, ↓reduceIte, Nat.reduceEqDiff, Nat.reduceLT, Nat.reduceLeDiff, Nat.reduceAdd, Nat.reduceSub, Nat.reduceMul, Nat.reduceMod, Nat.reduceDiv, Nat.reduceBEq, RH, h1', h2'', h2', FF, LN, NN, NT]
  · have h1' := decide_eq_false h1
    refine J.some ?_
    simp (disch := first | assumption | decide | with_unfolding_all rfl | omega | (simp only [LN] <;> omega) | (simp only [RO, OF])) only [RR, RM, LN, TT, d60_at, ↓reduceIte, Nat.reduceEqDiff, Nat.reduceLT, Nat.reduceLeDiff, Nat.reduceAdd, Nat.reduceSub, Nat.reduceMul, Nat.reduceMod, Nat.reduceDiv, Nat.reduceBEq, RH, h1', FF, LN, NN, NT]
noncomputable def t60 (fu : Nat) : CallP := noP
theorem t60_ok (fu : Nat) : CpOK Try.prog (t60 fu ) := noP_ok
theorem ok60 (fu : Nat) (x1 : List Int) (x2 : List Int) (r) (h : slices_Equal_int fu x1 x2 = some r) : PureOK Try.prog 60 [.arr x1.length (lm (ik .i64) x1), .arr x2.length (lm (ik .i64) x2)] (e60 r) :=
  pure_J mixed (cp := t60 fu ) (t60_ok fu  ) noI_ok i60 (w60 _ fu x1 x2  ) h
/-! 76: slices.Equal[[]uint32,uint32] -/
def d76 : List (Nat × List Nat) := [(0, [4]), (0, [0, 1, 12, 13]), (0, [6, 7, 8, 9]), (0, []), (0, []), (0, []), (0, [11]), (0, []), (0, []), (0, []), (0, [15]), (0, []), (9, [5, 16, 17, 18, 19, 20, 21, 22, 23]), (0, []), (0, []), (0, []), (0, [25]), (0, []), (0, [])]
def d76_at := And.intro (show d76.getD 0 (0, []) = (0, [4]) from rfl) <| And.intro (show d76.getD 1 (0, []) = (0, [0, 1, 12, 13]) from rfl) <| And.intro (show d76.getD 2 (0, []) = (0, [6, 7, 8, 9]) from rfl) <| And.intro (show d76.getD 3 (0, []) = (0, []) from rfl) <| And.intro (show d76.getD 4 (0, []) = (0, []) from rfl) <| And.intro (show d76.getD 5 (0, []) = (0, []) from rfl) <| And.intro (show d76.getD 6 (0, []) = (0, [11]) from rfl) <| And.intro (show d76.getD 7 (0, []) = (0, []) from rfl) <| And.intro (show d76.getD 8 (0, []) = (0, []) from rfl) <| And.intro (show d76.getD 9 (0, []) = (0, []) from rfl) <| And.intro (show d76.getD 10 (0, []) = (0, [15]) from rfl) <| And.intro (show d76.getD 11 (0, []) = (0, []) from rfl) <| And.intro (show d76.getD 12 (0, []) = (9, [5, 16, 17, 18, 19, 20, 21, 22, 23]) from rfl) <| And.intro (show d76.getD 13 (0, []) = (0, []) from rfl) <| And.intro (show d76.getD 14 (0, []) = (0, []) from rfl) <| And.intro (show d76.getD 15 (0, []) = (0, []) from rfl) <| And.intro (show d76.getD 16 (0, []) = (0, [25]) from rfl) <| And.intro (show d76.getD 17 (0, []) = (0, []) from rfl) <| (show d76.getD 18 (0, []) = (0, []) from rfl)
theorem i76 : finfo Try.prog 76 d76 = some ⟨bodyOf Try.f76, [.tmp 4], [4]⟩ := finfo_at Try.func76 rfl (by kernel_rfl) (by kernel_rfl)
def e76 : Bool → AV := fun r => .v (.bool r)
set_option maxHeartbeats 1000000 in
theorem w76 (cp : CallP) (fu : Nat) (x1 : List Int) (x2 : List Int) : J (go Try.prog noC cp noI 0 [] d76 fu (fin Try.prog [.tmp 4] [4]) (bodyOf Try.f76) (initE 0 [.arr x1.length (lm (ik .u32) x1), .arr x2.length (lm (ik .u32) x2)]) [] []) (slices_Equal_uint32 fu x1 x2) e76 := by
  unfold slices_Equal_uint32 e76
  conv => arg 1; simp (maxSteps := 1000000) (disch := first | assumption | decide | with_unfolding_all rfl | omega | (simp only [LN] <;> omega) | (simp only [RO, OF])) only [bodyOf, Try.f76, RR, RM, LN, TT, d76_at, ↓reduceIte, Nat.reduceEqDiff, Nat.reduceLT, Nat.reduceLeDiff, Nat.reduceAdd, Nat.reduceSub, Nat.reduceMul, Nat.reduceMod, Nat.reduceDiv, Nat.reduceBEq, RH]
  refine J.eq go_seq ?_
  conv => arg 1; simp (maxSteps := 1000000) (disch := first | assumption | decide | with_unfolding_all rfl | omega | (simp only [LN] <;> omega) | (simp only [RO, OF])) only [RR, RM, LN, TT, d76_at, ↓reduceIte, Nat.reduceEqDiff, Nat.reduceLT, Nat.reduceLeDiff, Nat.reduceAdd, Nat.reduceSub, Nat.reduceMul, Nat.reduceMod, Nat.reduceDiv, Nat.reduceBEq, RH]
  refine J.ite (fun h1 => ?_) (fun h1 => ?_)
  · have h1' := decide_eq_true h1
    conv => arg 1; simp (maxSteps := 1000000) (disch := first | assumption | decide | with_unfolding_all rfl | omega | (simp only [LN] <;> omega) | (simp only [RO, OF])) only [RR, RM, LN, TT, d76_at, ↓reduceIte, Nat.reduceEqDiff, Nat.reduceLT, Nat.reduceLeDiff, Nat.reduceAdd, Nat.reduceSub, Nat.reduceMul, Nat.reduceMod, Nat.reduceDiv, Nat.reduceBEq, RH, h1']
    refine J.eq ret_seq ?_
    refine J.eq go_seq ?_
    conv => arg 1; simp (maxSteps := 1000000) (disch := first | assumption | decide | with_unfolding_all rfl | omega | (simp only [LN] <;> omega) | (simp only [RO, OF])) only [RR, RM, LN, TT, d76_at, ↓reduceIte, Nat.reduceEqDiff, Nat.reduceLT, Nat.reduceLeDiff, Nat.reduceAdd, Nat.reduceSub, Nat.reduceMul, Nat.reduceMod, Nat.reduceDiv, Nat.reduceBEq, RH, h1']
    unfold slices_Equal_uint32_W1
    refine J.loop (fun (s : Int) => ([(0, .arr x1.length (lm (ik .u32) x1)), (1, .arr x2.length (lm (ik .u32) x2)), (12, .v (.int .i64 (x1.length : Int))), (13, .v (.int .i64 s))], [])) (fun next s => slices_Equal_uint32_L1 fu x1 x2 next s) (s0 := 0) ?_ ?_ ?_
    · first | rfl | (simp only [LN, NN, NT])
    · first | (simp (disch := first | assumption | decide | with_unfolding_all rfl | omega | (simp only [LN] <;> omega) | (simp only [RO, OF])) only [RR, ↓reduceIte, Nat.reduceEqDiff, Nat.reduceLT, Nat.reduceLeDiff, Nat.reduceAdd, Nat.reduceSub, Nat.reduceMul, Nat.reduceMod, Nat.reduceDiv, Nat.reduceBEq, LN, NN, NT]; done) | rfl
    rintro nx1 k1 hn1 x5
    show J _ (slices_Equal_uint32_L1 fu x1 x2 nx1 x5) _
    unfold slices_Equal_uint32_L1
    conv => arg 1; simp (maxSteps := 1000000) (disch := first | assumption | decide | with_unfolding_all rfl | omega | (simp only [LN] <;> omega) | (simp only [RO, OF])) only [RR, RM, LN, TT, d76_at, ↓reduceIte, Nat.reduceEqDiff, Nat.reduceLT, Nat.reduceLeDiff, Nat.reduceAdd, Nat.reduceSub, Nat.reduceMul, Nat.reduceMod, Nat.reduceDiv, Nat.reduceBEq, RH, h1']
    refine J.eq go_seq ?_
    conv => arg 1; simp (maxSteps := 1000000) (disch := first | assumption | decide | with_unfolding_all rfl | omega | (simp only [LN] <;> omega) | (simp only [RO, OF])) only [RR, RM, LN, TT, d76_at, ↓reduceIte, Nat.reduceEqDiff, Nat.reduceLT, Nat.reduceLeDiff, Nat.reduceAdd, Nat.reduceSub, Nat.reduceMul, Nat.reduceMod, Nat.reduceDiv, Nat.reduceBEq, RH, h1']
    refine J.ite (fun h2 => ?_) (fun h2 => ?_)
    · have h2' := decide_eq_true h2
      have h2'' : decide ((x1.length : Int) ≤ x5) = false := decide_eq_false (by omega)
      conv => arg 1; simp (maxSteps := 1000000) (disch := first | assumption | decide | with_unfolding_all rfl | omega | (simp only [LN] <;> omega) | (simp only [RO, OF])) only [RR, RM, LN, TT, d76_at, ↓reduceIte, Nat.reduceEqDiff, Nat.reduceLT, Nat.reduceLeDiff, Nat.reduceAdd, Nat.reduceSub, Nat.reduceMul, Nat.reduceMod, Nat.reduceDiv, Nat.reduceBEq, RH, h1', h2'', h2']
      refine J.eq ret_seq ?_
      refine J.eq go_seq ?_
      refine J.at fun x8 h3 h4 h5 => ?_
      refine J.at fun x9 h6 h7 h8 => ?_
      conv => arg 1; simp (maxSteps := 1000000) (disch := first | assumption | decide | with_unfolding_all rfl | omega | (simp only [LN] <;> omega) | (simp only [RO, OF])) only [RR, RM, LN, TT, d76_at, ↓reduceIte, Nat.reduceEqDiff, Nat.reduceLT, Nat.reduceLeDiff, Nat.reduceAdd, Nat.reduceSub, Nat.reduceMul, Nat.reduceMod, Nat.reduceDiv, Nat.reduceBEq, RH, h1', h2'', h2', lm_ik h5, lm_ik h8]
      refine J.ite (fun h9 => ?_) (fun h9 => ?_)
      · have h9' := decide_eq_true h9
        conv => arg 1; simp (maxSteps := 1000000) (disch := first | assumption | decide | with_unfolding_all rfl | omega | (simp only [LN] <;> omega) | (simp only [RO, OF])) only [RR, RM, LN, TT, d76_at, ↓reduceIte, Nat.reduceEqDiff, Nat.reduceLT, Nat.reduceLeDiff, Nat.reduceAdd, Nat.reduceSub, Nat.reduceMul, Nat.reduceMod, Nat.reduceDiv, Nat.reduceBEq, RH, h1', h2'', h2', lm_ik h5, lm_ik h8, h9']
        refine J.eq ret_seq ?_
        conv => arg 1; simp (maxSteps := 1000000) (disch := first | assumption | decide | with_unfolding_all rfl | omega | (simp only [LN] <;> omega) | (simp only [RO, OF])) only [RR, RM, LN, TT, d76_at, ↓reduceIte, Nat.reduceEqDiff, Nat.reduceLT, Nat.reduceLeDiff, Nat.reduceAdd, Nat.reduceSub, Nat.reduceMul, Nat.reduceMod, Nat.reduceDiv, Nat.reduceBEq, RH, h1', h2'', h2', lm_ik h5, lm_ik h8, h9']
        refine J.next (s := wk .i64 (x5 + 1)) hn1 ?_ ?_
        · first | rfl | (simp only [LN, NN, NT])
        · first | (simp (disch := first | assumption | decide | with_unfolding_all rfl | omega | (simp only [LN] <;> omega) | (simp only [RO, OF])) only [RR, ↓reduceIte, Nat.reduceEqDiff, Nat.reduceLT, Nat.reduceLeDiff, Nat.reduceAdd, Nat.reduceSub, Nat.reduceMul, Nat.reduceMod, Nat.reduceDiv, Nat.reduceBEq, LN, NN, NT]; done) | rfl
      · have h9' := decide_eq_false h9
        refine J.some ?_
        simp (disch := first | assumption | decide | with_unfolding_all rfl | omega | (simp only [LN] <;> omega) | (simp only [RO, OF])) only [RR, RM, LN, TT, d76_at, ↓reduceIte, Nat.reduceEqDiff, Nat.reduceLT, Nat.reduceLeDiff, Nat.reduceAdd, Nat.reduceSub, Nat.reduceMul, Nat.reduceMod, Nat.reduceDiv, Nat.reduceBEq, RH, h1', h2'', h2', lm_ik h5, lm_ik h8, h9', FF, LN, NN, NT]
    · have h2' := decide_eq_false h2
      have h2'' : decide ((x1.length : Int) ≤ x5) = true := decide_eq_true (by omega)
      conv => arg 1; simp (maxSteps := 1000000) (disch := first | assumption | decide | with_unfolding_all rfl | omega | (simp only [LN] <;> omega) | (simp only [RO, OF])) only [RR, RM, LN, TT, d76_at, ↓reduceIte, Nat.reduceEqDiff, Nat.reduceLT, Nat.reduceLeDiff, Nat.reduceAdd, Nat.reduceSub, Nat.reduceMul, Nat.reduceMod, Nat.reduceDiv, Nat.reduceBEq, RH, h1', h2'', h2']
      refine J.eq ret_seq ?_
      refine J.some ?_
      simp (disch := first | assumption | decide | with_unfolding_all rfl | omega | (simp only [LN] <;> omega) | (simp only [RO, OF])) only [RR, RM, LN, TT, d76_at, ↓reduceIte, Nat.reduceEqDiff, Nat.reduceLT, Nat.reduceLeDiff, Nat.reduceAdd, Nat.reduceSub, Nat.reduceMul, Nat.reduceMod, Nat.reduceDiv, Nat.reduceBEq, RH, h1', h2'', h2', FF, LN, NN, NT]
  · have h1' := decide_eq_false h1
    refine J.some ?_
    simp (disch := first | assumption | decide | with_unfolding_all rfl | omega | (simp only [LN] <;> omega) | (simp only [RO, OF])) only [RR, RM, LN, TT, d76_at, ↓reduceIte, Nat.reduceEqDiff, Nat.reduceLT, Nat.reduceLeDiff, Nat.reduceAdd, Nat.reduceSub, Nat.reduceMul, Nat.reduceMod, Nat.reduceDiv, Nat.reduceBEq, RH, h1', FF, LN, NN, NT]
noncomputable def t76 (fu : Nat) : CallP := noP
theorem t76_ok (fu : Nat) : CpOK Try.prog (t76 fu ) := noP_ok
theorem ok76 (fu : Nat) (x1 : List Int) (x2 : List Int) (r) (h : slices_Equal_uint32 fu x1 x2 = some r) : PureOK Try.prog 76 [.arr x1.length (lm (ik .u32) x1), .arr x2.length (lm (ik .u32) x2)] (e76 r) :=
  pure_J mixed (cp := t76 fu ) (t76_ok fu  ) noI_ok i76 (w76 _ fu x1 x2  ) h
end Go.Av
