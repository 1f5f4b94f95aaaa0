/- The walks of the plain functions, part 3. Made by a program of mine. Conditions: none. -/
import Derived.Test.YtpbegnnholhkdaaGreatQ4W2
set_option linter.unusedVariables false
set_option linter.unusedSimpArgs false
set_option linter.defProp false
set_option maxRecDepth 20000
open Go Go.Proofs
namespace Go.Av
open Aw (d9 d19 d20 d21 d30 d32 d33 d34 d35 d36 d37 d38 d39 d40 d41 d42 d57 d58 d59 d60 d61 d62 d63 d64 d65 d66 d67 d68 d69 d71 d72 d73 d77 d78 d79 d80 d81 d82 d83 d84 d85 d87 d88 d89 d90 d91 d99 d102 d103 d104 d106 d107 d108 d109 d111 d112 d113 d117 d118 d119 d120 d142 d144 d149 d156)
/-! 8: lattice/conv.Do -/
open Aw (d8)
def d8_at := by have h := tabL Aw.d8.eq_1; simp only [AllAt, Nat.zero_add, Nat.reduceAdd] at h; exact h
theorem i8 : finfo Tryz.prog 8 d8 = some ⟨bodyOf Tryz.f8, [.cell 6 28, .tmp 7], [28, 32]⟩ := finfo_at Tryz.func8 rfl (by kernel_rfl) (by kernel_rfl)
def e8 : (T_Tensor × Int) → AV := fun r => .tuple [.agg [.v (.int .i64 r.1.fType), .arr r.1.fDims.length (lm (ik .i64) r.1.fDims), .arr r.1.fF.length (lm (ik .u32) r.1.fF), .arr r.1.fI.length (lm (ik .i64) r.1.fI), .arr r.1.fB.length (lm (bk) r.1.fB)], .v (.int .i64 r.2)]
set_option maxHeartbeats 400000000 in
theorem w8 (cp : CallP) (fu : Nat) (x1 : Int) (x2 : T_Setting) (x3 : List T_Tensor) (H34_0 : ∀ (a0 : Int) r, conv_Has fu a0 = some r → cp 34 [.v (.int .i64 a0)] = some (.v (.bool r))) (H35_0 : ∀ (a0 : T_Tensor) r, tens_Check fu a0 = some r → cp 35 [.agg (c_T_Tensor a0)] = some (.v (.int .i64 r))) (H36_0 : ∀ (a0 : T_Tensor) r, tens_Canon fu a0 = some r → cp 36 [.agg (c_T_Tensor a0)] = some (.agg [.v (.int .i64 r.fType), .fresh 1 r.fDims.length (lm (ik .i64) r.fDims), .fresh 1 r.fF.length (lm (ik .u32) r.fF), .fresh 1 r.fI.length (lm (ik .i64) r.fI), .fresh 1 r.fB.length (lm (bk) r.fB)])) (H38_0 : ∀ (a0 : List T_Tensor) r, ewise_Vals fu a0 = some r → cp 38 [.arr a0.length (fm c_T_Tensor a0)] = some (.arr r.length (fm c_T_Val r))) (H37_0 : ∀ (a0 : Int) (a1 : T_Setting) (a2 : List T_Val) (a3 : Int) r, infer_Node fu a0 a1 a2 a3 = some r → cp 37 [.v (.int .i64 a0), .agg (c_T_Setting a1), .arr a2.length (fm c_T_Val a2), .v (.int .i64 a3)] = some (.tuple [.arr r.1.length (fm c_T_Val r.1), .v (.int .i64 r.2)])) (H32_0 : ∀ (a0 : T_Setting) (a1 : Int) (a2 : Int) (a3 : Int) r, conv_axisOf fu a0 a1 a2 a3 = some r → cp 32 [.agg (c_T_Setting a0), .v (.int .i64 a1), .v (.int .i64 a2), .v (.int .i64 a3)] = some (.tuple [.agg [.v (.int .i64 r.1.fsize), .v (.int .i64 r.1.fkernel), .v (.int .i64 r.1.fstride), .v (.int .i64 r.1.fdilation), .v (.int .i64 r.1.fahead), .v (.int .i64 r.1.fwindows)], .v (.int .i64 r.2)])) (H39_0 : ∀ (a0 : Int) (a1 : List Int) r, tens_New fu a0 a1 = some r → cp 39 [.v (.int .i64 a0), .arr a1.length (lm (ik .i64) a1)] = some (.tuple [.agg [.v (.int .i64 r.1.fType), .fresh 1 r.1.fDims.length (lm (ik .i64) r.1.fDims), .fresh 1 r.1.fF.length (lm (ik .u32) r.1.fF), .fresh 1 r.1.fI.length (lm (ik .i64) r.1.fI), .fresh 1 r.1.fB.length (lm (bk) r.1.fB)], .v (.int .i64 r.2)])) (H40_0 : ∀ (a0 : List Int) (a1 : Int) r, shape_Index fu a0 a1 = some r → cp 40 [.arr a0.length (lm (ik .i64) a0), .v (.int .i64 a1)] = some (.tuple [.fresh 1 r.1.length (lm (ik .i64) r.1), .v (.int .i64 r.2)])) (H21_0 : ∀ (a0 : T_conv_work) (a1 : Int) (a2 : Int) (a3 : Int) (a4 : Int) r, conv_work_sum fu a0 a1 a2 a3 a4 = some r → cp 21 [.ref (c_T_conv_work a0) 0, .v (.int .i64 a1), .v (.int .i64 a2), .v (.int .i64 a3), .v (.int .i64 a4)] = some (.v (.int .u32 r))) (H41_0 : ∀ (a0 : Int) (a1 : Int) r, soft_Add fu a0 a1 = some r → cp 41 [.v (.int .u32 a0), .v (.int .u32 a1)] = some (.v (.int .u32 r))) : J (go Tryz.prog (inlC [19, 20]) cp (ciE Tryz.prog (inlC [19, 20]) cp (ciE Tryz.prog (inlC [19, 20]) cp noI fu 20 d20 ⟨b20, [.cell 4 28], [28]⟩ noI) fu 19 d19 ⟨b19, [.tmp 6, .tmp 7], [49, 32]⟩ (ciE Tryz.prog (inlC [19, 20]) cp noI fu 20 d20 ⟨b20, [.cell 4 28], [28]⟩ noI)) 0 [] d8 fu (finS Tryz.prog [.cell 6 28, .tmp 7] [28, 32]) (bodyOf Tryz.f8) (initE 0 [.v (.int .i64 x1), .agg (c_T_Setting x2), .arr x3.length (fm c_T_Tensor x3)]) [] []) (conv_Do fu x1 x2 x3) e8 := by
 unfold conv_Do e8
 refine J.chk fun h1 => ?_
 conv => arg 1; simp (maxSteps := 4000000) (disch := first | exact Zd | fail) only [bodyOf, Tryz.f8, ZZ, d8_at, simprocAttr, go_b19, bodyOf, Tryz.f19, d19_at, RI, RIk, initE, RL, SE, h1]
 refine J.eq go_seq ?_
 refine J.bind fun x4 h2 => ?_
 have e_h2 := H34_0 _ _ h2
 try simp only [NN, NT, LN, simprocAttr, DT] at e_h2
 conv => arg 1; simp (maxSteps := 4000000) (disch := first | exact Zd | fail) only [ZZ, d8_at, simprocAttr, go_b19, bodyOf, Tryz.f19, d19_at, RI, RIk, initE, RL, SE, h1, e_h2]
 refine J.ite (fun h3 => ?_) (fun h3 => ?_)
 ·have h3' : x4 = true := h3
  conv => arg 1; simp (maxSteps := 4000000) (disch := first | exact Zd | fail) only [ZZ, d8_at, simprocAttr, go_b19, bodyOf, Tryz.f19, d19_at, RI, RIk, initE, RL, SE, h1, e_h2, h3']
  refine J.eq ret_seq ?_
  conv => arg 1; simp (maxSteps := 4000000) (disch := first | exact Zd | fail) only [ZZ, d8_at, simprocAttr, go_b19, bodyOf, Tryz.f19, d19_at, RI, RIk, initE, RL, SE, h1, e_h2, h3']
  refine J.joinS (fun (t : List T_Tensor) => ([(0, .v (.int .i64 75)), (2, .arr x3.length (fm c_T_Tensor x3)), (4, .ptr (1, 4, 0) 0 0), (8, .ptr (1, 21, 0) 0 0)], [((0, 4, 0), .bx true ([.v (.int .i64 x2.fAxis), .arr x2.fAxes.length (lm (ik .i64) x2.fAxes), .v (.bool x2.fHasAxes), .v (.bool x2.fKeep), .v (.bool x2.fNoop), .v (.bool x2.fLast), .v (.bool x2.fZero), .arr x2.fPerm.length (lm (ik .i64) x2.fPerm), .v (.bool x2.fHasPerm), .v (.int .u32 x2.fAlpha), .v (.int .u32 x2.fBeta), .v (.int .u32 x2.fEpsilon), .v (.bool x2.fLow), .v (.bool x2.fHigh), .v (.bool x2.fFmod), .v (.int .i64 x2.fTo), .v (.int .i64 x2.fMode), .v (.bool x2.fTransA), .v (.bool x2.fTransB), .v (.int .i64 x2.fGroup), .arr x2.fKernel.length (lm (ik .i64) x2.fKernel), .arr x2.fStrides.length (lm (ik .i64) x2.fStrides), .arr x2.fPads.length (lm (ik .i64) x2.fPads), .arr x2.fDilations.length (lm (ik .i64) x2.fDilations), .v (.int .i64 x2.fAuto), .v (.bool x2.fCeil), .v (.bool x2.fCount), .v (.int .i64 x2.fBlock), .v (.int .i64 x2.fStart), .v (.int .i64 x2.fEnd), .v (.bool x2.fHasEnd), .v (.int .i64 x2.fValue.fType), .arr x2.fValue.fDims.length (lm (ik .i64) x2.fValue.fDims), .arr x2.fValue.fF.length (lm (ik .u32) x2.fValue.fF), .arr x2.fValue.fI.length (lm (ik .i64) x2.fValue.fI), .arr x2.fValue.fB.length (lm (bk) x2.fValue.fB)])), ((0, 6, 0), .bx true ([.v (.int .i64 0), .v (.slice none 0 0), .v (.slice none 0 0), .v (.slice none 0 0), .v (.slice none 0 0)])), ((1, 4, 0), .bx true ([.v (.int .i64 x2.fAxis), .arr x2.fAxes.length (lm (ik .i64) x2.fAxes), .v (.bool x2.fHasAxes), .v (.bool x2.fKeep), .v (.bool x2.fNoop), .v (.bool x2.fLast), .v (.bool x2.fZero), .arr x2.fPerm.length (lm (ik .i64) x2.fPerm), .v (.bool x2.fHasPerm), .v (.int .u32 x2.fAlpha), .v (.int .u32 x2.fBeta), .v (.int .u32 x2.fEpsilon), .v (.bool x2.fLow), .v (.bool x2.fHigh), .v (.bool x2.fFmod), .v (.int .i64 x2.fTo), .v (.int .i64 x2.fMode), .v (.bool x2.fTransA), .v (.bool x2.fTransB), .v (.int .i64 x2.fGroup), .arr x2.fKernel.length (lm (ik .i64) x2.fKernel), .arr x2.fStrides.length (lm (ik .i64) x2.fStrides), .arr x2.fPads.length (lm (ik .i64) x2.fPads), .arr x2.fDilations.length (lm (ik .i64) x2.fDilations), .v (.int .i64 x2.fAuto), .v (.bool x2.fCeil), .v (.bool x2.fCount), .v (.int .i64 x2.fBlock), .v (.int .i64 x2.fStart), .v (.int .i64 x2.fEnd), .v (.bool x2.fHasEnd), .v (.int .i64 x2.fValue.fType), .arr x2.fValue.fDims.length (lm (ik .i64) x2.fValue.fDims), .arr x2.fValue.fF.length (lm (ik .u32) x2.fValue.fF), .arr x2.fValue.fI.length (lm (ik .i64) x2.fValue.fI), .arr x2.fValue.fB.length (lm (bk) x2.fValue.fB)])), ((1, 21, 0), .bx true ([.v (.int .i64 x2.fAxis), .arr x2.fAxes.length (lm (ik .i64) x2.fAxes), .v (.bool x2.fHasAxes), .v (.bool x2.fKeep), .v (.bool x2.fNoop), .v (.bool x2.fLast), .v (.bool x2.fZero), .arr x2.fPerm.length (lm (ik .i64) x2.fPerm), .v (.bool x2.fHasPerm), .v (.int .u32 x2.fAlpha), .v (.int .u32 x2.fBeta), .v (.int .u32 x2.fEpsilon), .v (.bool x2.fLow), .v (.bool x2.fHigh), .v (.bool x2.fFmod), .v (.int .i64 x2.fTo), .v (.int .i64 x2.fMode), .v (.bool x2.fTransA), .v (.bool x2.fTransB), .v (.int .i64 x2.fGroup), .arr x2.fKernel.length (lm (ik .i64) x2.fKernel), .arr x2.fStrides.length (lm (ik .i64) x2.fStrides), .arr x2.fPads.length (lm (ik .i64) x2.fPads), .arr x2.fDilations.length (lm (ik .i64) x2.fDilations), .v (.int .i64 x2.fAuto), .v (.bool x2.fCeil), .v (.bool x2.fCount), .v (.int .i64 x2.fBlock), .v (.int .i64 x2.fStart), .v (.int .i64 x2.fEnd), .v (.bool x2.fHasEnd), .v (.int .i64 x2.fValue.fType), .arr x2.fValue.fDims.length (lm (ik .i64) x2.fValue.fDims), .arr x2.fValue.fF.length (lm (ik .u32) x2.fValue.fF), .arr x2.fValue.fI.length (lm (ik .i64) x2.fValue.fI), .arr x2.fValue.fB.length (lm (bk) x2.fValue.fB), .own (1, 8, 114) 0 t.length t.length, .v (.slice none 0 0), .v (.int .i64 0), .v (.int .i64 0), .v (.int .i64 0), .v (.int .i64 0), .v (.int .i64 0), .v (.int .i64 0), .v (.int .i64 0), .v (.int .i64 0), .v (.int .i64 0), .v (.int .i64 0), .v (.int .i64 0), .v (.int .i64 0)])), ((1, 8, 114), .sl true true 5 t.length (fm c_T_Tensor t))])) (fun t => conv_Do_k1 fu x2 x3 t) ?_ (fun hj1 => ?_)
  ·rintro x5
   show J _ (conv_Do_k1 fu x2 x3 x5) _
   unfold conv_Do_k1
   refine J.bind fun x6 h4 => ?_
   have e_h4 := H38_0 _ _ h4
   try simp only [NN, NT, LN, simprocAttr, DT] at e_h4
   refine J.bind fun x7 h5 => ?_
   have e_h5 := H37_0 _ _ _ _ _ h5
   try simp only [NN, NT, LN, simprocAttr, DT] at e_h5
   conv => arg 1; simp (maxSteps := 4000000) (disch := first | exact Zd | fail) only [ZZ, d8_at, simprocAttr, go_b19, bodyOf, Tryz.f19, d19_at, RI, RIk, initE, RL, SE, h1, e_h2, h3', e_h4, e_h5]
   refine J.eq go_seq ?_
   conv => arg 1; simp (maxSteps := 4000000) (disch := first | exact Zd | fail) only [ZZ, d8_at, simprocAttr, go_b19, bodyOf, Tryz.f19, d19_at, RI, RIk, initE, RL, SE, h1, e_h2, h3', e_h4, e_h5]
   refine J.ite (fun h6 => ?_) (fun h6 => ?_)
   ·have h6' := decide_eq_true h6
    conv => arg 1; simp (maxSteps := 4000000) (disch := first | exact Zd | fail) only [ZZ, d8_at, simprocAttr, go_b19, bodyOf, Tryz.f19, d19_at, RI, RIk, initE, RL, SE, h1, e_h2, h3', e_h4, e_h5, h6']
    refine J.eq ret_seq ?_
    refine J.at fun x8 h7 h8 h9 => ?_
    replace h9 : x7.1[0]? = some x8 := h9
    have h9k := fm_cut c_T_Val_len h9
    have h9f := fm_fit c_T_Val_len h9
    have h9a0 := fm_at (j := 0) c_T_Val_len h9 (by decide)
    have h9a1 := fm_at (j := 1) c_T_Val_len h9 (by decide)
    have h9a2 := fm_at (j := 2) c_T_Val_len h9 (by decide)
    have h9a3 := fm_at (j := 3) c_T_Val_len h9 (by decide)
    have h9a4 := fm_at (j := 4) c_T_Val_len h9 (by decide)
    have h9a5 := fm_at (j := 5) c_T_Val_len h9 (by decide)
    have h9a6 := fm_at (j := 6) c_T_Val_len h9 (by decide)
    have h9a7 := fm_at (j := 7) c_T_Val_len h9 (by decide)
    simp only [simprocAttr, Nat.zero_mul, Nat.zero_add, Nat.add_zero, List.drop_zero] at h9k h9f h9a0 h9a1 h9a2 h9a3 h9a4 h9a5 h9a6 h9a7
    refine J.at fun x9 h10 h11 h12 => ?_
    replace h12 : x5[0]? = some x9 := h12
    have h12k := fm_cut c_T_Tensor_len h12
    have h12f := fm_fit c_T_Tensor_len h12
    have h12a0 := fm_at (j := 0) c_T_Tensor_len h12 (by decide)
    have h12a1 := fm_at (j := 1) c_T_Tensor_len h12 (by decide)
    have h12a2 := fm_at (j := 2) c_T_Tensor_len h12 (by decide)
    have h12a3 := fm_at (j := 3) c_T_Tensor_len h12 (by decide)
    have h12a4 := fm_at (j := 4) c_T_Tensor_len h12 (by decide)
    simp only [simprocAttr, Nat.zero_mul, Nat.zero_add, Nat.add_zero, List.drop_zero] at h12k h12f h12a0 h12a1 h12a2 h12a3 h12a4
    refine J.at fun x10 h13 h14 h15 => ?_
    replace h15 : x5[1]? = some x10 := h15
    have h15k := fm_cut c_T_Tensor_len h15
    have h15f := fm_fit c_T_Tensor_len h15
    have h15a0 := fm_at (j := 0) c_T_Tensor_len h15 (by decide)
    have h15a1 := fm_at (j := 1) c_T_Tensor_len h15 (by decide)
    have h15a2 := fm_at (j := 2) c_T_Tensor_len h15 (by decide)
    have h15a3 := fm_at (j := 3) c_T_Tensor_len h15 (by decide)
    have h15a4 := fm_at (j := 4) c_T_Tensor_len h15 (by decide)
    simp only [simprocAttr, Nat.zero_mul, Nat.zero_add, Nat.add_zero, List.drop_zero] at h15k h15f h15a0 h15a1 h15a2 h15a3 h15a4
    refine J.at fun x11 h16 h17 h18 => ?_
    replace h18 : x9.fDims[2]? = some x11 := h18
    refine J.at fun x12 h19 h20 h21 => ?_
    replace h21 : x10.fDims[2]? = some x12 := h21
    refine J.bind fun x13 h22 => ?_
    have e_h22 := H32_0 _ _ _ _ _ h22
    try simp only [NN, NT, LN, simprocAttr, DT] at e_h22
    refine J.at fun x14 h23 h24 h25 => ?_
    replace h25 : x9.fDims[3]? = some x14 := h25
    refine J.at fun x15 h26 h27 h28 => ?_
    replace h28 : x10.fDims[3]? = some x15 := h28
    refine J.bind fun x16 h29 => ?_
    have e_h29 := H32_0 _ _ _ _ _ h29
    try simp only [NN, NT, LN, simprocAttr, DT] at e_h29
    conv => arg 1; simp (maxSteps := 4000000) (disch := first | exact Zd | fail) only [ZZ, d8_at, simprocAttr, go_b19, bodyOf, Tryz.f19, d19_at, RI, RIk, initE, RL, SE, h1, e_h2, h3', e_h4, e_h5, h6', h9k, h9f, h9a0, h9a1, h9a2, h9a3, h9a4, h9a5, h9a6, h9a7, h12k, h12f, h12a0, h12a1, h12a2, h12a3, h12a4, h15k, h15f, h15a0, h15a1, h15a2, h15a3, h15a4, lm_ik h18, lm_ik h21, e_h22, lm_ik h25, lm_ik h28, e_h29]
    refine J.eq go_seq ?_
    conv => arg 1; simp (maxSteps := 4000000) (disch := first | exact Zd | fail) only [ZZ, d8_at, simprocAttr, go_b19, bodyOf, Tryz.f19, d19_at, RI, RIk, initE, RL, SE, h1, e_h2, h3', e_h4, e_h5, h6', h9k, h9f, h9a0, h9a1, h9a2, h9a3, h9a4, h9a5, h9a6, h9a7, h12k, h12f, h12a0, h12a1, h12a2, h12a3, h12a4, h15k, h15f, h15a0, h15a1, h15a2, h15a3, h15a4, lm_ik h18, lm_ik h21, e_h22, lm_ik h25, lm_ik h28, e_h29]
    refine J.eq ret_seq ?_
    refine J.bind fun x17 h30 => ?_
    have e_h30 := H39_0 _ _ _ h30
    try simp only [NN, NT, LN, simprocAttr, DT] at e_h30
    conv => arg 1; simp (maxSteps := 4000000) (disch := first | exact Zd | fail) only [ZZ, d8_at, simprocAttr, go_b19, bodyOf, Tryz.f19, d19_at, go_b20, bodyOf, Tryz.f20, d20_at, RI, RIk, initE, RL, SE, h1, e_h2, h3', e_h4, e_h5, h6', h9k, h9f, h9a0, h9a1, h9a2, h9a3, h9a4, h9a5, h9a6, h9a7, h12k, h12f, h12a0, h12a1, h12a2, h12a3, h12a4, h15k, h15f, h15a0, h15a1, h15a2, h15a3, h15a4, lm_ik h18, lm_ik h21, e_h22, lm_ik h25, lm_ik h28, e_h29, e_h30]
    refine J.eq go_seq ?_
    conv => arg 1; simp (maxSteps := 4000000) (disch := first | exact Zd | fail) only [ZZ, d8_at, simprocAttr, go_b19, bodyOf, Tryz.f19, d19_at, go_b20, bodyOf, Tryz.f20, d20_at, RI, RIk, initE, RL, SE, h1, e_h2, h3', e_h4, e_h5, h6', h9k, h9f, h9a0, h9a1, h9a2, h9a3, h9a4, h9a5, h9a6, h9a7, h12k, h12f, h12a0, h12a1, h12a2, h12a3, h12a4, h15k, h15f, h15a0, h15a1, h15a2, h15a3, h15a4, lm_ik h18, lm_ik h21, e_h22, lm_ik h25, lm_ik h28, e_h29, e_h30]
    unfold conv_Do_W1
    refine J.loop (fun (s : (List Int) × Int) => ([(0, .ptr (1, 21, 0) 0 0), (1, .fn 21 [.ptr (1, 21, 0) 0 0] []), (4, .ptr (2, 4, 0) 0 0), (5, .ptr (2, 5, 0) 0 0), (20, .v (.int .i64 ((x17.1.fF.length : Nat) : Int))), (21, .v (.int .i64 s.2))], [((0, 6, 0), .bx true ([.v (.int .i64 0), .v (.slice none 0 0), .v (.slice none 0 0), .v (.slice none 0 0), .v (.slice none 0 0)])), ((1, 21, 0), .bx true ([.v (.int .i64 x2.fAxis), .arr x2.fAxes.length (lm (ik .i64) x2.fAxes), .v (.bool x2.fHasAxes), .v (.bool x2.fKeep), .v (.bool x2.fNoop), .v (.bool x2.fLast), .v (.bool x2.fZero), .arr x2.fPerm.length (lm (ik .i64) x2.fPerm), .v (.bool x2.fHasPerm), .v (.int .u32 x2.fAlpha), .v (.int .u32 x2.fBeta), .v (.int .u32 x2.fEpsilon), .v (.bool x2.fLow), .v (.bool x2.fHigh), .v (.bool x2.fFmod), .v (.int .i64 x2.fTo), .v (.int .i64 x2.fMode), .v (.bool x2.fTransA), .v (.bool x2.fTransB), .v (.int .i64 x2.fGroup), .arr x2.fKernel.length (lm (ik .i64) x2.fKernel), .arr x2.fStrides.length (lm (ik .i64) x2.fStrides), .arr x2.fPads.length (lm (ik .i64) x2.fPads), .arr x2.fDilations.length (lm (ik .i64) x2.fDilations), .v (.int .i64 x2.fAuto), .v (.bool x2.fCeil), .v (.bool x2.fCount), .v (.int .i64 x2.fBlock), .v (.int .i64 x2.fStart), .v (.int .i64 x2.fEnd), .v (.bool x2.fHasEnd), .v (.int .i64 x2.fValue.fType), .arr x2.fValue.fDims.length (lm (ik .i64) x2.fValue.fDims), .arr x2.fValue.fF.length (lm (ik .u32) x2.fValue.fF), .arr x2.fValue.fI.length (lm (ik .i64) x2.fValue.fI), .arr x2.fValue.fB.length (lm (bk) x2.fValue.fB), .own (1, 8, 114) 0 x5.length x5.length, .arr x8.fDims.length (lm (ik .i64) x8.fDims), .v (.int .i64 x13.1.fsize), .v (.int .i64 x13.1.fkernel), .v (.int .i64 x13.1.fstride), .v (.int .i64 x13.1.fdilation), .v (.int .i64 x13.1.fahead), .v (.int .i64 x13.1.fwindows), .v (.int .i64 x16.1.fsize), .v (.int .i64 x16.1.fkernel), .v (.int .i64 x16.1.fstride), .v (.int .i64 x16.1.fdilation), .v (.int .i64 x16.1.fahead), .v (.int .i64 x16.1.fwindows)])), ((1, 8, 114), .sl true true 5 x5.length (fm c_T_Tensor x5)), ((2, 4, 0), .bx true ([.v (.int .i64 0), .v (.slice none 0 0), .v (.slice none 0 0), .v (.slice none 0 0), .v (.slice none 0 0)])), ((2, 15, 0), .sl true true 1 x17.1.fDims.length (lm (ik .i64) x17.1.fDims)), ((2, 15, 1), .sl true true 1 s.1.length (lm (ik .u32) s.1)), ((2, 15, 2), .sl true true 1 x17.1.fI.length (lm (ik .i64) x17.1.fI)), ((2, 15, 3), .sl true true 1 x17.1.fB.length (lm (bk) x17.1.fB)), ((2, 5, 0), .bx true ([.v (.int .i64 x17.1.fType), .own (2, 15, 0) 0 x17.1.fDims.length x17.1.fDims.length, .own (2, 15, 1) 0 s.1.length s.1.length, .own (2, 15, 2) 0 x17.1.fI.length x17.1.fI.length, .own (2, 15, 3) 0 x17.1.fB.length x17.1.fB.length]))])) (fun next s => conv_Do_L1 fu x2 x5 x8 x13 x16 x17 (fun x28 x29 => next (x28, x29)) s.1 s.2) (s0 := (x17.1.fF, 0)) ?_ ?_ ?_
    ·first | rfl | (simp only [LN, NN, NT])
    ·first | (simp (disch := first | exact Zd | fail) only [RR, simprocAttr, LN, NN, NT]; done) | (simp (disch := first | exact Zd | fail) only [RR, simprocAttr, LN, fm_app, NN, NT]; done) | rfl
    rintro next k1 hn1 ⟨x28, x29⟩
    let nx1 : (List Int) → Int → Option (T_Tensor × Int) := (fun x28 x29 => next (x28, x29))
    show J _ (conv_Do_L1 fu x2 x5 x8 x13 x16 x17 nx1 x28 x29) _
    unfold conv_Do_L1
    conv => arg 1; simp (maxSteps := 4000000) (disch := first | exact Zd | fail) only [ZZ, d8_at, simprocAttr, go_b19, bodyOf, Tryz.f19, d19_at, go_b20, bodyOf, Tryz.f20, d20_at, RI, RIk, initE, RL, SE, h1, e_h2, h3', e_h4, e_h5, h6', h9k, h9f, h9a0, h9a1, h9a2, h9a3, h9a4, h9a5, h9a6, h9a7, h12k, h12f, h12a0, h12a1, h12a2, h12a3, h12a4, h15k, h15f, h15a0, h15a1, h15a2, h15a3, h15a4, lm_ik h18, lm_ik h21, e_h22, lm_ik h25, lm_ik h28, e_h29, e_h30]
    refine J.eq go_seq ?_
    conv => arg 1; simp (maxSteps := 4000000) (disch := first | exact Zd | fail) only [ZZ, d8_at, simprocAttr, go_b19, bodyOf, Tryz.f19, d19_at, go_b20, bodyOf, Tryz.f20, d20_at, RI, RIk, initE, RL, SE, h1, e_h2, h3', e_h4, e_h5, h6', h9k, h9f, h9a0, h9a1, h9a2, h9a3, h9a4, h9a5, h9a6, h9a7, h12k, h12f, h12a0, h12a1, h12a2, h12a3, h12a4, h15k, h15f, h15a0, h15a1, h15a2, h15a3, h15a4, lm_ik h18, lm_ik h21, e_h22, lm_ik h25, lm_ik h28, e_h29, e_h30]
    refine J.ite (fun h31 => ?_) (fun h31 => ?_)
    ·have h31' := decide_eq_true h31
     have h31'' : decide (((x17.1.fF.length : Nat) : Int) ≤ x29) = false := decide_eq_false (by omega)
     conv => arg 1; simp (maxSteps := 4000000) (disch := first | exact Zd | fail) only [ZZ, d8_at, simprocAttr, go_b19, bodyOf, Tryz.f19, d19_at, go_b20, bodyOf, Tryz.f20, d20_at, RI, RIk, initE, RL, SE, h1, e_h2, h3', e_h4, e_h5, h6', h9k, h9f, h9a0, h9a1, h9a2, h9a3, h9a4, h9a5, h9a6, h9a7, h12k, h12f, h12a0, h12a1, h12a2, h12a3, h12a4, h15k, h15f, h15a0, h15a1, h15a2, h15a3, h15a4, lm_ik h18, lm_ik h21, e_h22, lm_ik h25, lm_ik h28, e_h29, e_h30, h31'', h31']
     refine J.eq ret_seq ?_
     refine J.eq go_seq ?_
     refine J.bind fun x40 h32 => ?_
     have e_h32 := H40_0 _ _ _ h32
     try simp only [NN, NT, LN, simprocAttr, DT] at e_h32
     refine J.at fun x41 h33 h34 h35 => ?_
     replace h35 : x40.1[0]? = some x41 := h35
     refine J.at fun x42 h36 h37 h38 => ?_
     replace h38 : x40.1[1]? = some x42 := h38
     refine J.at fun x43 h39 h40 h41 => ?_
     replace h41 : x40.1[2]? = some x43 := h41
     refine J.at fun x44 h42 h43 h44 => ?_
     replace h44 : x40.1[3]? = some x44 := h44
     refine J.bind fun x45 h45 => ?_
     have e_h45 := H21_0 _ _ _ _ _ _ h45
     try simp only [NN, NT, LN, simprocAttr, DT] at e_h45
     refine J.chk fun h46 => ?_
     conv => arg 1; simp (maxSteps := 4000000) (disch := first | exact Zd | fail) only [ZZ, d8_at, simprocAttr, go_b19, bodyOf, Tryz.f19, d19_at, go_b20, bodyOf, Tryz.f20, d20_at, RI, RIk, initE, RL, SE, h1, e_h2, h3', e_h4, e_h5, h6', h9k, h9f, h9a0, h9a1, h9a2, h9a3, h9a4, h9a5, h9a6, h9a7, h12k, h12f, h12a0, h12a1, h12a2, h12a3, h12a4, h15k, h15f, h15a0, h15a1, h15a2, h15a3, h15a4, lm_ik h18, lm_ik h21, e_h22, lm_ik h25, lm_ik h28, e_h29, e_h30, h31'', h31', e_h32, lm_ik h35, lm_ik h38, lm_ik h41, lm_ik h44, e_h45]
     refine J.eq go_seq ?_
     conv => arg 1; simp (maxSteps := 4000000) (disch := first | exact Zd | fail) only [ZZ, d8_at, simprocAttr, go_b19, bodyOf, Tryz.f19, d19_at, go_b20, bodyOf, Tryz.f20, d20_at, RI, RIk, initE, RL, SE, h1, e_h2, h3', e_h4, e_h5, h6', h9k, h9f, h9a0, h9a1, h9a2, h9a3, h9a4, h9a5, h9a6, h9a7, h12k, h12f, h12a0, h12a1, h12a2, h12a3, h12a4, h15k, h15f, h15a0, h15a1, h15a2, h15a3, h15a4, lm_ik h18, lm_ik h21, e_h22, lm_ik h25, lm_ik h28, e_h29, e_h30, h31'', h31', e_h32, lm_ik h35, lm_ik h38, lm_ik h41, lm_ik h44, e_h45]
     refine J.ite (fun h47 => ?_) (fun h47 => ?_)
     ·have h47' := decide_eq_true h47
      have h47'' : decide ((x5.length : Int) ≤ 2) = false := decide_eq_false (by omega)
      refine J.at fun x46 h48 h49 h50 => ?_
      replace h50 : x5[2]? = some x46 := h50
      have h50k := fm_cut c_T_Tensor_len h50
      have h50f := fm_fit c_T_Tensor_len h50
      have h50a0 := fm_at (j := 0) c_T_Tensor_len h50 (by decide)
      have h50a1 := fm_at (j := 1) c_T_Tensor_len h50 (by decide)
      have h50a2 := fm_at (j := 2) c_T_Tensor_len h50 (by decide)
      have h50a3 := fm_at (j := 3) c_T_Tensor_len h50 (by decide)
      have h50a4 := fm_at (j := 4) c_T_Tensor_len h50 (by decide)
      simp only [simprocAttr, Nat.zero_mul, Nat.zero_add, Nat.add_zero, List.drop_zero] at h50k h50f h50a0 h50a1 h50a2 h50a3 h50a4
      conv => arg 1; simp (maxSteps := 4000000) (disch := first | exact Zd | fail) only [ZZ, d8_at, simprocAttr, go_b19, bodyOf, Tryz.f19, d19_at, go_b20, bodyOf, Tryz.f20, d20_at, RI, RIk, initE, RL, SE, h1, e_h2, h3', e_h4, e_h5, h6', h9k, h9f, h9a0, h9a1, h9a2, h9a3, h9a4, h9a5, h9a6, h9a7, h12k, h12f, h12a0, h12a1, h12a2, h12a3, h12a4, h15k, h15f, h15a0, h15a1, h15a2, h15a3, h15a4, lm_ik h18, lm_ik h21, e_h22, lm_ik h25, lm_ik h28, e_h29, e_h30, h31'', h31', e_h32, lm_ik h35, lm_ik h38, lm_ik h41, lm_ik h44, e_h45, h47'', h47', h50k, h50f, h50a0, h50a1, h50a2, h50a3, h50a4]
      refine J.eq ret_seq ?_
      conv => arg 1; simp (maxSteps := 4000000) (disch := first | exact Zd | fail) only [ZZ, d8_at, simprocAttr, go_b19, bodyOf, Tryz.f19, d19_at, go_b20, bodyOf, Tryz.f20, d20_at, RI, RIk, initE, RL, SE, h1, e_h2, h3', e_h4, e_h5, h6', h9k, h9f, h9a0, h9a1, h9a2, h9a3, h9a4, h9a5, h9a6, h9a7, h12k, h12f, h12a0, h12a1, h12a2, h12a3, h12a4, h15k, h15f, h15a0, h15a1, h15a2, h15a3, h15a4, lm_ik h18, lm_ik h21, e_h22, lm_ik h25, lm_ik h28, e_h29, e_h30, h31'', h31', e_h32, lm_ik h35, lm_ik h38, lm_ik h41, lm_ik h44, e_h45, h47'', h47', h50k, h50f, h50a0, h50a1, h50a2, h50a3, h50a4]
      refine J.ite (fun h51 => ?_) (fun h51 => ?_)
      ·have h51' := decide_eq_true h51
       conv => arg 1; simp (maxSteps := 4000000) (disch := first | exact Zd | fail) only [ZZ, d8_at, simprocAttr, go_b19, bodyOf, Tryz.f19, d19_at, go_b20, bodyOf, Tryz.f20, d20_at, RI, RIk, initE, RL, SE, h1, e_h2, h3', e_h4, e_h5, h6', h9k, h9f, h9a0, h9a1, h9a2, h9a3, h9a4, h9a5, h9a6, h9a7, h12k, h12f, h12a0, h12a1, h12a2, h12a3, h12a4, h15k, h15f, h15a0, h15a1, h15a2, h15a3, h15a4, lm_ik h18, lm_ik h21, e_h22, lm_ik h25, lm_ik h28, e_h29, e_h30, h31'', h31', e_h32, lm_ik h35, lm_ik h38, lm_ik h41, lm_ik h44, e_h45, h47'', h47', h50k, h50f, h50a0, h50a1, h50a2, h50a3, h50a4, h51']
       refine J.eq ret_seq ?_
       conv => arg 1; simp (maxSteps := 4000000) (disch := first | exact Zd | fail) only [ZZ, d8_at, simprocAttr, go_b19, bodyOf, Tryz.f19, d19_at, go_b20, bodyOf, Tryz.f20, d20_at, RI, RIk, initE, RL, SE, h1, e_h2, h3', e_h4, e_h5, h6', h9k, h9f, h9a0, h9a1, h9a2, h9a3, h9a4, h9a5, h9a6, h9a7, h12k, h12f, h12a0, h12a1, h12a2, h12a3, h12a4, h15k, h15f, h15a0, h15a1, h15a2, h15a3, h15a4, lm_ik h18, lm_ik h21, e_h22, lm_ik h25, lm_ik h28, e_h29, e_h30, h31'', h31', e_h32, lm_ik h35, lm_ik h38, lm_ik h41, lm_ik h44, e_h45, h47'', h47', h50k, h50f, h50a0, h50a1, h50a2, h50a3, h50a4, h51']
       refine J.next (s := (x28.set x29.toNat x45, wk .i64 (x29 + 1))) hn1 ?_ ?_
       ·first | rfl | (simp only [LN, NN, NT])
       ·first | (simp (disch := first | exact Zd | fail) only [RR, simprocAttr, LN, NN, NT]; done) | (simp (disch := first | exact Zd | fail) only [RR, simprocAttr, LN, fm_app, NN, NT]; done) | rfl
      ·have h51' := decide_eq_false h51
       refine J.at fun x47 h52 h53 h54 => ?_
       refine J.at fun x48 h55 h56 h57 => ?_
       refine J.bind fun x49 h58 => ?_
       have e_h58 := H41_0 _ _ _ h58
       try simp only [NN, NT, LN, simprocAttr, DT] at e_h58
       refine J.chk fun h59 => ?_
       conv => arg 1; simp (maxSteps := 4000000) (disch := first | exact Zd | fail) only [ZZ, d8_at, simprocAttr, go_b19, bodyOf, Tryz.f19, d19_at, go_b20, bodyOf, Tryz.f20, d20_at, RI, RIk, initE, RL, SE, h1, e_h2, h3', e_h4, e_h5, h6', h9k, h9f, h9a0, h9a1, h9a2, h9a3, h9a4, h9a5, h9a6, h9a7, h12k, h12f, h12a0, h12a1, h12a2, h12a3, h12a4, h15k, h15f, h15a0, h15a1, h15a2, h15a3, h15a4, lm_ik h18, lm_ik h21, e_h22, lm_ik h25, lm_ik h28, e_h29, e_h30, h31'', h31', e_h32, lm_ik h35, lm_ik h38, lm_ik h41, lm_ik h44, e_h45, h47'', h47', h50k, h50f, h50a0, h50a1, h50a2, h50a3, h50a4, h51', lm_ik h54, lm_ik h57, e_h58]
       refine J.eq ret_seq ?_
       conv => arg 1; simp (maxSteps := 4000000) (disch := first | exact Zd | fail) only [ZZ, d8_at, simprocAttr, go_b19, bodyOf, Tryz.f19, d19_at, go_b20, bodyOf, Tryz.f20, d20_at, RI, RIk, initE, RL, SE, h1, e_h2, h3', e_h4, e_h5, h6', h9k, h9f, h9a0, h9a1, h9a2, h9a3, h9a4, h9a5, h9a6, h9a7, h12k, h12f, h12a0, h12a1, h12a2, h12a3, h12a4, h15k, h15f, h15a0, h15a1, h15a2, h15a3, h15a4, lm_ik h18, lm_ik h21, e_h22, lm_ik h25, lm_ik h28, e_h29, e_h30, h31'', h31', e_h32, lm_ik h35, lm_ik h38, lm_ik h41, lm_ik h44, e_h45, h47'', h47', h50k, h50f, h50a0, h50a1, h50a2, h50a3, h50a4, h51', lm_ik h54, lm_ik h57, e_h58]
       refine J.next (s := ((x28.set x29.toNat x45).set x29.toNat x49, wk .i64 (x29 + 1))) hn1 ?_ ?_
       ·first | rfl | (simp only [LN, NN, NT])
       ·first | (simp (disch := first | exact Zd | fail) only [RR, simprocAttr, LN, NN, NT]; done) | (simp (disch := first | exact Zd | fail) only [RR, simprocAttr, LN, fm_app, NN, NT]; done) | rfl
     ·have h47' := decide_eq_false h47
      have h47'' : decide ((x5.length : Int) ≤ 2) = true := decide_eq_true (by omega)
      conv => arg 1; simp (maxSteps := 4000000) (disch := first | exact Zd | fail) only [ZZ, d8_at, simprocAttr, go_b19, bodyOf, Tryz.f19, d19_at, go_b20, bodyOf, Tryz.f20, d20_at, RI, RIk, initE, RL, SE, h1, e_h2, h3', e_h4, e_h5, h6', h9k, h9f, h9a0, h9a1, h9a2, h9a3, h9a4, h9a5, h9a6, h9a7, h12k, h12f, h12a0, h12a1, h12a2, h12a3, h12a4, h15k, h15f, h15a0, h15a1, h15a2, h15a3, h15a4, lm_ik h18, lm_ik h21, e_h22, lm_ik h25, lm_ik h28, e_h29, e_h30, h31'', h31', e_h32, lm_ik h35, lm_ik h38, lm_ik h41, lm_ik h44, e_h45, h47'', h47']
      refine J.eq ret_seq ?_
      conv => arg 1; simp (maxSteps := 4000000) (disch := first | exact Zd | fail) only [ZZ, d8_at, simprocAttr, go_b19, bodyOf, Tryz.f19, d19_at, go_b20, bodyOf, Tryz.f20, d20_at, RI, RIk, initE, RL, SE, h1, e_h2, h3', e_h4, e_h5, h6', h9k, h9f, h9a0, h9a1, h9a2, h9a3, h9a4, h9a5, h9a6, h9a7, h12k, h12f, h12a0, h12a1, h12a2, h12a3, h12a4, h15k, h15f, h15a0, h15a1, h15a2, h15a3, h15a4, lm_ik h18, lm_ik h21, e_h22, lm_ik h25, lm_ik h28, e_h29, e_h30, h31'', h31', e_h32, lm_ik h35, lm_ik h38, lm_ik h41, lm_ik h44, e_h45, h47'', h47']
      refine J.eq ret_seq ?_
      conv => arg 1; simp (maxSteps := 4000000) (disch := first | exact Zd | fail) only [ZZ, d8_at, simprocAttr, go_b19, bodyOf, Tryz.f19, d19_at, go_b20, bodyOf, Tryz.f20, d20_at, RI, RIk, initE, RL, SE, h1, e_h2, h3', e_h4, e_h5, h6', h9k, h9f, h9a0, h9a1, h9a2, h9a3, h9a4, h9a5, h9a6, h9a7, h12k, h12f, h12a0, h12a1, h12a2, h12a3, h12a4, h15k, h15f, h15a0, h15a1, h15a2, h15a3, h15a4, lm_ik h18, lm_ik h21, e_h22, lm_ik h25, lm_ik h28, e_h29, e_h30, h31'', h31', e_h32, lm_ik h35, lm_ik h38, lm_ik h41, lm_ik h44, e_h45, h47'', h47']
      refine J.next (s := (x28.set x29.toNat x45, wk .i64 (x29 + 1))) hn1 ?_ ?_
      ·first | rfl | (simp only [LN, NN, NT])
      ·first | (simp (disch := first | exact Zd | fail) only [RR, simprocAttr, LN, NN, NT]; done) | (simp (disch := first | exact Zd | fail) only [RR, simprocAttr, LN, fm_app, NN, NT]; done) | rfl
    ·have h31' := decide_eq_false h31
     have h31'' : decide (((x17.1.fF.length : Nat) : Int) ≤ x29) = true := decide_eq_true (by omega)
     conv => arg 1; simp (maxSteps := 4000000) (disch := first | exact Zd | fail) only [ZZ, d8_at, simprocAttr, go_b19, bodyOf, Tryz.f19, d19_at, go_b20, bodyOf, Tryz.f20, d20_at, RI, RIk, initE, RL, SE, h1, e_h2, h3', e_h4, e_h5, h6', h9k, h9f, h9a0, h9a1, h9a2, h9a3, h9a4, h9a5, h9a6, h9a7, h12k, h12f, h12a0, h12a1, h12a2, h12a3, h12a4, h15k, h15f, h15a0, h15a1, h15a2, h15a3, h15a4, lm_ik h18, lm_ik h21, e_h22, lm_ik h25, lm_ik h28, e_h29, e_h30, h31'', h31']
     refine J.eq ret_seq ?_
     refine J.some ?_
     simp (maxSteps := 20000000) (disch := first | exact Zd | fail) only [ZZ, d8_at, simprocAttr, go_b19, bodyOf, Tryz.f19, d19_at, go_b20, bodyOf, Tryz.f20, d20_at, RI, RIk, initE, RL, SE, h1, e_h2, h3', e_h4, e_h5, h6', h9k, h9f, h9a0, h9a1, h9a2, h9a3, h9a4, h9a5, h9a6, h9a7, h12k, h12f, h12a0, h12a1, h12a2, h12a3, h12a4, h15k, h15f, h15a0, h15a1, h15a2, h15a3, h15a4, lm_ik h18, lm_ik h21, e_h22, lm_ik h25, lm_ik h28, e_h29, e_h30, h31'', h31', FF, LN, NN, NT]
   ·have h6' := decide_eq_false h6
    conv => arg 1; simp (maxSteps := 4000000) (disch := first | exact Zd | fail) only [ZZ, d8_at, simprocAttr, go_b19, bodyOf, Tryz.f19, d19_at, go_b20, bodyOf, Tryz.f20, d20_at, RI, RIk, initE, RL, SE, h1, e_h2, h3', e_h4, e_h5, h6']
    refine J.eq go_seq ?_
    refine J.some ?_
    simp (maxSteps := 20000000) (disch := first | exact Zd | fail) only [ZZ, d8_at, simprocAttr, go_b19, bodyOf, Tryz.f19, d19_at, go_b20, bodyOf, Tryz.f20, d20_at, RI, RIk, initE, RL, SE, h1, e_h2, h3', e_h4, e_h5, h6', FF, LN, NN, NT]
  ·conv => arg 1; simp (maxSteps := 4000000) (disch := first | exact Zd | fail) only [ZZ, d8_at, simprocAttr, go_b19, bodyOf, Tryz.f19, d19_at, go_b20, bodyOf, Tryz.f20, d20_at, RI, RIk, initE, RL, SE, h1, e_h2, h3']
   unfold conv_Do_W2
   refine J.loop (fun (s : (List T_Tensor) × Int) => ([(0, .v (.int .i64 75)), (2, .arr x3.length (fm c_T_Tensor x3)), (4, .ptr (1, 4, 0) 0 0), (8, .ptr (1, 21, 0) 0 0), (22, .arr x3.length (fm c_T_Tensor x3)), (23, .v (.int .i64 (x3.length : Int))), (24, .v (.int .i64 s.2))], [((0, 4, 0), .bx true ([.v (.int .i64 x2.fAxis), .arr x2.fAxes.length (lm (ik .i64) x2.fAxes), .v (.bool x2.fHasAxes), .v (.bool x2.fKeep), .v (.bool x2.fNoop), .v (.bool x2.fLast), .v (.bool x2.fZero), .arr x2.fPerm.length (lm (ik .i64) x2.fPerm), .v (.bool x2.fHasPerm), .v (.int .u32 x2.fAlpha), .v (.int .u32 x2.fBeta), .v (.int .u32 x2.fEpsilon), .v (.bool x2.fLow), .v (.bool x2.fHigh), .v (.bool x2.fFmod), .v (.int .i64 x2.fTo), .v (.int .i64 x2.fMode), .v (.bool x2.fTransA), .v (.bool x2.fTransB), .v (.int .i64 x2.fGroup), .arr x2.fKernel.length (lm (ik .i64) x2.fKernel), .arr x2.fStrides.length (lm (ik .i64) x2.fStrides), .arr x2.fPads.length (lm (ik .i64) x2.fPads), .arr x2.fDilations.length (lm (ik .i64) x2.fDilations), .v (.int .i64 x2.fAuto), .v (.bool x2.fCeil), .v (.bool x2.fCount), .v (.int .i64 x2.fBlock), .v (.int .i64 x2.fStart), .v (.int .i64 x2.fEnd), .v (.bool x2.fHasEnd), .v (.int .i64 x2.fValue.fType), .arr x2.fValue.fDims.length (lm (ik .i64) x2.fValue.fDims), .arr x2.fValue.fF.length (lm (ik .u32) x2.fValue.fF), .arr x2.fValue.fI.length (lm (ik .i64) x2.fValue.fI), .arr x2.fValue.fB.length (lm (bk) x2.fValue.fB)])), ((0, 6, 0), .bx true ([.v (.int .i64 0), .v (.slice none 0 0), .v (.slice none 0 0), .v (.slice none 0 0), .v (.slice none 0 0)])), ((1, 4, 0), .bx true ([.v (.int .i64 x2.fAxis), .arr x2.fAxes.length (lm (ik .i64) x2.fAxes), .v (.bool x2.fHasAxes), .v (.bool x2.fKeep), .v (.bool x2.fNoop), .v (.bool x2.fLast), .v (.bool x2.fZero), .arr x2.fPerm.length (lm (ik .i64) x2.fPerm), .v (.bool x2.fHasPerm), .v (.int .u32 x2.fAlpha), .v (.int .u32 x2.fBeta), .v (.int .u32 x2.fEpsilon), .v (.bool x2.fLow), .v (.bool x2.fHigh), .v (.bool x2.fFmod), .v (.int .i64 x2.fTo), .v (.int .i64 x2.fMode), .v (.bool x2.fTransA), .v (.bool x2.fTransB), .v (.int .i64 x2.fGroup), .arr x2.fKernel.length (lm (ik .i64) x2.fKernel), .arr x2.fStrides.length (lm (ik .i64) x2.fStrides), .arr x2.fPads.length (lm (ik .i64) x2.fPads), .arr x2.fDilations.length (lm (ik .i64) x2.fDilations), .v (.int .i64 x2.fAuto), .v (.bool x2.fCeil), .v (.bool x2.fCount), .v (.int .i64 x2.fBlock), .v (.int .i64 x2.fStart), .v (.int .i64 x2.fEnd), .v (.bool x2.fHasEnd), .v (.int .i64 x2.fValue.fType), .arr x2.fValue.fDims.length (lm (ik .i64) x2.fValue.fDims), .arr x2.fValue.fF.length (lm (ik .u32) x2.fValue.fF), .arr x2.fValue.fI.length (lm (ik .i64) x2.fValue.fI), .arr x2.fValue.fB.length (lm (bk) x2.fValue.fB)])), ((1, 21, 0), .bx true ([.v (.int .i64 x2.fAxis), .arr x2.fAxes.length (lm (ik .i64) x2.fAxes), .v (.bool x2.fHasAxes), .v (.bool x2.fKeep), .v (.bool x2.fNoop), .v (.bool x2.fLast), .v (.bool x2.fZero), .arr x2.fPerm.length (lm (ik .i64) x2.fPerm), .v (.bool x2.fHasPerm), .v (.int .u32 x2.fAlpha), .v (.int .u32 x2.fBeta), .v (.int .u32 x2.fEpsilon), .v (.bool x2.fLow), .v (.bool x2.fHigh), .v (.bool x2.fFmod), .v (.int .i64 x2.fTo), .v (.int .i64 x2.fMode), .v (.bool x2.fTransA), .v (.bool x2.fTransB), .v (.int .i64 x2.fGroup), .arr x2.fKernel.length (lm (ik .i64) x2.fKernel), .arr x2.fStrides.length (lm (ik .i64) x2.fStrides), .arr x2.fPads.length (lm (ik .i64) x2.fPads), .arr x2.fDilations.length (lm (ik .i64) x2.fDilations), .v (.int .i64 x2.fAuto), .v (.bool x2.fCeil), .v (.bool x2.fCount), .v (.int .i64 x2.fBlock), .v (.int .i64 x2.fStart), .v (.int .i64 x2.fEnd), .v (.bool x2.fHasEnd), .v (.int .i64 x2.fValue.fType), .arr x2.fValue.fDims.length (lm (ik .i64) x2.fValue.fDims), .arr x2.fValue.fF.length (lm (ik .u32) x2.fValue.fF), .arr x2.fValue.fI.length (lm (ik .i64) x2.fValue.fI), .arr x2.fValue.fB.length (lm (bk) x2.fValue.fB), .own (1, 8, 114) 0 s.1.length s.1.length, .v (.slice none 0 0), .v (.int .i64 0), .v (.int .i64 0), .v (.int .i64 0), .v (.int .i64 0), .v (.int .i64 0), .v (.int .i64 0), .v (.int .i64 0), .v (.int .i64 0), .v (.int .i64 0), .v (.int .i64 0), .v (.int .i64 0), .v (.int .i64 0)])), ((1, 8, 114), .sl true true 5 s.1.length (fm c_T_Tensor s.1))])) (fun next s => conv_Do_L2 fu x2 x3 (fun x54 x55 => next (x54, x55)) s.1 s.2) (s0 := (([] : List T_Tensor), 0)) ?_ ?_ ?_
   ·first | rfl | (simp only [LN, NN, NT])
   ·first | (simp (disch := first | exact Zd | fail) only [RR, simprocAttr, LN, NN, NT]; done) | (simp (disch := first | exact Zd | fail) only [RR, simprocAttr, LN, fm_app, NN, NT]; done) | rfl
   rintro next k2 hn2 ⟨x54, x55⟩
   let nx2 : (List T_Tensor) → Int → Option (T_Tensor × Int) := (fun x54 x55 => next (x54, x55))
   show J _ (conv_Do_L2 fu x2 x3 nx2 x54 x55) _
   unfold conv_Do_L2
   conv => arg 1; simp (maxSteps := 4000000) (disch := first | exact Zd | fail) only [ZZ, d8_at, simprocAttr, go_b19, bodyOf, Tryz.f19, d19_at, go_b20, bodyOf, Tryz.f20, d20_at, RI, RIk, initE, RL, SE, h1, e_h2, h3']
   refine J.eq go_seq ?_
   conv => arg 1; simp (maxSteps := 4000000) (disch := first | exact Zd | fail) only [ZZ, d8_at, simprocAttr, go_b19, bodyOf, Tryz.f19, d19_at, go_b20, bodyOf, Tryz.f20, d20_at, RI, RIk, initE, RL, SE, h1, e_h2, h3']
   refine J.ite (fun h60 => ?_) (fun h60 => ?_)
   ·have h60' := decide_eq_true h60
    have h60'' : decide ((x3.length : Int) ≤ x55) = false := decide_eq_false (by omega)
    conv => arg 1; simp (maxSteps := 4000000) (disch := first | exact Zd | fail) only [ZZ, d8_at, simprocAttr, go_b19, bodyOf, Tryz.f19, d19_at, go_b20, bodyOf, Tryz.f20, d20_at, RI, RIk, initE, RL, SE, h1, e_h2, h3', h60'', h60']
    refine J.eq ret_seq ?_
    refine J.eq go_seq ?_
    refine J.at fun x60 h61 h62 h63 => ?_
    conv => arg 1; simp (maxSteps := 4000000) (disch := first | exact Zd | fail) only [ZZ, d8_at, simprocAttr, go_b19, bodyOf, Tryz.f19, d19_at, go_b20, bodyOf, Tryz.f20, d20_at, RI, RIk, initE, RL, SE, h1, e_h2, h3', h60'', h60', fm_cut c_T_Tensor_len h63, fm_fit c_T_Tensor_len h63, fm_at c_T_Tensor_len h63, fm_at0 c_T_Tensor_len h63]
    refine J.eq go_seq ?_
    conv => arg 1; simp (maxSteps := 4000000) (disch := first | exact Zd | fail) only [ZZ, d8_at, simprocAttr, go_b19, bodyOf, Tryz.f19, d19_at, go_b20, bodyOf, Tryz.f20, d20_at, RI, RIk, initE, RL, SE, h1, e_h2, h3', h60'', h60', fm_cut c_T_Tensor_len h63, fm_fit c_T_Tensor_len h63, fm_at c_T_Tensor_len h63, fm_at0 c_T_Tensor_len h63]
    refine J.ite (fun h64 => ?_) (fun h64 => ?_)
    ·have h64' := decide_eq_true h64
     conv => arg 1; simp (maxSteps := 4000000) (disch := first | exact Zd | fail) only [ZZ, d8_at, simprocAttr, go_b19, bodyOf, Tryz.f19, d19_at, go_b20, bodyOf, Tryz.f20, d20_at, RI, RIk, initE, RL, SE, h1, e_h2, h3', h60'', h60', fm_cut c_T_Tensor_len h63, fm_fit c_T_Tensor_len h63, fm_at c_T_Tensor_len h63, fm_at0 c_T_Tensor_len h63, h64']
     refine J.eq ret_seq ?_
     refine J.bind fun x61 h65 => ?_
     have e_h65 := H36_0 _ _ h65
     try simp only [NN, NT, LN, simprocAttr, DT] at e_h65
     refine J.chk fun h66 => ?_
     conv => arg 1; simp (maxSteps := 4000000) (disch := first | exact Zd | fail) only [ZZ, d8_at, simprocAttr, go_b19, bodyOf, Tryz.f19, d19_at, go_b20, bodyOf, Tryz.f20, d20_at, RI, RIk, initE, RL, SE, h1, e_h2, h3', h60'', h60', fm_cut c_T_Tensor_len h63, fm_fit c_T_Tensor_len h63, fm_at c_T_Tensor_len h63, fm_at0 c_T_Tensor_len h63, h64', e_h65]
     refine J.eq ret_seq ?_
     conv => arg 1; simp (maxSteps := 4000000) (disch := first | exact Zd | fail) only [ZZ, d8_at, simprocAttr, go_b19, bodyOf, Tryz.f19, d19_at, go_b20, bodyOf, Tryz.f20, d20_at, RI, RIk, initE, RL, SE, h1, e_h2, h3', h60'', h60', fm_cut c_T_Tensor_len h63, fm_fit c_T_Tensor_len h63, fm_at c_T_Tensor_len h63, fm_at0 c_T_Tensor_len h63, h64', e_h65]
     refine J.next (s := (x54 ++ ([x61]), wk .i64 (x55 + 1))) hn2 ?_ ?_
     ·first | rfl | (simp only [LN, NN, NT])
     ·first | (simp (disch := first | exact Zd | fail) only [RR, simprocAttr, LN, NN, NT]; done) | (simp (disch := first | exact Zd | fail) only [RR, simprocAttr, LN, fm_app, NN, NT]; done) | rfl
    ·have h64' := decide_eq_false h64
     refine J.bind fun x62 h67 => ?_
     have e_h67 := H35_0 _ _ h67
     try simp only [NN, NT, LN, simprocAttr, DT] at e_h67
     conv => arg 1; simp (maxSteps := 4000000) (disch := first | exact Zd | fail) only [ZZ, d8_at, simprocAttr, go_b19, bodyOf, Tryz.f19, d19_at, go_b20, bodyOf, Tryz.f20, d20_at, RI, RIk, initE, RL, SE, h1, e_h2, h3', h60'', h60', fm_cut c_T_Tensor_len h63, fm_fit c_T_Tensor_len h63, fm_at c_T_Tensor_len h63, fm_at0 c_T_Tensor_len h63, h64', e_h67]
     refine J.ite (fun h68 => ?_) (fun h68 => ?_)
     ·have h68' := decide_eq_true h68
      conv => arg 1; simp (maxSteps := 4000000) (disch := first | exact Zd | fail) only [ZZ, d8_at, simprocAttr, go_b19, bodyOf, Tryz.f19, d19_at, go_b20, bodyOf, Tryz.f20, d20_at, RI, RIk, initE, RL, SE, h1, e_h2, h3', h60'', h60', fm_cut c_T_Tensor_len h63, fm_fit c_T_Tensor_len h63, fm_at c_T_Tensor_len h63, fm_at0 c_T_Tensor_len h63, h64', e_h67, h68']
      refine J.eq ret_seq ?_
      refine J.bind fun x63 h69 => ?_
      have e_h69 := H36_0 _ _ h69
      try simp only [NN, NT, LN, simprocAttr, DT] at e_h69
      refine J.chk fun h70 => ?_
      conv => arg 1; simp (maxSteps := 4000000) (disch := first | exact Zd | fail) only [ZZ, d8_at, simprocAttr, go_b19, bodyOf, Tryz.f19, d19_at, go_b20, bodyOf, Tryz.f20, d20_at, RI, RIk, initE, RL, SE, h1, e_h2, h3', h60'', h60', fm_cut c_T_Tensor_len h63, fm_fit c_T_Tensor_len h63, fm_at c_T_Tensor_len h63, fm_at0 c_T_Tensor_len h63, h64', e_h67, h68', e_h69]
      refine J.eq ret_seq ?_
      conv => arg 1; simp (maxSteps := 4000000) (disch := first | exact Zd | fail) only [ZZ, d8_at, simprocAttr, go_b19, bodyOf, Tryz.f19, d19_at, go_b20, bodyOf, Tryz.f20, d20_at, RI, RIk, initE, RL, SE, h1, e_h2, h3', h60'', h60', fm_cut c_T_Tensor_len h63, fm_fit c_T_Tensor_len h63, fm_at c_T_Tensor_len h63, fm_at0 c_T_Tensor_len h63, h64', e_h67, h68', e_h69]
      refine J.next (s := (x54 ++ ([x63]), wk .i64 (x55 + 1))) hn2 ?_ ?_
      ·first | rfl | (simp only [LN, NN, NT])
      ·first | (simp (disch := first | exact Zd | fail) only [RR, simprocAttr, LN, NN, NT]; done) | (simp (disch := first | exact Zd | fail) only [RR, simprocAttr, LN, fm_app, NN, NT]; done) | rfl
     ·have h68' := decide_eq_false h68
      conv => arg 1; simp (maxSteps := 4000000) (disch := first | exact Zd | fail) only [ZZ, d8_at, simprocAttr, go_b19, bodyOf, Tryz.f19, d19_at, go_b20, bodyOf, Tryz.f20, d20_at, RI, RIk, initE, RL, SE, h1, e_h2, h3', h60'', h60', fm_cut c_T_Tensor_len h63, fm_fit c_T_Tensor_len h63, fm_at c_T_Tensor_len h63, fm_at0 c_T_Tensor_len h63, h64', e_h67, h68']
      refine J.eq go_seq ?_
      refine J.some ?_
      simp (maxSteps := 20000000) (disch := first | exact Zd | fail) only [ZZ, d8_at, simprocAttr, go_b19, bodyOf, Tryz.f19, d19_at, go_b20, bodyOf, Tryz.f20, d20_at, RI, RIk, initE, RL, SE, h1, e_h2, h3', h60'', h60', fm_cut c_T_Tensor_len h63, fm_fit c_T_Tensor_len h63, fm_at c_T_Tensor_len h63, fm_at0 c_T_Tensor_len h63, h64', e_h67, h68', FF, LN, NN, NT]
   ·have h60' := decide_eq_false h60
    have h60'' : decide ((x3.length : Int) ≤ x55) = true := decide_eq_true (by omega)
    conv => arg 1; simp (maxSteps := 4000000) (disch := first | exact Zd | fail) only [ZZ, d8_at, simprocAttr, go_b19, bodyOf, Tryz.f19, d19_at, go_b20, bodyOf, Tryz.f20, d20_at, RI, RIk, initE, RL, SE, h1, e_h2, h3', h60'', h60']
    refine J.jmp (t := x54) hj1 ?_ ?_
    ·first | rfl | (simp only [LN, NN, NT])
    ·first | (simp (disch := first | exact Zd | fail) only [RR, simprocAttr, LN, NN, NT]; done) | (simp (disch := first | exact Zd | fail) only [RR, simprocAttr, LN, fm_app, NN, NT]; done) | rfl
 ·have h3' : x4 = false := Bool.eq_false_iff.2 h3
  conv => arg 1; simp (maxSteps := 4000000) (disch := first | exact Zd | fail) only [ZZ, d8_at, simprocAttr, go_b19, bodyOf, Tryz.f19, d19_at, go_b20, bodyOf, Tryz.f20, d20_at, RI, RIk, initE, RL, SE, h1, e_h2, h3']
  refine J.eq go_seq ?_
  refine J.some ?_
  simp (maxSteps := 20000000) (disch := first | exact Zd | fail) only [ZZ, d8_at, simprocAttr, go_b19, bodyOf, Tryz.f19, d19_at, go_b20, bodyOf, Tryz.f20, d20_at, RI, RIk, initE, RL, SE, h1, e_h2, h3', FF, LN, NN, NT]
noncomputable def t8 (fu : Nat) : CallP := orE 34 (mkC (fun (t : Int) => ([.v (.int .i64 t)] : List AV)) (fun t => conv_Has fu t) e34) (orE 35 (mkC (fun (t : T_Tensor) => ([.agg (c_T_Tensor t)] : List AV)) (fun t => tens_Check fu t) e35) (orE 36 (mkC (fun (t : T_Tensor) => ([.agg (c_T_Tensor t)] : List AV)) (fun t => tens_Canon fu t) e36) (orE 38 (mkC (fun (t : List T_Tensor) => ([.arr t.length (fm c_T_Tensor t)] : List AV)) (fun t => ewise_Vals fu t) e38) (orE 37 (mkC (fun (t : Int × T_Setting × (List T_Val) × Int) => ([.v (.int .i64 t.1), .agg (c_T_Setting t.2.1), .arr t.2.2.1.length (fm c_T_Val t.2.2.1), .v (.int .i64 t.2.2.2)] : List AV)) (fun t => infer_Node fu t.1 t.2.1 t.2.2.1 t.2.2.2) e37) (orE 32 (mkC (fun (t : T_Setting × Int × Int × Int) => ([.agg (c_T_Setting t.1), .v (.int .i64 t.2.1), .v (.int .i64 t.2.2.1), .v (.int .i64 t.2.2.2)] : List AV)) (fun t => conv_axisOf fu t.1 t.2.1 t.2.2.1 t.2.2.2) e32) (orE 39 (mkC (fun (t : Int × (List Int)) => ([.v (.int .i64 t.1), .arr t.2.length (lm (ik .i64) t.2)] : List AV)) (fun t => tens_New fu t.1 t.2) e39) (orE 40 (mkC (fun (t : (List Int) × Int) => ([.arr t.1.length (lm (ik .i64) t.1), .v (.int .i64 t.2)] : List AV)) (fun t => shape_Index fu t.1 t.2) e40) (orE 21 (mkC (fun (t : T_conv_work × Int × Int × Int × Int) => ([.ref (c_T_conv_work t.1) 0, .v (.int .i64 t.2.1), .v (.int .i64 t.2.2.1), .v (.int .i64 t.2.2.2.1), .v (.int .i64 t.2.2.2.2)] : List AV)) (fun t => conv_work_sum fu t.1 t.2.1 t.2.2.1 t.2.2.2.1 t.2.2.2.2) e21) (orE 41 (mkC (fun (t : Int × Int) => ([.v (.int .u32 t.1), .v (.int .u32 t.2)] : List AV)) (fun t => soft_Add fu t.1 t.2) e41) (noP))))))))))
theorem t8_ok (fu : Nat) : CpOK Tryz.prog (t8 fu ) := orE_ok (orE_ok (orE_ok (orE_ok (orE_ok (orE_ok (orE_ok (orE_ok (orE_ok (orE_ok (noP_ok) (mkC_ok (fun t b h => ok41 fu t.1 t.2  b h))) (mkC_ok (fun t b h => ok21 fu t.1 t.2.1 t.2.2.1 t.2.2.2.1 t.2.2.2.2  b h))) (mkC_ok (fun t b h => ok40 fu t.1 t.2  b h))) (mkC_ok (fun t b h => ok39 fu t.1 t.2  b h))) (mkC_ok (fun t b h => ok32 fu t.1 t.2.1 t.2.2.1 t.2.2.2  b h))) (mkC_ok (fun t b h => ok37 fu t.1 t.2.1 t.2.2.1 t.2.2.2  b h))) (mkC_ok (fun t b h => ok38 fu t  b h))) (mkC_ok (fun t b h => ok36 fu t  b h))) (mkC_ok (fun t b h => ok35 fu t  b h))) (mkC_ok (fun t b h => ok34 fu t  b h))
theorem ok8 (fu : Nat) (x1 : Int) (x2 : T_Setting) (x3 : List T_Tensor) (r) (h : conv_Do fu x1 x2 x3 = some r) : PureOK Tryz.prog 8 [.v (.int .i64 x1), .agg (c_T_Setting x2), .arr x3.length (fm c_T_Tensor x3)] (e8 r) :=
  pureS_J mixed (cp := t8 fu ) (t8_ok fu  ) (ciE_ok mixed (t8_ok fu  ) (ciE_ok mixed (t8_ok fu  ) noI_ok i20 noI_ok) i19 (ciE_ok mixed (t8_ok fu  ) noI_ok i20 noI_ok)) i8 (w8 _ fu x1 x2 x3  (fun a0 r h => orE_hit (mkC_at (a := a0) (by intro a b h; first | (exact rfl) | (simp only [INJ, IJ] at h; first | exact h | (simp_all [Prod.ext_iff]) )) h)) (fun a0 r h => orE_miss (by decide) (orE_hit (mkC_at (a := a0) (by intro a b h; first | (exact rfl) | (simp only [INJ, IJ] at h; first | exact h | (simp_all [Prod.ext_iff]) )) h))) (fun a0 r h => orE_miss (by decide) (orE_miss (by decide) (orE_hit (mkC_at (a := a0) (by intro a b h; first | (exact rfl) | (simp only [INJ, IJ] at h; first | exact h | (simp_all [Prod.ext_iff]) )) h)))) (fun a0 r h => orE_miss (by decide) (orE_miss (by decide) (orE_miss (by decide) (orE_hit (mkC_at (a := a0) (by intro a b h; first | (exact rfl) | (simp only [INJ, IJ] at h; first | exact h | (simp_all [Prod.ext_iff]) )) h))))) (fun a0 a1 a2 a3 r h => orE_miss (by decide) (orE_miss (by decide) (orE_miss (by decide) (orE_miss (by decide) (orE_hit (mkC_at (a := (a0, a1, a2, a3)) (by intro a b h; first | (exact rfl) | (simp only [INJ, IJ] at h; first | exact h | (simp_all [Prod.ext_iff]) )) h)))))) (fun a0 a1 a2 a3 r h => orE_miss (by decide) (orE_miss (by decide) (orE_miss (by decide) (orE_miss (by decide) (orE_miss (by decide) (orE_hit (mkC_at (a := (a0, a1, a2, a3)) (by intro a b h; first | (exact rfl) | (simp only [INJ, IJ] at h; first | exact h | (simp_all [Prod.ext_iff]) )) h))))))) (fun a0 a1 r h => orE_miss (by decide) (orE_miss (by decide) (orE_miss (by decide) (orE_miss (by decide) (orE_miss (by decide) (orE_miss (by decide) (orE_hit (mkC_at (a := (a0, a1)) (by intro a b h; first | (exact rfl) | (simp only [INJ, IJ] at h; first | exact h | (simp_all [Prod.ext_iff]) )) h)))))))) (fun a0 a1 r h => orE_miss (by decide) (orE_miss (by decide) (orE_miss (by decide) (orE_miss (by decide) (orE_miss (by decide) (orE_miss (by decide) (orE_miss (by decide) (orE_hit (mkC_at (a := (a0, a1)) (by intro a b h; first | (exact rfl) | (simp only [INJ, IJ] at h; first | exact h | (simp_all [Prod.ext_iff]) )) h))))))))) (fun a0 a1 a2 a3 a4 r h => orE_miss (by decide) (orE_miss (by decide) (orE_miss (by decide) (orE_miss (by decide) (orE_miss (by decide) (orE_miss (by decide) (orE_miss (by decide) (orE_miss (by decide) (orE_hit (mkC_at (a := (a0, a1, a2, a3, a4)) (by intro a b h; first | (exact rfl) | (simp only [INJ, IJ] at h; first | exact h | (simp_all [Prod.ext_iff]) )) h)))))))))) (fun a0 a1 r h => orE_miss (by decide) (orE_miss (by decide) (orE_miss (by decide) (orE_miss (by decide) (orE_miss (by decide) (orE_miss (by decide) (orE_miss (by decide) (orE_miss (by decide) (orE_miss (by decide) (orE_hit (mkC_at (a := (a0, a1)) (by intro a b h; first | (exact rfl) | (simp only [INJ, IJ] at h; first | exact h | (simp_all [Prod.ext_iff]) )) h)))))))))))) h
/-! 12: lattice/latticeref04.SameInts -/
open Aw (d12)
def d12_at := by have h := tabL Aw.d12.eq_1; simp only [AllAt, Nat.zero_add, Nat.reduceAdd] at h; exact h
theorem i12 : finfo Tryz.prog 12 d12 = some ⟨bodyOf Tryz.f12, [.tmp 4], [4]⟩ := finfo_at Tryz.func12 rfl (by kernel_rfl) (by kernel_rfl)
def e12 : Bool → AV := fun r => .v (.bool r)
set_option maxHeartbeats 20000000 in
theorem w12 (cp : CallP) (fu : Nat) (x1 : List Int) (x2 : List Int) : J (go Tryz.prog noC cp noI 0 [] d12 fu (fin Tryz.prog [.tmp 4] [4]) (bodyOf Tryz.f12) (initE 0 [.arr x1.length (lm (ik .i64) x1), .arr x2.length (lm (ik .i64) x2)]) [] []) (ref04_SameInts fu x1 x2) e12 := by
 unfold ref04_SameInts e12
 conv => arg 1; simp (disch := first | exact Zd | fail) only [bodyOf, Tryz.f12, ZZ, d12_at, simprocAttr]
 refine J.eq go_seq ?_
 conv => arg 1; simp (disch := first | exact Zd | fail) only [ZZ, d12_at, simprocAttr]
 refine J.ite (fun h1 => ?_) (fun h1 => ?_)
 ·have h1' := decide_eq_true h1
  conv => arg 1; simp (disch := first | exact Zd | fail) only [ZZ, d12_at, simprocAttr, h1']
  refine J.eq ret_seq ?_
  refine J.eq go_seq ?_
  conv => arg 1; simp (disch := first | exact Zd | fail) only [ZZ, d12_at, simprocAttr, h1']
  unfold ref04_SameInts_W1
  refine J.loop (fun (s : Int) => ([(0, .arr x1.length (lm (ik .i64) x1)), (1, .arr x2.length (lm (ik .i64) x2)), (5, .v (.int .i64 s))], [])) (fun next s => ref04_SameInts_L1 fu x1 x2 next s) (s0 := 0) ?_ ?_ ?_
  ·first | rfl | (simp only [LN, NN, NT])
  ·first | (simp (disch := first | exact Zd | fail) only [RR, simprocAttr, LN, NN, NT]; done) | (simp (disch := first | exact Zd | fail) only [RR, simprocAttr, LN, fm_app, NN, NT]; done) | rfl
  rintro nx1 k1 hn1 x5
  show J _ (ref04_SameInts_L1 fu x1 x2 nx1 x5) _
  unfold ref04_SameInts_L1
  refine J.eq go_seq ?_
  conv => arg 1; simp (disch := first | exact Zd | fail) only [ZZ, d12_at, simprocAttr, h1']
  refine J.ite (fun h2 => ?_) (fun h2 => ?_)
  ·have h2' := decide_eq_true h2
   have h2'' : decide ((x1.length : Int) ≤ x5) = false := decide_eq_false (by omega)
   conv => arg 1; simp (disch := first | exact Zd | fail) only [ZZ, d12_at, simprocAttr, h1', h2'', h2']
   refine J.eq ret_seq ?_
   refine J.eq go_seq ?_
   refine J.at fun x8 h3 h4 h5 => ?_
   refine J.at fun x9 h6 h7 h8 => ?_
   conv => arg 1; simp (disch := first | exact Zd | fail) only [ZZ, d12_at, simprocAttr, h1', h2'', h2', lm_ik h5, lm_ik h8]
   refine J.ite (fun h9 => ?_) (fun h9 => ?_)
   ·have h9' := decide_eq_true h9
    conv => arg 1; simp (disch := first | exact Zd | fail) only [ZZ, d12_at, simprocAttr, h1', h2'', h2', lm_ik h5, lm_ik h8, h9']
    refine J.eq ret_seq ?_
    conv => arg 1; simp (disch := first | exact Zd | fail) only [ZZ, d12_at, simprocAttr, h1', h2'', h2', lm_ik h5, lm_ik h8, h9']
    refine J.next (s := wk .i64 (x5 + 1)) hn1 ?_ ?_
    ·first | rfl | (simp only [LN, NN, NT])
    ·first | (simp (disch := first | exact Zd | fail) only [RR, simprocAttr, LN, NN, NT]; done) | (simp (disch := first | exact Zd | fail) only [RR, simprocAttr, LN, fm_app, NN, NT]; done) | rfl
   ·have h9' := decide_eq_false h9
    refine J.some ?_
    simp (maxSteps := 20000000) (disch := first | exact Zd | fail) only [ZZ, d12_at, simprocAttr, h1', h2'', h2', lm_ik h5, lm_ik h8, h9', FF, LN, NN, NT]
  ·have h2' := decide_eq_false h2
   have h2'' : decide ((x1.length : Int) ≤ x5) = true := decide_eq_true (by omega)
   conv => arg 1; simp (disch := first | exact Zd | fail) only [ZZ, d12_at, simprocAttr, h1', h2'', h2']
   refine J.eq ret_seq ?_
   refine J.some ?_
   simp (maxSteps := 20000000) (disch := first | exact Zd | fail) only [ZZ, d12_at, simprocAttr, h1', h2'', h2', FF, LN, NN, NT]
 ·have h1' := decide_eq_false h1
  refine J.some ?_
  simp (maxSteps := 20000000) (disch := first | exact Zd | fail) only [ZZ, d12_at, simprocAttr, h1', FF, LN, NN, NT]
noncomputable def t12 (fu : Nat) : CallP := noP
theorem t12_ok (fu : Nat) : CpOK Tryz.prog (t12 fu ) := noP_ok
theorem ok12 (fu : Nat) (x1 : List Int) (x2 : List Int) (r) (h : ref04_SameInts fu x1 x2 = some r) : PureOK Tryz.prog 12 [.arr x1.length (lm (ik .i64) x1), .arr x2.length (lm (ik .i64) x2)] (e12 r) :=
  pure_J mixed (cp := t12 fu ) (t12_ok fu  ) noI_ok i12 (w12 _ fu x1 x2  ) h
/-! 14: lattice/latticeref01.Abs -/
def d14 : List (Nat × List Nat) := [(0, [2]), (0, []), (0, [0, 3, 4])]
def d14_at := by have h := tabL d14.eq_1; simp only [AllAt, Nat.zero_add, Nat.reduceAdd] at h; exact h
theorem i14 : finfo Tryz.prog 14 d14 = some ⟨bodyOf Tryz.f14, [.tmp 2], [23]⟩ := finfo_at Tryz.func14 rfl (by kernel_rfl) (by kernel_rfl)
def e14 : Int → AV := fun r => .v (.int .u32 r)
set_option maxHeartbeats 20000000 in
theorem w14 (cp : CallP) (fu : Nat) (x1 : Int) : J (go Tryz.prog noC cp noI 0 [] d14 fu (fin Tryz.prog [.tmp 2] [23]) (bodyOf Tryz.f14) (initE 0 [.v (.int .u32 x1)]) [] []) (ref01_Abs fu x1) e14 := by
 unfold ref01_Abs e14
 refine J.some ?_
 simp (maxSteps := 20000000) (disch := first | exact Zd | fail) only [bodyOf, Tryz.f14, ZZ, d14_at, simprocAttr, FF, LN, NN, NT]
noncomputable def t14 (fu : Nat) : CallP := noP
theorem t14_ok (fu : Nat) : CpOK Tryz.prog (t14 fu ) := noP_ok
theorem ok14 (fu : Nat) (x1 : Int) (r) (h : ref01_Abs fu x1 = some r) : PureOK Tryz.prog 14 [.v (.int .u32 x1)] (e14 r) :=
  pure_J mixed (cp := t14 fu ) (t14_ok fu  ) noI_ok i14 (w14 _ fu x1  ) h
/-! 26: lattice/latticeref01.IsNone -/
def d26 : List (Nat × List Nat) := [(0, [2]), (0, []), (0, [0, 3, 4, 5])]
def d26_at := by have h := tabL d26.eq_1; simp only [AllAt, Nat.zero_add, Nat.reduceAdd] at h; exact h
theorem i26 : finfo Tryz.prog 26 d26 = some ⟨bodyOf Tryz.f26, [.tmp 2], [4]⟩ := finfo_at Tryz.func26 rfl (by kernel_rfl) (by kernel_rfl)
def e26 : Bool → AV := fun r => .v (.bool r)
set_option maxHeartbeats 20000000 in
theorem w26 (cp : CallP) (fu : Nat) (x1 : Int) (H14_0 : ∀ (a0 : Int) r, ref01_Abs fu a0 = some r → cp 14 [.v (.int .u32 a0)] = some (.v (.int .u32 r))) : J (go Tryz.prog noC cp noI 0 [] d26 fu (fin Tryz.prog [.tmp 2] [4]) (bodyOf Tryz.f26) (initE 0 [.v (.int .u32 x1)]) [] []) (ref01_IsNone fu x1) e26 := by
 unfold ref01_IsNone e26
 refine J.bind fun x2 h1 => ?_
 have e_h1 := H14_0 _ _ h1
 try simp only [NN, NT, LN, simprocAttr, DT] at e_h1
 refine J.some ?_
 simp (maxSteps := 20000000) (disch := first | exact Zd | fail) only [bodyOf, Tryz.f26, ZZ, d26_at, simprocAttr, e_h1, FF, LN, NN, NT]
noncomputable def t26 (fu : Nat) : CallP := orE 14 (mkC (fun (t : Int) => ([.v (.int .u32 t)] : List AV)) (fun t => ref01_Abs fu t) e14) (noP)
theorem t26_ok (fu : Nat) : CpOK Tryz.prog (t26 fu ) := orE_ok (noP_ok) (mkC_ok (fun t b h => ok14 fu t  b h))
theorem ok26 (fu : Nat) (x1 : Int) (r) (h : ref01_IsNone fu x1 = some r) : PureOK Tryz.prog 26 [.v (.int .u32 x1)] (e26 r) :=
  pure_J mixed (cp := t26 fu ) (t26_ok fu  ) noI_ok i26 (w26 _ fu x1  (fun a0 r h => orE_hit (mkC_at (a := a0) (by intro a b h; first | (exact rfl) | (simp only [INJ, IJ] at h; first | exact h | (simp_all [Prod.ext_iff]) )) h))) h
/-! 13: lattice/latticeref01.Canon -/
def d13 : List (Nat × List Nat) := [(0, [2]), (0, []), (0, [3]), (0, []), (0, []), (0, []), (0, [0, 5])]
def d13_at := by have h := tabL d13.eq_1; simp only [AllAt, Nat.zero_add, Nat.reduceAdd] at h; exact h
theorem i13 : finfo Tryz.prog 13 d13 = some ⟨bodyOf Tryz.f13, [.tmp 2], [23]⟩ := finfo_at Tryz.func13 rfl (by kernel_rfl) (by kernel_rfl)
def e13 : Int → AV := fun r => .v (.int .u32 r)
set_option maxHeartbeats 20000000 in
theorem w13 (cp : CallP) (fu : Nat) (x1 : Int) (H26_0 : ∀ (a0 : Int) r, ref01_IsNone fu a0 = some r → cp 26 [.v (.int .u32 a0)] = some (.v (.bool r))) : J (go Tryz.prog noC cp noI 0 [] d13 fu (fin Tryz.prog [.tmp 2] [23]) (bodyOf Tryz.f13) (initE 0 [.v (.int .u32 x1)]) [] []) (ref01_Canon fu x1) e13 := by
 unfold ref01_Canon e13
 conv => arg 1; simp (disch := first | exact Zd | fail) only [bodyOf, Tryz.f13, ZZ, d13_at, simprocAttr]
 refine J.eq go_seq ?_
 refine J.bind fun x2 h1 => ?_
 have e_h1 := H26_0 _ _ h1
 try simp only [NN, NT, LN, simprocAttr, DT] at e_h1
 conv => arg 1; simp (disch := first | exact Zd | fail) only [ZZ, d13_at, simprocAttr, e_h1]
 refine J.ite (fun h2 => ?_) (fun h2 => ?_)
 ·have h2' : x2 = true := h2
  refine J.some ?_
  simp (maxSteps := 20000000) (disch := first | exact Zd | fail) only [ZZ, d13_at, simprocAttr, e_h1, h2', FF, LN, NN, NT]
 ·have h2' : x2 = false := Bool.eq_false_iff.2 h2
  conv => arg 1; simp (disch := first | exact Zd | fail) only [ZZ, d13_at, simprocAttr, e_h1, h2']
  refine J.eq ret_seq ?_
  refine J.some ?_
  simp (maxSteps := 20000000) (disch := first | exact Zd | fail) only [ZZ, d13_at, simprocAttr, e_h1, h2', FF, LN, NN, NT]
noncomputable def t13 (fu : Nat) : CallP := orE 26 (mkC (fun (t : Int) => ([.v (.int .u32 t)] : List AV)) (fun t => ref01_IsNone fu t) e26) (noP)
theorem t13_ok (fu : Nat) : CpOK Tryz.prog (t13 fu ) := orE_ok (noP_ok) (mkC_ok (fun t b h => ok26 fu t  b h))
theorem ok13 (fu : Nat) (x1 : Int) (r) (h : ref01_Canon fu x1 = some r) : PureOK Tryz.prog 13 [.v (.int .u32 x1)] (e13 r) :=
  pure_J mixed (cp := t13 fu ) (t13_ok fu  ) noI_ok i13 (w13 _ fu x1  (fun a0 r h => orE_hit (mkC_at (a := a0) (by intro a b h; first | (exact rfl) | (simp only [INJ, IJ] at h; first | exact h | (simp_all [Prod.ext_iff]) )) h))) h
/-! 4: lattice/latticelaw15.ConvOne -/
def d4 : List (Nat × List Nat) := [(0, [0, 2]), (0, [1, 4, 6]), (0, [8]), (0, []), (17538019647970835018446693872673966996420990764672, [9, 10, 11, 12, 13, 14, 15, 16, 17, 18]), (0, []), (0, [5, 19]), (0, []), (0, [21, 22, 23, 24, 25, 26, 27]), (0, []), (0, [28, 29, 30, 31, 32]), (0, []), (0, []), (0, []), (0, []), (0, []), (0, [34, 35, 36, 37]), (0, []), (0, [39, 40]), (0, []), (0, [41, 42, 43, 44, 45, 46]), (0, []), (0, [47, 48]), (0, []), (0, []), (0, []), (0, [7, 50, 51, 52, 53, 54, 55]), (0, []), (0, []), (0, []), (0, [3, 57])]
def d4_at := by have h := tabL d4.eq_1; simp only [AllAt, Nat.zero_add, Nat.reduceAdd] at h; exact h
theorem i4 : finfo Tryz.prog 4 d4 = some ⟨bodyOf Tryz.f4, [.tmp 2], [4]⟩ := finfo_at Tryz.func4 rfl (by kernel_rfl) (by kernel_rfl)
def e4 : Bool → AV := fun r => .v (.bool r)
set_option maxHeartbeats 20000000 in
theorem w4 (cp : CallP) (fu : Nat) (x1 : T_Tensor) (H7 : cp 7 [] = some (.v (.bool true))) (H9_0 : ∀ (a0 : List Int) (a1 : List Int) r, law15_floats fu a0 a1 = some r → cp 9 [.arr a0.length (lm (ik .i64) a0), .arr a1.length (lm (ik .u32) a1)] = some (.agg [.v (.int .i64 r.fType), .arr r.fDims.length (lm (ik .i64) r.fDims), .arr r.fF.length (lm (ik .u32) r.fF), .arr r.fI.length (lm (ik .i64) r.fI), .arr r.fB.length (lm (bk) r.fB)])) (H8_0 : ∀ (a0 : Int) (a1 : T_Setting) (a2 : List T_Tensor) r, conv_Do fu a0 a1 a2 = some r → cp 8 [.v (.int .i64 a0), .agg (c_T_Setting a1), .arr a2.length (fm c_T_Tensor a2)] = some (.tuple [.agg [.v (.int .i64 r.1.fType), .arr r.1.fDims.length (lm (ik .i64) r.1.fDims), .arr r.1.fF.length (lm (ik .u32) r.1.fF), .arr r.1.fI.length (lm (ik .i64) r.1.fI), .arr r.1.fB.length (lm (bk) r.1.fB)], .v (.int .i64 r.2)])) (H12_0 : ∀ (a0 : List Int) (a1 : List Int) r, ref04_SameInts fu a0 a1 = some r → cp 12 [.arr a0.length (lm (ik .i64) a0), .arr a1.length (lm (ik .i64) a1)] = some (.v (.bool r))) (H13_0 : ∀ (a0 : Int) r, ref01_Canon fu a0 = some r → cp 13 [.v (.int .u32 a0)] = some (.v (.int .u32 r))) (H14_0 : ∀ (a0 : Int) r, ref01_Abs fu a0 = some r → cp 14 [.v (.int .u32 a0)] = some (.v (.int .u32 r))) : J (go Tryz.prog noCs cp noI 0 [] d4 fu (fin Tryz.prog [.tmp 2] [4]) (bodyOf Tryz.f4) (initE 0 [.agg (c_T_Tensor x1)]) [] []) (law15_ConvOne fu x1) e4 := by
 unfold law15_ConvOne e4
 refine J.bind fun x2 h1 => ?_
 have e_h1 := H9_0 _ _ _ h1
 try simp only [NN, NT, LN, simprocAttr, DT] at e_h1
 refine J.bind fun x3 h2 => ?_
 have e_h2 := H8_0 _ _ _ _ h2
 try simp only [NN, NT, LN, simprocAttr, DT] at e_h2
 conv => arg 1; simp (disch := first | exact Zd | fail) only [bodyOf, Tryz.f4, ZZ, d4_at, simprocAttr, RL, aop_callC, aq_callC, H7, e_h1, e_h2]
 refine J.eq go_seq ?_
 conv => arg 1; simp (disch := first | exact Zd | fail) only [ZZ, d4_at, simprocAttr, RL, aop_callC, aq_callC, H7, e_h1, e_h2]
 refine J.ite (fun h3 => ?_) (fun h3 => ?_)
 ·have h3' := decide_eq_true h3
  conv => arg 1; simp (disch := first | exact Zd | fail) only [ZZ, d4_at, simprocAttr, RL, aop_callC, aq_callC, H7, e_h1, e_h2, h3']
  refine J.eq ret_seq ?_
  refine J.eq go_seq ?_
  refine J.bind fun x4 h4 => ?_
  have e_h4 := H12_0 _ _ _ h4
  try simp only [NN, NT, LN, simprocAttr, DT] at e_h4
  conv => arg 1; simp (disch := first | exact Zd | fail) only [ZZ, d4_at, simprocAttr, RL, aop_callC, aq_callC, H7, e_h1, e_h2, h3', e_h4]
  refine J.ite (fun h5 => ?_) (fun h5 => ?_)
  ·have h5' : x4 = true := h5
   conv => arg 1; simp (disch := first | exact Zd | fail) only [ZZ, d4_at, simprocAttr, RL, aop_callC, aq_callC, H7, e_h1, e_h2, h3', e_h4, h5']
   refine J.eq ret_seq ?_
   refine J.eq go_seq ?_
   conv => arg 1; simp (disch := first | exact Zd | fail) only [ZZ, d4_at, simprocAttr, RL, aop_callC, aq_callC, H7, e_h1, e_h2, h3', e_h4, h5']
   unfold law15_ConvOne_W1
   refine J.loop (fun (s : Int) => ([(1, .ptr (0, 1, 0) 0 0), (3, .v (.bool true)), (4, .ptr (0, 4, 0) 0 0), (6, .v (.int .i64 s))], [((0, 1, 0), .bx true ([.v (.int .i64 x1.fType), .arr x1.fDims.length (lm (ik .i64) x1.fDims), .arr x1.fF.length (lm (ik .u32) x1.fF), .arr x1.fI.length (lm (ik .i64) x1.fI), .arr x1.fB.length (lm (bk) x1.fB)])), ((0, 4, 0), .bx true ([.v (.int .i64 x3.1.fType), .arr x3.1.fDims.length (lm (ik .i64) x3.1.fDims), .arr x3.1.fF.length (lm (ik .u32) x3.1.fF), .arr x3.1.fI.length (lm (ik .i64) x3.1.fI), .arr x3.1.fB.length (lm (bk) x3.1.fB)]))])) (fun next s => law15_ConvOne_L1 fu x1 x3 next s) (s0 := 0) ?_ ?_ ?_
   ·first | rfl | (simp only [LN, NN, NT])
   ·first | (simp (disch := first | exact Zd | fail) only [RR, simprocAttr, LN, NN, NT]; done) | (simp (disch := first | exact Zd | fail) only [RR, simprocAttr, LN, fm_app, NN, NT]; done) | rfl
   rintro nx1 k1 hn1 x10
   show J _ (law15_ConvOne_L1 fu x1 x3 nx1 x10) _
   unfold law15_ConvOne_L1
   refine J.eq go_seq ?_
   conv => arg 1; simp (disch := first | exact Zd | fail) only [ZZ, d4_at, simprocAttr, RL, aop_callC, aq_callC, H7, e_h1, e_h2, h3', e_h4, h5']
   refine J.ite (fun h6 => ?_) (fun h6 => ?_)
   ·have h6' := decide_eq_true h6
    have h6'' : decide ((x1.fF.length : Int) ≤ x10) = false := decide_eq_false (by omega)
    conv => arg 1; simp (disch := first | exact Zd | fail) only [ZZ, d4_at, simprocAttr, RL, aop_callC, aq_callC, H7, e_h1, e_h2, h3', e_h4, h5', h6'', h6']
    refine J.eq ret_seq ?_
    refine J.eq go_seq ?_
    refine J.at fun x16 h7 h8 h9 => ?_
    refine J.bind fun x17 h10 => ?_
    have e_h10 := H13_0 _ _ h10
    try simp only [NN, NT, LN, simprocAttr, DT] at e_h10
    conv => arg 1; simp (disch := first | exact Zd | fail) only [ZZ, d4_at, simprocAttr, RL, aop_callC, aq_callC, H7, e_h1, e_h2, h3', e_h4, h5', h6'', h6', lm_ik h9, e_h10]
    refine J.joinS (fun (t : Int) => ([(1, .ptr (0, 1, 0) 0 0), (3, .v (.bool true)), (4, .ptr (0, 4, 0) 0 0), (6, .v (.int .i64 x10)), (7, .v (.int .u32 t))], [((0, 1, 0), .bx true ([.v (.int .i64 x1.fType), .arr x1.fDims.length (lm (ik .i64) x1.fDims), .arr x1.fF.length (lm (ik .u32) x1.fF), .arr x1.fI.length (lm (ik .i64) x1.fI), .arr x1.fB.length (lm (bk) x1.fB)])), ((0, 4, 0), .bx true ([.v (.int .i64 x3.1.fType), .arr x3.1.fDims.length (lm (ik .i64) x3.1.fDims), .arr x3.1.fF.length (lm (ik .u32) x3.1.fF), .arr x3.1.fI.length (lm (ik .i64) x3.1.fI), .arr x3.1.fB.length (lm (bk) x3.1.fB)]))])) (fun t => law15_ConvOne_k1 fu nx1 x3 x10 t) ?_ (fun hj1 => ?_)
    ·rintro x18
     show J _ (law15_ConvOne_k1 fu nx1 x3 x10 x18) _
     unfold law15_ConvOne_k1
     refine J.at fun x19 h11 h12 h13 => ?_
     conv => arg 1; simp (disch := first | exact Zd | fail) only [ZZ, d4_at, simprocAttr, RL, aop_callC, aq_callC, H7, e_h1, e_h2, h3', e_h4, h5', h6'', h6', lm_ik h9, e_h10, lm_ik h13]
     refine J.ite (fun h14 => ?_) (fun h14 => ?_)
     ·have h14' := decide_eq_true h14
      conv => arg 1; simp (disch := first | exact Zd | fail) only [ZZ, d4_at, simprocAttr, RL, aop_callC, aq_callC, H7, e_h1, e_h2, h3', e_h4, h5', h6'', h6', lm_ik h9, e_h10, lm_ik h13, h14']
      refine J.eq ret_seq ?_
      conv => arg 1; simp (disch := first | exact Zd | fail) only [ZZ, d4_at, simprocAttr, RL, aop_callC, aq_callC, H7, e_h1, e_h2, h3', e_h4, h5', h6'', h6', lm_ik h9, e_h10, lm_ik h13, h14']
      refine J.next (s := wk .i64 (x10 + 1)) hn1 ?_ ?_
      ·first | rfl | (simp only [LN, NN, NT])
      ·first | (simp (disch := first | exact Zd | fail) only [RR, simprocAttr, LN, NN, NT]; done) | (simp (disch := first | exact Zd | fail) only [RR, simprocAttr, LN, fm_app, NN, NT]; done) | rfl
     ·have h14' := decide_eq_false h14
      refine J.some ?_
      simp (maxSteps := 20000000) (disch := first | exact Zd | fail) only [ZZ, d4_at, simprocAttr, RL, aop_callC, aq_callC, H7, e_h1, e_h2, h3', e_h4, h5', h6'', h6', lm_ik h9, e_h10, lm_ik h13, h14', FF, LN, NN, NT]
    ·refine J.bind fun x20 h15 => ?_
     have e_h15 := H14_0 _ _ h15
     try simp only [NN, NT, LN, simprocAttr, DT] at e_h15
     conv => arg 1; simp (disch := first | exact Zd | fail) only [ZZ, d4_at, simprocAttr, RL, aop_callC, aq_callC, H7, e_h1, e_h2, h3', e_h4, h5', h6'', h6', lm_ik h9, e_h10, e_h15]
     refine J.ite (fun h16 => ?_) (fun h16 => ?_)
     ·have h16' := decide_eq_true h16
      conv => arg 1; simp (disch := first | exact Zd | fail) only [ZZ, d4_at, simprocAttr, RL, aop_callC, aq_callC, H7, e_h1, e_h2, h3', e_h4, h5', h6'', h6', lm_ik h9, e_h10, e_h15, h16']
      refine J.jmp (t := 0) hj1 ?_ ?_
      ·first | rfl | (simp only [LN, NN, NT])
      ·first | (simp (disch := first | exact Zd | fail) only [RR, simprocAttr, LN, NN, NT]; done) | (simp (disch := first | exact Zd | fail) only [RR, simprocAttr, LN, fm_app, NN, NT]; done) | rfl
     ·have h16' := decide_eq_false h16
      conv => arg 1; simp (disch := first | exact Zd | fail) only [ZZ, d4_at, simprocAttr, RL, aop_callC, aq_callC, H7, e_h1, e_h2, h3', e_h4, h5', h6'', h6', lm_ik h9, e_h10, e_h15, h16']
      refine J.jmp (t := x17) hj1 ?_ ?_
      ·first | rfl | (simp only [LN, NN, NT])
      ·first | (simp (disch := first | exact Zd | fail) only [RR, simprocAttr, LN, NN, NT]; done) | (simp (disch := first | exact Zd | fail) only [RR, simprocAttr, LN, fm_app, NN, NT]; done) | rfl
   ·have h6' := decide_eq_false h6
    have h6'' : decide ((x1.fF.length : Int) ≤ x10) = true := decide_eq_true (by omega)
    conv => arg 1; simp (disch := first | exact Zd | fail) only [ZZ, d4_at, simprocAttr, RL, aop_callC, aq_callC, H7, e_h1, e_h2, h3', e_h4, h5', h6'', h6']
    refine J.eq ret_seq ?_
    refine J.some ?_
    simp (maxSteps := 20000000) (disch := first | exact Zd | fail) only [ZZ, d4_at, simprocAttr, RL, aop_callC, aq_callC, H7, e_h1, e_h2, h3', e_h4, h5', h6'', h6', FF, LN, NN, NT]
  ·have h5' : x4 = false := Bool.eq_false_iff.2 h5
   refine J.some ?_
   simp (maxSteps := 20000000) (disch := first | exact Zd | fail) only [ZZ, d4_at, simprocAttr, RL, aop_callC, aq_callC, H7, e_h1, e_h2, h3', e_h4, h5', FF, LN, NN, NT]
 ·have h3' := decide_eq_false h3
  conv => arg 1; simp (disch := first | exact Zd | fail) only [ZZ, d4_at, simprocAttr, RL, aop_callC, aq_callC, H7, e_h1, e_h2, h3']
  refine J.joinS (fun (t : Unit) => ([(1, .ptr (0, 1, 0) 0 0), (2, .v (.bool (decide ((x3.1.fF.length : Int) = 0)))), (3, .v (.bool true)), (4, .ptr (0, 4, 0) 0 0)], [((0, 1, 0), .bx true ([.v (.int .i64 x1.fType), .arr x1.fDims.length (lm (ik .i64) x1.fDims), .arr x1.fF.length (lm (ik .u32) x1.fF), .arr x1.fI.length (lm (ik .i64) x1.fI), .arr x1.fB.length (lm (bk) x1.fB)])), ((0, 4, 0), .bx true ([.v (.int .i64 x3.1.fType), .arr x3.1.fDims.length (lm (ik .i64) x3.1.fDims), .arr x3.1.fF.length (lm (ik .u32) x3.1.fF), .arr x3.1.fI.length (lm (ik .i64) x3.1.fI), .arr x3.1.fB.length (lm (bk) x3.1.fB)]))])) (fun t => law15_ConvOne_k2 fu x3) ?_ (fun hj2 => ?_)
  ·rintro ⟨⟩
   show J _ (law15_ConvOne_k2 fu x3) _
   unfold law15_ConvOne_k2
   refine J.some ?_
   simp (maxSteps := 20000000) (disch := first | exact Zd | fail) only [ZZ, d4_at, simprocAttr, RL, aop_callC, aq_callC, H7, e_h1, e_h2, h3', FF, LN, NN, NT]
  ·conv => arg 1; simp (disch := first | exact Zd | fail) only [ZZ, d4_at, simprocAttr, RL, aop_callC, aq_callC, H7, e_h1, e_h2, h3']
   refine J.jmp (t := ()) hj2 ?_ ?_
   ·first | rfl | (simp only [LN, NN, NT])
   ·first | (simp (disch := first | exact Zd | fail) only [RR, simprocAttr, LN, NN, NT]; done) | (simp (disch := first | exact Zd | fail) only [RR, simprocAttr, LN, fm_app, NN, NT]; done) | rfl
noncomputable def t4 (fu : Nat) : CallP := orE 7 (mkC (fun (_ : Unit) => ([] : List AV)) (fun _ => some true) (fun b => .v (.bool b))) (orE 9 (mkC (fun (t : (List Int) × (List Int)) => ([.arr t.1.length (lm (ik .i64) t.1), .arr t.2.length (lm (ik .u32) t.2)] : List AV)) (fun t => law15_floats fu t.1 t.2) e9) (orE 8 (mkC (fun (t : Int × T_Setting × (List T_Tensor)) => ([.v (.int .i64 t.1), .agg (c_T_Setting t.2.1), .arr t.2.2.length (fm c_T_Tensor t.2.2)] : List AV)) (fun t => conv_Do fu t.1 t.2.1 t.2.2) e8) (orE 12 (mkC (fun (t : (List Int) × (List Int)) => ([.arr t.1.length (lm (ik .i64) t.1), .arr t.2.length (lm (ik .i64) t.2)] : List AV)) (fun t => ref04_SameInts fu t.1 t.2) e12) (orE 13 (mkC (fun (t : Int) => ([.v (.int .u32 t)] : List AV)) (fun t => ref01_Canon fu t) e13) (orE 14 (mkC (fun (t : Int) => ([.v (.int .u32 t)] : List AV)) (fun t => ref01_Abs fu t) e14) (noP))))))
theorem t4_ok (fu : Nat) : CpOK Tryz.prog (t4 fu ) := orE_ok (orE_ok (orE_ok (orE_ok (orE_ok (orE_ok (noP_ok) (mkC_ok (fun t b h => ok14 fu t  b h))) (mkC_ok (fun t b h => ok13 fu t  b h))) (mkC_ok (fun t b h => ok12 fu t.1 t.2  b h))) (mkC_ok (fun t b h => ok8 fu t.1 t.2.1 t.2.2  b h))) (mkC_ok (fun t b h => ok9 fu t.1 t.2  b h))) (mkC_ok (fun _ b h => by injection h with h; subst h; exact awake7))
theorem ok4 (fu : Nat) (x1 : T_Tensor) (r) (h : law15_ConvOne fu x1 = some r) : PureOK Tryz.prog 4 [.agg (c_T_Tensor x1)] (e4 r) :=
  pure_J mixed (cp := t4 fu ) (t4_ok fu  ) noI_ok i4 (w4 _ fu x1  (orE_hit (mkC_at (a := ()) (fun _ _ _ => rfl) rfl)) (fun a0 a1 r h => orE_miss (by decide) (orE_hit (mkC_at (a := (a0, a1)) (by intro a b h; first | (exact rfl) | (simp only [INJ, IJ] at h; first | exact h | (simp_all [Prod.ext_iff]) )) h))) (fun a0 a1 a2 r h => orE_miss (by decide) (orE_miss (by decide) (orE_hit (mkC_at (a := (a0, a1, a2)) (by intro a b h; first | (exact rfl) | (simp only [INJ, IJ] at h; first | exact h | (simp_all [Prod.ext_iff]) )) h)))) (fun a0 a1 r h => orE_miss (by decide) (orE_miss (by decide) (orE_miss (by decide) (orE_hit (mkC_at (a := (a0, a1)) (by intro a b h; first | (exact rfl) | (simp only [INJ, IJ] at h; first | exact h | (simp_all [Prod.ext_iff]) )) h))))) (fun a0 r h => orE_miss (by decide) (orE_miss (by decide) (orE_miss (by decide) (orE_miss (by decide) (orE_hit (mkC_at (a := a0) (by intro a b h; first | (exact rfl) | (simp only [INJ, IJ] at h; first | exact h | (simp_all [Prod.ext_iff]) )) h)))))) (fun a0 r h => orE_miss (by decide) (orE_miss (by decide) (orE_miss (by decide) (orE_miss (by decide) (orE_miss (by decide) (orE_hit (mkC_at (a := a0) (by intro a b h; first | (exact rfl) | (simp only [INJ, IJ] at h; first | exact h | (simp_all [Prod.ext_iff]) )) h)))))))) h
end Go.Av
