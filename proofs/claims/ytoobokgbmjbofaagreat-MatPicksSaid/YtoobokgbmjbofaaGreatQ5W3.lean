/- The walks of the plain functions, part 3. Made by a program of mine. Conditions: none. -/
import Derived.Test.YtoobokgbmjbofaaGreatQ5W2
set_option linter.unusedVariables false
set_option linter.unusedSimpArgs false
set_option linter.defProp false
set_option maxRecDepth 20000
open Go Go.Proofs
namespace Go.Av
open Aw (d9 d16 d18 d19 d20 d23 d24 d25 d26 d27 d28 d33 d34 d37 d38 d39 d40 d41 d42 d43 d45 d46 d47 d48 d49 d50 d51 d52 d63 d65 d66 d78 d79 d80 d81 d82 d83 d85 d86 d87 d88 d89 d95 d100 d101 d102 d103 d104 d105 d106 d107 d108 d127 d133 d135 d136 d137 d143 d144 d166 d207)
/-! 11: lattice/mat.Do -/
open Aw (d11)
def d11_at := by have h := tabL Aw.d11.eq_1; simp only [AllAt, Nat.zero_add, Nat.reduceAdd] at h; exact h
theorem i11 : finfo Tryz.prog 11 d11 = some ⟨bodyOf Tryz.f11, [.cell 6 31, .tmp 7], [31, 35]⟩ := finfo_at Tryz.func11 rfl (by kernel_rfl) (by kernel_rfl)
def e11 : (T_Tensor × Int) → AV := fun r => .tuple [.agg [.v (.int .i64 r.1.fType), .arr r.1.fDims.length (lm (ik .i64) r.1.fDims), .arr r.1.fF.length (lm (ik .u32) r.1.fF), .arr r.1.fI.length (lm (ik .i64) r.1.fI), .arr r.1.fB.length (lm (bk) r.1.fB)], .v (.int .i64 r.2)]
set_option maxHeartbeats 20000000 in
theorem w11 (cp : CallP) (fu : Nat) (x1 : Int) (x2 : T_Setting) (x3 : List T_Tensor) (H18_0 : ∀ (a0 : Int) r, mat_Has fu a0 = some r → cp 18 [.v (.int .i64 a0)] = some (.v (.bool r))) (H23_0 : ∀ (a0 : T_Tensor) r, tens_Check fu a0 = some r → cp 23 [.agg (c_T_Tensor a0)] = some (.v (.int .i64 r))) (H24_0 : ∀ (a0 : T_Tensor) r, tens_Canon fu a0 = some r → cp 24 [.agg (c_T_Tensor a0)] = some (.agg [.v (.int .i64 r.fType), .fresh 1 r.fDims.length (lm (ik .i64) r.fDims), .fresh 1 r.fF.length (lm (ik .u32) r.fF), .fresh 1 r.fI.length (lm (ik .i64) r.fI), .fresh 1 r.fB.length (lm (bk) r.fB)])) (H26_0 : ∀ (a0 : List T_Tensor) r, ewise_Vals fu a0 = some r → cp 26 [.arr a0.length (fm c_T_Tensor a0)] = some (.arr r.length (fm c_T_Val r))) (H25_0 : ∀ (a0 : Int) (a1 : T_Setting) (a2 : List T_Val) (a3 : Int) r, infer_Node fu a0 a1 a2 a3 = some r → cp 25 [.v (.int .i64 a0), .agg (c_T_Setting a1), .arr a2.length (fm c_T_Val a2), .v (.int .i64 a3)] = some (.tuple [.arr r.1.length (fm c_T_Val r.1), .v (.int .i64 r.2)])) (H27_0 : ∀ (a0 : List Int) r, shape_Size fu a0 = some r → cp 27 [.arr a0.length (lm (ik .i64) a0)] = some (.tuple [.v (.int .i64 r.1), .v (.int .i64 r.2)])) (H28_0 : ∀ (a0 : T_Tensor) (a1 : T_Tensor) r, mat_product fu a0 a1 = some r → cp 28 [.agg (c_T_Tensor a0), .agg (c_T_Tensor a1)] = some (.fresh 1 r.length (lm (ik .u32) r))) : J (go Tryz.prog noC cp noI 0 [] d11 fu (finS Tryz.prog [.cell 6 31, .tmp 7] [31, 35]) (bodyOf Tryz.f11) (initE 0 [.v (.int .i64 x1), .agg (c_T_Setting x2), .arr x3.length (fm c_T_Tensor x3)]) [] []) (mat_Do fu x1 x2 x3) e11 := by
 unfold mat_Do e11
 refine J.chk fun h1 => ?_
 conv => arg 1; simp (disch := first | exact Zd | fail) only [bodyOf, Tryz.f11, ZZ, d11_at, simprocAttr, SE, h1]
 refine J.eq go_seq ?_
 refine J.bind fun x4 h2 => ?_
 have e_h2 := H18_0 _ _ h2
 try simp only [NN, NT, LN, simprocAttr, DT] at e_h2
 conv => arg 1; simp (disch := first | exact Zd | fail) only [ZZ, d11_at, simprocAttr, SE, h1, e_h2]
 refine J.ite (fun h3 => ?_) (fun h3 => ?_)
 ·have h3' : x4 = true := h3
  conv => arg 1; simp (disch := first | exact Zd | fail) only [ZZ, d11_at, simprocAttr, SE, h1, e_h2, h3']
  refine J.eq ret_seq ?_
  conv => arg 1; simp (disch := first | exact Zd | fail) only [ZZ, d11_at, simprocAttr, SE, h1, e_h2, h3']
  refine J.joinS (fun (t : List T_Tensor) => ([(0, .v (.int .i64 73)), (2, .arr x3.length (fm c_T_Tensor x3)), (4, .ptr (0, 4, 0) 0 0), (6, .ptr (0, 6, 0) 0 0), (8, .own (0, 8, 77) 0 t.length t.length)], [((0, 4, 0), .bx true ([.v (.int .i64 x2.fAxis), .arr x2.fAxes.length (lm (ik .i64) x2.fAxes), .v (.bool x2.fHasAxes), .v (.bool x2.fKeep), .v (.bool x2.fNoop), .v (.bool x2.fLast), .v (.bool x2.fZero), .arr x2.fPerm.length (lm (ik .i64) x2.fPerm), .v (.bool x2.fHasPerm), .v (.int .u32 x2.fAlpha), .v (.int .u32 x2.fBeta), .v (.int .u32 x2.fEpsilon), .v (.bool x2.fLow), .v (.bool x2.fHigh), .v (.bool x2.fFmod), .v (.int .i64 x2.fTo), .v (.int .i64 x2.fMode), .v (.bool x2.fTransA), .v (.bool x2.fTransB), .v (.int .i64 x2.fGroup), .arr x2.fKernel.length (lm (ik .i64) x2.fKernel), .arr x2.fStrides.length (lm (ik .i64) x2.fStrides), .arr x2.fPads.length (lm (ik .i64) x2.fPads), .arr x2.fDilations.length (lm (ik .i64) x2.fDilations), .v (.int .i64 x2.fAuto), .v (.bool x2.fCeil), .v (.bool x2.fCount), .v (.int .i64 x2.fBlock), .v (.int .i64 x2.fStart), .v (.int .i64 x2.fEnd), .v (.bool x2.fHasEnd), .v (.int .i64 x2.fValue.fType), .arr x2.fValue.fDims.length (lm (ik .i64) x2.fValue.fDims), .arr x2.fValue.fF.length (lm (ik .u32) x2.fValue.fF), .arr x2.fValue.fI.length (lm (ik .i64) x2.fValue.fI), .arr x2.fValue.fB.length (lm (bk) x2.fValue.fB)])), ((0, 6, 0), .bx true ([.v (.int .i64 0), .v (.slice none 0 0), .v (.slice none 0 0), .v (.slice none 0 0), .v (.slice none 0 0)])), ((0, 8, 77), .sl true true 5 t.length (fm c_T_Tensor t))])) (fun t => mat_Do_k1 fu x2 x3 t) ?_ (fun hj1 => ?_)
  ·rintro x5
   show J _ (mat_Do_k1 fu x2 x3 x5) _
   unfold mat_Do_k1
   refine J.bind fun x6 h4 => ?_
   have e_h4 := H26_0 _ _ h4
   try simp only [NN, NT, LN, simprocAttr, DT] at e_h4
   refine J.bind fun x7 h5 => ?_
   have e_h5 := H25_0 _ _ _ _ _ h5
   try simp only [NN, NT, LN, simprocAttr, DT] at e_h5
   conv => arg 1; simp (disch := first | exact Zd | fail) only [ZZ, d11_at, simprocAttr, SE, h1, e_h2, h3', e_h4, e_h5]
   refine J.eq go_seq ?_
   conv => arg 1; simp (disch := first | exact Zd | fail) only [ZZ, d11_at, simprocAttr, SE, h1, e_h2, h3', e_h4, e_h5]
   refine J.ite (fun h6 => ?_) (fun h6 => ?_)
   ·have h6' := decide_eq_true h6
    conv => arg 1; simp (disch := first | exact Zd | fail) only [ZZ, d11_at, simprocAttr, SE, h1, e_h2, h3', e_h4, e_h5, h6']
    refine J.eq ret_seq ?_
    refine J.at fun x8 h7 h8 h9 => ?_
    replace h9 : x7.1[0]? = some x8 := h9
    have h9k := fm_cut c_T_Val_len h9
    have h9f := fm_fit c_T_Val_len h9
    have h9a0 := fm_at (j := 0) c_T_Val_len h9 (by decide)
    have h9a1 := fm_at (j := 1) c_T_Val_len h9 (by decide)
    have h9a2 := fm_at (j := 2) c_T_Val_len h9 (by decide)
    have h9a3 := fm_at (j := 3) c_T_Val_len h9 (by decide)
    have h9a4 := fm_at (j := 4) c_T_Val_len h9 (by decide)
    have h9a5 := fm_at (j := 5) c_T_Val_len h9 (by decide)
    have h9a6 := fm_at (j := 6) c_T_Val_len h9 (by decide)
    have h9a7 := fm_at (j := 7) c_T_Val_len h9 (by decide)
    simp only [simprocAttr, Nat.zero_mul, Nat.zero_add, Nat.add_zero, List.drop_zero] at h9k h9f h9a0 h9a1 h9a2 h9a3 h9a4 h9a5 h9a6 h9a7
    conv => arg 1; simp (disch := first | exact Zd | fail) only [ZZ, d11_at, simprocAttr, SE, h1, e_h2, h3', e_h4, e_h5, h6', h9k, h9f, h9a0, h9a1, h9a2, h9a3, h9a4, h9a5, h9a6, h9a7]
    refine J.eq go_seq ?_
    refine J.bind fun x9 h10 => ?_
    have e_h10 := H27_0 _ _ h10
    try simp only [NN, NT, LN, simprocAttr, DT] at e_h10
    conv => arg 1; simp (disch := first | exact Zd | fail) only [ZZ, d11_at, simprocAttr, SE, h1, e_h2, h3', e_h4, e_h5, h6', h9k, h9f, h9a0, h9a1, h9a2, h9a3, h9a4, h9a5, h9a6, h9a7, e_h10]
    refine J.ite (fun h11 => ?_) (fun h11 => ?_)
    ·have h11' := decide_eq_true h11
     refine J.some ?_
     simp (maxSteps := 20000000) (disch := first | exact Zd | fail) only [ZZ, d11_at, simprocAttr, SE, h1, e_h2, h3', e_h4, e_h5, h6', h9k, h9f, h9a0, h9a1, h9a2, h9a3, h9a4, h9a5, h9a6, h9a7, e_h10, h11', FF, LN, NN, NT]
    ·have h11' := decide_eq_false h11
     conv => arg 1; simp (disch := first | exact Zd | fail) only [ZZ, d11_at, simprocAttr, SE, h1, e_h2, h3', e_h4, e_h5, h6', h9k, h9f, h9a0, h9a1, h9a2, h9a3, h9a4, h9a5, h9a6, h9a7, e_h10, h11']
     refine J.eq ret_seq ?_
     refine J.eq go_seq ?_
     refine J.at fun x10 h12 h13 h14 => ?_
     replace h14 : x5[0]? = some x10 := h14
     have h14k := fm_cut c_T_Tensor_len h14
     have h14f := fm_fit c_T_Tensor_len h14
     have h14a0 := fm_at (j := 0) c_T_Tensor_len h14 (by decide)
     have h14a1 := fm_at (j := 1) c_T_Tensor_len h14 (by decide)
     have h14a2 := fm_at (j := 2) c_T_Tensor_len h14 (by decide)
     have h14a3 := fm_at (j := 3) c_T_Tensor_len h14 (by decide)
     have h14a4 := fm_at (j := 4) c_T_Tensor_len h14 (by decide)
     simp only [simprocAttr, Nat.zero_mul, Nat.zero_add, Nat.add_zero, List.drop_zero] at h14k h14f h14a0 h14a1 h14a2 h14a3 h14a4
     refine J.at fun x11 h15 h16 h17 => ?_
     replace h17 : x5[1]? = some x11 := h17
     have h17k := fm_cut c_T_Tensor_len h17
     have h17f := fm_fit c_T_Tensor_len h17
     have h17a0 := fm_at (j := 0) c_T_Tensor_len h17 (by decide)
     have h17a1 := fm_at (j := 1) c_T_Tensor_len h17 (by decide)
     have h17a2 := fm_at (j := 2) c_T_Tensor_len h17 (by decide)
     have h17a3 := fm_at (j := 3) c_T_Tensor_len h17 (by decide)
     have h17a4 := fm_at (j := 4) c_T_Tensor_len h17 (by decide)
     simp only [simprocAttr, Nat.zero_mul, Nat.zero_add, Nat.add_zero, List.drop_zero] at h17k h17f h17a0 h17a1 h17a2 h17a3 h17a4
     refine J.bind fun x12 h18 => ?_
     have e_h18 := H28_0 _ _ _ h18
     try simp only [NN, NT, LN, simprocAttr, DT] at e_h18
     conv => arg 1; simp (disch := first | exact Zd | fail) only [ZZ, d11_at, simprocAttr, SE, h1, e_h2, h3', e_h4, e_h5, h6', h9k, h9f, h9a0, h9a1, h9a2, h9a3, h9a4, h9a5, h9a6, h9a7, e_h10, h11', h14k, h14f, h14a0, h14a1, h14a2, h14a3, h14a4, h17k, h17f, h17a0, h17a1, h17a2, h17a3, h17a4, e_h18]
     refine J.eq ret_seq ?_
     refine J.some ?_
     simp (maxSteps := 20000000) (disch := first | exact Zd | fail) only [ZZ, d11_at, simprocAttr, SE, h1, e_h2, h3', e_h4, e_h5, h6', h9k, h9f, h9a0, h9a1, h9a2, h9a3, h9a4, h9a5, h9a6, h9a7, e_h10, h11', h14k, h14f, h14a0, h14a1, h14a2, h14a3, h14a4, h17k, h17f, h17a0, h17a1, h17a2, h17a3, h17a4, e_h18, FF, LN, NN, NT]
   ·have h6' := decide_eq_false h6
    refine J.some ?_
    simp (maxSteps := 20000000) (disch := first | exact Zd | fail) only [ZZ, d11_at, simprocAttr, SE, h1, e_h2, h3', e_h4, e_h5, h6', FF, LN, NN, NT]
  ·conv => arg 1; simp (disch := first | exact Zd | fail) only [ZZ, d11_at, simprocAttr, SE, h1, e_h2, h3']
   unfold mat_Do_W1
   refine J.loop (fun (s : (List T_Tensor) × Int) => ([(0, .v (.int .i64 73)), (2, .arr x3.length (fm c_T_Tensor x3)), (4, .ptr (0, 4, 0) 0 0), (6, .ptr (0, 6, 0) 0 0), (8, .own (0, 8, 77) 0 s.1.length s.1.length), (21, .arr x3.length (fm c_T_Tensor x3)), (22, .v (.int .i64 (x3.length : Int))), (23, .v (.int .i64 s.2))], [((0, 4, 0), .bx true ([.v (.int .i64 x2.fAxis), .arr x2.fAxes.length (lm (ik .i64) x2.fAxes), .v (.bool x2.fHasAxes), .v (.bool x2.fKeep), .v (.bool x2.fNoop), .v (.bool x2.fLast), .v (.bool x2.fZero), .arr x2.fPerm.length (lm (ik .i64) x2.fPerm), .v (.bool x2.fHasPerm), .v (.int .u32 x2.fAlpha), .v (.int .u32 x2.fBeta), .v (.int .u32 x2.fEpsilon), .v (.bool x2.fLow), .v (.bool x2.fHigh), .v (.bool x2.fFmod), .v (.int .i64 x2.fTo), .v (.int .i64 x2.fMode), .v (.bool x2.fTransA), .v (.bool x2.fTransB), .v (.int .i64 x2.fGroup), .arr x2.fKernel.length (lm (ik .i64) x2.fKernel), .arr x2.fStrides.length (lm (ik .i64) x2.fStrides), .arr x2.fPads.length (lm (ik .i64) x2.fPads), .arr x2.fDilations.length (lm (ik .i64) x2.fDilations), .v (.int .i64 x2.fAuto), .v (.bool x2.fCeil), .v (.bool x2.fCount), .v (.int .i64 x2.fBlock), .v (.int .i64 x2.fStart), .v (.int .i64 x2.fEnd), .v (.bool x2.fHasEnd), .v (.int .i64 x2.fValue.fType), .arr x2.fValue.fDims.length (lm (ik .i64) x2.fValue.fDims), .arr x2.fValue.fF.length (lm (ik .u32) x2.fValue.fF), .arr x2.fValue.fI.length (lm (ik .i64) x2.fValue.fI), .arr x2.fValue.fB.length (lm (bk) x2.fValue.fB)])), ((0, 6, 0), .bx true ([.v (.int .i64 0), .v (.slice none 0 0), .v (.slice none 0 0), .v (.slice none 0 0), .v (.slice none 0 0)])), ((0, 8, 77), .sl true true 5 s.1.length (fm c_T_Tensor s.1))])) (fun next s => mat_Do_L1 fu x2 x3 (fun x17 x18 => next (x17, x18)) s.1 s.2) (s0 := (([] : List T_Tensor), 0)) ?_ ?_ ?_
   ·first | rfl | (simp only [LN, NN, NT])
   ·first | (simp (disch := first | exact Zd | fail) only [RR, simprocAttr, LN, NN, NT]; done) | (simp (disch := first | exact Zd | fail) only [RR, simprocAttr, LN, fm_app, NN, NT]; done) | rfl
   rintro next k1 hn1 ⟨x17, x18⟩
   let nx1 : (List T_Tensor) → Int → Option (T_Tensor × Int) := (fun x17 x18 => next (x17, x18))
   show J _ (mat_Do_L1 fu x2 x3 nx1 x17 x18) _
   unfold mat_Do_L1
   conv => arg 1; simp (disch := first | exact Zd | fail) only [ZZ, d11_at, simprocAttr, SE, h1, e_h2, h3']
   refine J.eq go_seq ?_
   conv => arg 1; simp (disch := first | exact Zd | fail) only [ZZ, d11_at, simprocAttr, SE, h1, e_h2, h3']
   refine J.ite (fun h19 => ?_) (fun h19 => ?_)
   ·have h19' := decide_eq_true h19
    have h19'' : decide ((x3.length : Int) ≤ x18) = false := decide_eq_false (by omega)
    conv => arg 1; simp (disch := first | exact Zd | fail) only [ZZ, d11_at, simprocAttr, SE, h1, e_h2, h3', h19'', h19']
    refine J.eq ret_seq ?_
    refine J.eq go_seq ?_
    refine J.at fun x23 h20 h21 h22 => ?_
    conv => arg 1; simp (disch := first | exact Zd | fail) only [ZZ, d11_at, simprocAttr, SE, h1, e_h2, h3', h19'', h19', fm_cut c_T_Tensor_len h22, fm_fit c_T_Tensor_len h22, fm_at c_T_Tensor_len h22, fm_at0 c_T_Tensor_len h22]
    refine J.eq go_seq ?_
    conv => arg 1; simp (disch := first | exact Zd | fail) only [ZZ, d11_at, simprocAttr, SE, h1, e_h2, h3', h19'', h19', fm_cut c_T_Tensor_len h22, fm_fit c_T_Tensor_len h22, fm_at c_T_Tensor_len h22, fm_at0 c_T_Tensor_len h22]
    refine J.ite (fun h23 => ?_) (fun h23 => ?_)
    ·have h23' := decide_eq_true h23
     conv => arg 1; simp (disch := first | exact Zd | fail) only [ZZ, d11_at, simprocAttr, SE, h1, e_h2, h3', h19'', h19', fm_cut c_T_Tensor_len h22, fm_fit c_T_Tensor_len h22, fm_at c_T_Tensor_len h22, fm_at0 c_T_Tensor_len h22, h23']
     refine J.eq ret_seq ?_
     refine J.bind fun x24 h24 => ?_
     have e_h24 := H24_0 _ _ h24
     try simp only [NN, NT, LN, simprocAttr, DT] at e_h24
     refine J.chk fun h25 => ?_
     conv => arg 1; simp (disch := first | exact Zd | fail) only [ZZ, d11_at, simprocAttr, SE, h1, e_h2, h3', h19'', h19', fm_cut c_T_Tensor_len h22, fm_fit c_T_Tensor_len h22, fm_at c_T_Tensor_len h22, fm_at0 c_T_Tensor_len h22, h23', e_h24]
     refine J.eq ret_seq ?_
     conv => arg 1; simp (disch := first | exact Zd | fail) only [ZZ, d11_at, simprocAttr, SE, h1, e_h2, h3', h19'', h19', fm_cut c_T_Tensor_len h22, fm_fit c_T_Tensor_len h22, fm_at c_T_Tensor_len h22, fm_at0 c_T_Tensor_len h22, h23', e_h24]
     refine J.next (s := (x17 ++ ([x24]), wk .i64 (x18 + 1))) hn1 ?_ ?_
     ·first | rfl | (simp only [LN, NN, NT])
     ·first | (simp (disch := first | exact Zd | fail) only [RR, simprocAttr, LN, NN, NT]; done) | (simp (disch := first | exact Zd | fail) only [RR, simprocAttr, LN, fm_app, NN, NT]; done) | rfl
    ·have h23' := decide_eq_false h23
     refine J.bind fun x25 h26 => ?_
     have e_h26 := H23_0 _ _ h26
     try simp only [NN, NT, LN, simprocAttr, DT] at e_h26
     conv => arg 1; simp (disch := first | exact Zd | fail) only [ZZ, d11_at, simprocAttr, SE, h1, e_h2, h3', h19'', h19', fm_cut c_T_Tensor_len h22, fm_fit c_T_Tensor_len h22, fm_at c_T_Tensor_len h22, fm_at0 c_T_Tensor_len h22, h23', e_h26]
     refine J.ite (fun h27 => ?_) (fun h27 => ?_)
     ·have h27' := decide_eq_true h27
      conv => arg 1; simp (disch := first | exact Zd | fail) only [ZZ, d11_at, simprocAttr, SE, h1, e_h2, h3', h19'', h19', fm_cut c_T_Tensor_len h22, fm_fit c_T_Tensor_len h22, fm_at c_T_Tensor_len h22, fm_at0 c_T_Tensor_len h22, h23', e_h26, h27']
      refine J.eq ret_seq ?_
      refine J.bind fun x26 h28 => ?_
      have e_h28 := H24_0 _ _ h28
      try simp only [NN, NT, LN, simprocAttr, DT] at e_h28
      refine J.chk fun h29 => ?_
      conv => arg 1; simp (disch := first | exact Zd | fail) only [ZZ, d11_at, simprocAttr, SE, h1, e_h2, h3', h19'', h19', fm_cut c_T_Tensor_len h22, fm_fit c_T_Tensor_len h22, fm_at c_T_Tensor_len h22, fm_at0 c_T_Tensor_len h22, h23', e_h26, h27', e_h28]
      refine J.eq ret_seq ?_
      conv => arg 1; simp (disch := first | exact Zd | fail) only [ZZ, d11_at, simprocAttr, SE, h1, e_h2, h3', h19'', h19', fm_cut c_T_Tensor_len h22, fm_fit c_T_Tensor_len h22, fm_at c_T_Tensor_len h22, fm_at0 c_T_Tensor_len h22, h23', e_h26, h27', e_h28]
      refine J.next (s := (x17 ++ ([x26]), wk .i64 (x18 + 1))) hn1 ?_ ?_
      ·first | rfl | (simp only [LN, NN, NT])
      ·first | (simp (disch := first | exact Zd | fail) only [RR, simprocAttr, LN, NN, NT]; done) | (simp (disch := first | exact Zd | fail) only [RR, simprocAttr, LN, fm_app, NN, NT]; done) | rfl
     ·have h27' := decide_eq_false h27
      refine J.some ?_
      simp (maxSteps := 20000000) (disch := first | exact Zd | fail) only [ZZ, d11_at, simprocAttr, SE, h1, e_h2, h3', h19'', h19', fm_cut c_T_Tensor_len h22, fm_fit c_T_Tensor_len h22, fm_at c_T_Tensor_len h22, fm_at0 c_T_Tensor_len h22, h23', e_h26, h27', FF, LN, NN, NT]
   ·have h19' := decide_eq_false h19
    have h19'' : decide ((x3.length : Int) ≤ x18) = true := decide_eq_true (by omega)
    conv => arg 1; simp (disch := first | exact Zd | fail) only [ZZ, d11_at, simprocAttr, SE, h1, e_h2, h3', h19'', h19']
    refine J.jmp (t := x17) hj1 ?_ ?_
    ·first | rfl | (simp only [LN, NN, NT])
    ·first | (simp (disch := first | exact Zd | fail) only [RR, simprocAttr, LN, NN, NT]; done) | (simp (disch := first | exact Zd | fail) only [RR, simprocAttr, LN, fm_app, NN, NT]; done) | rfl
 ·have h3' : x4 = false := Bool.eq_false_iff.2 h3
  refine J.some ?_
  simp (maxSteps := 20000000) (disch := first | exact Zd | fail) only [ZZ, d11_at, simprocAttr, SE, h1, e_h2, h3', FF, LN, NN, NT]
noncomputable def t11 (fu : Nat) : CallP := orE 18 (mkC (fun (t : Int) => ([.v (.int .i64 t)] : List AV)) (fun t => mat_Has fu t) e18) (orE 23 (mkC (fun (t : T_Tensor) => ([.agg (c_T_Tensor t)] : List AV)) (fun t => tens_Check fu t) e23) (orE 24 (mkC (fun (t : T_Tensor) => ([.agg (c_T_Tensor t)] : List AV)) (fun t => tens_Canon fu t) e24) (orE 26 (mkC (fun (t : List T_Tensor) => ([.arr t.length (fm c_T_Tensor t)] : List AV)) (fun t => ewise_Vals fu t) e26) (orE 25 (mkC (fun (t : Int × T_Setting × (List T_Val) × Int) => ([.v (.int .i64 t.1), .agg (c_T_Setting t.2.1), .arr t.2.2.1.length (fm c_T_Val t.2.2.1), .v (.int .i64 t.2.2.2)] : List AV)) (fun t => infer_Node fu t.1 t.2.1 t.2.2.1 t.2.2.2) e25) (orE 27 (mkC (fun (t : List Int) => ([.arr t.length (lm (ik .i64) t)] : List AV)) (fun t => shape_Size fu t) e27) (orE 28 (mkC (fun (t : T_Tensor × T_Tensor) => ([.agg (c_T_Tensor t.1), .agg (c_T_Tensor t.2)] : List AV)) (fun t => mat_product fu t.1 t.2) e28) (noP)))))))
theorem t11_ok (fu : Nat) : CpOK Tryz.prog (t11 fu ) := orE_ok (orE_ok (orE_ok (orE_ok (orE_ok (orE_ok (orE_ok (noP_ok) (mkC_ok (fun t b h => ok28 fu t.1 t.2  b h))) (mkC_ok (fun t b h => ok27 fu t  b h))) (mkC_ok (fun t b h => ok25 fu t.1 t.2.1 t.2.2.1 t.2.2.2  b h))) (mkC_ok (fun t b h => ok26 fu t  b h))) (mkC_ok (fun t b h => ok24 fu t  b h))) (mkC_ok (fun t b h => ok23 fu t  b h))) (mkC_ok (fun t b h => ok18 fu t  b h))
theorem ok11 (fu : Nat) (x1 : Int) (x2 : T_Setting) (x3 : List T_Tensor) (r) (h : mat_Do fu x1 x2 x3 = some r) : PureOK Tryz.prog 11 [.v (.int .i64 x1), .agg (c_T_Setting x2), .arr x3.length (fm c_T_Tensor x3)] (e11 r) :=
  pureS_J mixed (cp := t11 fu ) (t11_ok fu  ) noI_ok i11 (w11 _ fu x1 x2 x3  (fun a0 r h => orE_hit (mkC_at (a := a0) (by intro a b h; first | (exact rfl) | (simp only [INJ, IJ] at h; first | exact h | (simp_all [Prod.ext_iff]) )) h)) (fun a0 r h => orE_miss (by decide) (orE_hit (mkC_at (a := a0) (by intro a b h; first | (exact rfl) | (simp only [INJ, IJ] at h; first | exact h | (simp_all [Prod.ext_iff]) )) h))) (fun a0 r h => orE_miss (by decide) (orE_miss (by decide) (orE_hit (mkC_at (a := a0) (by intro a b h; first | (exact rfl) | (simp only [INJ, IJ] at h; first | exact h | (simp_all [Prod.ext_iff]) )) h)))) (fun a0 r h => orE_miss (by decide) (orE_miss (by decide) (orE_miss (by decide) (orE_hit (mkC_at (a := a0) (by intro a b h; first | (exact rfl) | (simp only [INJ, IJ] at h; first | exact h | (simp_all [Prod.ext_iff]) )) h))))) (fun a0 a1 a2 a3 r h => orE_miss (by decide) (orE_miss (by decide) (orE_miss (by decide) (orE_miss (by decide) (orE_hit (mkC_at (a := (a0, a1, a2, a3)) (by intro a b h; first | (exact rfl) | (simp only [INJ, IJ] at h; first | exact h | (simp_all [Prod.ext_iff]) )) h)))))) (fun a0 r h => orE_miss (by decide) (orE_miss (by decide) (orE_miss (by decide) (orE_miss (by decide) (orE_miss (by decide) (orE_hit (mkC_at (a := a0) (by intro a b h; first | (exact rfl) | (simp only [INJ, IJ] at h; first | exact h | (simp_all [Prod.ext_iff]) )) h))))))) (fun a0 a1 r h => orE_miss (by decide) (orE_miss (by decide) (orE_miss (by decide) (orE_miss (by decide) (orE_miss (by decide) (orE_miss (by decide) (orE_hit (mkC_at (a := (a0, a1)) (by intro a b h; first | (exact rfl) | (simp only [INJ, IJ] at h; first | exact h | (simp_all [Prod.ext_iff]) )) h))))))))) h
/-! 17: lattice/latticeref04.SameInts -/
def d17 : List (Nat × List Nat) := [(0, [4]), (0, [0, 1, 5]), (0, [6, 7, 8, 9]), (0, []), (0, []), (0, []), (0, []), (0, []), (0, [11, 12, 13]), (0, []), (0, [15, 16]), (0, []), (9, [17, 18, 19, 20, 21, 22, 23, 24]), (0, []), (0, []), (0, []), (0, [])]
def d17_at := by have h := tabL d17.eq_1; simp only [AllAt, Nat.zero_add, Nat.reduceAdd] at h; exact h
theorem i17 : finfo Tryz.prog 17 d17 = some ⟨bodyOf Tryz.f17, [.tmp 4], [4]⟩ := finfo_at Tryz.func17 rfl (by kernel_rfl) (by kernel_rfl)
def e17 : Bool → AV := fun r => .v (.bool r)
set_option maxHeartbeats 20000000 in
theorem w17 (cp : CallP) (fu : Nat) (x1 : List Int) (x2 : List Int) : J (go Tryz.prog noC cp noI 0 [] d17 fu (fin Tryz.prog [.tmp 4] [4]) (bodyOf Tryz.f17) (initE 0 [.arr x1.length (lm (ik .i64) x1), .arr x2.length (lm (ik .i64) x2)]) [] []) (ref04_SameInts fu x1 x2) e17 := by
 unfold ref04_SameInts e17
 conv => arg 1; simp (disch := first | exact Zd | fail) only [bodyOf, Tryz.f17, ZZ, d17_at, simprocAttr]
 refine J.eq go_seq ?_
 conv => arg 1; simp (disch := first | exact Zd | fail) only [ZZ, d17_at, simprocAttr]
 refine J.ite (fun h1 => ?_) (fun h1 => ?_)
 ·have h1' := decide_eq_true h1
  conv => arg 1; simp (disch := first | exact Zd | fail) only [ZZ, d17_at, simprocAttr, h1']
  refine J.eq ret_seq ?_
  refine J.eq go_seq ?_
  conv => arg 1; simp (disch := first | exact Zd | fail) only [ZZ, d17_at, simprocAttr, h1']
  unfold ref04_SameInts_W1
  refine J.loop (fun (s : Int) => ([(0, .arr x1.length (lm (ik .i64) x1)), (1, .arr x2.length (lm (ik .i64) x2)), (5, .v (.int .i64 s))], [])) (fun next s => ref04_SameInts_L1 fu x1 x2 next s) (s0 := 0) ?_ ?_ ?_
  ·first | rfl | (simp only [LN, NN, NT])
  ·first | (simp (disch := first | exact Zd | fail) only [RR, simprocAttr, LN, NN, NT]; done) | (simp (disch := first | exact Zd | fail) only [RR, simprocAttr, LN, fm_app, NN, NT]; done) | rfl
  rintro nx1 k1 hn1 x5
  show J _ (ref04_SameInts_L1 fu x1 x2 nx1 x5) _
  unfold ref04_SameInts_L1
  refine J.eq go_seq ?_
  conv => arg 1; simp (disch := first | exact Zd | fail) only [ZZ, d17_at, simprocAttr, h1']
  refine J.ite (fun h2 => ?_) (fun h2 => ?_)
  ·have h2' := decide_eq_true h2
   have h2'' : decide ((x1.length : Int) ≤ x5) = false := decide_eq_false (by omega)
   conv => arg 1; simp (disch := first | exact Zd | fail) only [ZZ, d17_at, simprocAttr, h1', h2'', h2']
   refine J.eq ret_seq ?_
   refine J.eq go_seq ?_
   refine J.at fun x8 h3 h4 h5 => ?_
   refine J.at fun x9 h6 h7 h8 => ?_
   conv => arg 1; simp (disch := first | exact Zd | fail) only [ZZ, d17_at, simprocAttr, h1', h2'', h2', lm_ik h5, lm_ik h8]
   refine J.ite (fun h9 => ?_) (fun h9 => ?_)
   ·have h9' := decide_eq_true h9
    conv => arg 1; simp (disch := first | exact Zd | fail) only [ZZ, d17_at, simprocAttr, h1', h2'', h2', lm_ik h5, lm_ik h8, h9']
    refine J.eq ret_seq ?_
    conv => arg 1; simp (disch := first | exact Zd | fail) only [ZZ, d17_at, simprocAttr, h1', h2'', h2', lm_ik h5, lm_ik h8, h9']
    refine J.next (s := wk .i64 (x5 + 1)) hn1 ?_ ?_
    ·first | rfl | (simp only [LN, NN, NT])
    ·first | (simp (disch := first | exact Zd | fail) only [RR, simprocAttr, LN, NN, NT]; done) | (simp (disch := first | exact Zd | fail) only [RR, simprocAttr, LN, fm_app, NN, NT]; done) | rfl
   ·have h9' := decide_eq_false h9
    refine J.some ?_
    simp (maxSteps := 20000000) (disch := first | exact Zd | fail) only [ZZ, d17_at, simprocAttr, h1', h2'', h2', lm_ik h5, lm_ik h8, h9', FF, LN, NN, NT]
  ·have h2' := decide_eq_false h2
   have h2'' : decide ((x1.length : Int) ≤ x5) = true := decide_eq_true (by omega)
   conv => arg 1; simp (disch := first | exact Zd | fail) only [ZZ, d17_at, simprocAttr, h1', h2'', h2']
   refine J.eq ret_seq ?_
   refine J.some ?_
   simp (maxSteps := 20000000) (disch := first | exact Zd | fail) only [ZZ, d17_at, simprocAttr, h1', h2'', h2', FF, LN, NN, NT]
 ·have h1' := decide_eq_false h1
  refine J.some ?_
  simp (maxSteps := 20000000) (disch := first | exact Zd | fail) only [ZZ, d17_at, simprocAttr, h1', FF, LN, NN, NT]
noncomputable def t17 (fu : Nat) : CallP := noP
theorem t17_ok (fu : Nat) : CpOK Tryz.prog (t17 fu ) := noP_ok
theorem ok17 (fu : Nat) (x1 : List Int) (x2 : List Int) (r) (h : ref04_SameInts fu x1 x2 = some r) : PureOK Tryz.prog 17 [.arr x1.length (lm (ik .i64) x1), .arr x2.length (lm (ik .i64) x2)] (e17 r) :=
  pure_J mixed (cp := t17 fu ) (t17_ok fu  ) noI_ok i17 (w17 _ fu x1 x2  ) h
/-! 5: lattice/latticelaw14.MatPicks -/
def d5 : List (Nat × List Nat) := [(0, [0, 4]), (0, [6]), (0, [13]), (0, []), (0, [14, 15, 16, 17, 18, 19, 20, 21, 22, 23, 24, 25, 26, 27, 28, 29, 30, 31, 32, 33]), (0, [2, 7, 9, 11]), (0, [35]), (0, []), (0, []), (0, []), (0, [36, 37, 38, 39]), (0, []), (0, [41, 42]), (0, []), (0, [43, 44, 45, 46, 47, 48]), (0, []), (0, [50]), (0, []), (0, [1, 51, 52, 53, 54, 55, 56, 57]), (0, []), (0, [58, 59, 60, 61, 62]), (0, []), (0, [63, 64, 65, 1000000008]), (0, []), (14013002016015, [8, 66, 67, 68, 69, 70, 71, 72, 73, 74, 75, 76, 77, 78, 79]), (0, []), (11, [10, 80, 81, 82, 83, 84, 85, 86, 87, 88, 89]), (0, []), (0, []), (0, []), (0, []), (0, []), (0, [91, 92, 93, 94, 95]), (0, []), (0, [97, 98]), (0, []), (13, [99, 100, 101, 102, 103, 104, 105, 106, 107, 108, 109, 110]), (0, []), (0, [111, 112]), (0, []), (0, []), (0, []), (0, [12, 114, 115, 116, 117, 118, 119]), (0, []), (0, []), (0, []), (0, [5, 121])]
def d5_at := by have h := tabL d5.eq_1; simp only [AllAt, Nat.zero_add, Nat.reduceAdd] at h; exact h
theorem i5 : finfo Tryz.prog 5 d5 = some ⟨bodyOf Tryz.f5, [.tmp 4], [4]⟩ := finfo_at Tryz.func5 rfl (by kernel_rfl) (by kernel_rfl)
def e5 : Bool → AV := fun r => .v (.bool r)
set_option maxHeartbeats 20000000 in
theorem w5 (cp : CallP) (fu : Nat) (x1 : T_Tensor) (x2 : Int) (H8 : cp 8 [] = some (.v (.bool true))) (H14_0 : ∀ (a0 : T_Tensor) r, ref05_Check fu a0 = some r → cp 14 [.agg (c_T_Tensor a0)] = some (.v (.int .i64 r))) (H15_0 : ∀ (a0 : Int) r, ref01_Abs fu a0 = some r → cp 15 [.v (.int .u32 a0)] = some (.v (.int .u32 r))) (H16_0 : ∀ (a0 : List Int) (a1 : List Int) r, law14_floats fu a0 a1 = some r → cp 16 [.arr a0.length (lm (ik .i64) a0), .arr a1.length (lm (ik .u32) a1)] = some (.agg [.v (.int .i64 r.fType), .arr r.fDims.length (lm (ik .i64) r.fDims), .arr r.fF.length (lm (ik .u32) r.fF), .arr r.fI.length (lm (ik .i64) r.fI), .arr r.fB.length (lm (bk) r.fB)])) (H11_0 : ∀ (a0 : Int) (a1 : T_Setting) (a2 : List T_Tensor) r, mat_Do fu a0 a1 a2 = some r → cp 11 [.v (.int .i64 a0), .agg (c_T_Setting a1), .arr a2.length (fm c_T_Tensor a2)] = some (.tuple [.agg [.v (.int .i64 r.1.fType), .arr r.1.fDims.length (lm (ik .i64) r.1.fDims), .arr r.1.fF.length (lm (ik .u32) r.1.fF), .arr r.1.fI.length (lm (ik .i64) r.1.fI), .arr r.1.fB.length (lm (bk) r.1.fB)], .v (.int .i64 r.2)])) (H17_0 : ∀ (a0 : List Int) (a1 : List Int) r, ref04_SameInts fu a0 a1 = some r → cp 17 [.arr a0.length (lm (ik .i64) a0), .arr a1.length (lm (ik .i64) a1)] = some (.v (.bool r))) : J (go Tryz.prog noCs cp noI 0 [] d5 fu (fin Tryz.prog [.tmp 4] [4]) (bodyOf Tryz.f5) (initE 0 [.agg (c_T_Tensor x1), .v (.int .i64 x2)]) [] []) (law14_MatPicks fu x1 x2) e5 := by
 unfold law14_MatPicks e5
 conv => arg 1; simp (disch := first | exact Zd | fail) only [bodyOf, Tryz.f5, ZZ, d5_at, simprocAttr, RL, aop_callC, aq_callC, H8]
 refine J.joinS (fun (t : Unit) => ([(1, .v (.int .i64 x2)), (2, .ptr (0, 2, 0) 0 0), (5, .v (.bool true))], [((0, 2, 0), .bx true ([.v (.int .i64 x1.fType), .arr x1.fDims.length (lm (ik .i64) x1.fDims), .arr x1.fF.length (lm (ik .u32) x1.fF), .arr x1.fI.length (lm (ik .i64) x1.fI), .arr x1.fB.length (lm (bk) x1.fB)]))])) (fun t => law14_MatPicks_k1 fu x1 x2) ?_ (fun hj1 => ?_)
 ·rintro ⟨⟩
  show J _ (law14_MatPicks_k1 fu x1 x2) _
  unfold law14_MatPicks_k1
  refine J.joinS (fun (t : Unit) => ([(1, .v (.int .i64 x2)), (2, .ptr (0, 2, 0) 0 0), (5, .v (.bool true))], [((0, 2, 0), .bx true ([.v (.int .i64 x1.fType), .arr x1.fDims.length (lm (ik .i64) x1.fDims), .arr x1.fF.length (lm (ik .u32) x1.fF), .arr x1.fI.length (lm (ik .i64) x1.fI), .arr x1.fB.length (lm (bk) x1.fB)]))])) (fun t => law14_MatPicks_k2 fu x1 x2) ?_ (fun hj2 => ?_)
  ·rintro ⟨⟩
   show J _ (law14_MatPicks_k2 fu x1 x2) _
   unfold law14_MatPicks_k2
   refine J.at fun x3 h1 h2 h3 => ?_
   replace h3 : x1.fDims[0]? = some x3 := h3
   refine J.chk fun h4 => ?_
   refine J.chk fun h5 => ?_
   refine J.chk fun h6 => ?_
   refine J.bind fun x4 h7 => ?_
   have e_h7 := H16_0 _ _ _ h7
   try simp only [NN, NT, LN, simprocAttr, DT] at e_h7
   refine J.bind fun x5 h8 => ?_
   have e_h8 := H11_0 _ _ _ _ h8
   try simp only [NN, NT, LN, simprocAttr, DT] at e_h8
   conv => arg 1; simp (disch := first | exact Zd | fail) only [ZZ, d5_at, simprocAttr, RL, aop_callC, aq_callC, H8, lm_ik h3, e_h7, e_h8]
   refine J.joinS (fun (t : Unit) => ([(2, .ptr (0, 2, 0) 0 0), (5, .v (.bool true)), (7, .v (.int .i64 (Int.tmod (band .i64 x2 65535) x3))), (9, .ptr (0, 9, 0) 0 0)], [((0, 2, 0), .bx true ([.v (.int .i64 x1.fType), .arr x1.fDims.length (lm (ik .i64) x1.fDims), .arr x1.fF.length (lm (ik .u32) x1.fF), .arr x1.fI.length (lm (ik .i64) x1.fI), .arr x1.fB.length (lm (bk) x1.fB)])), ((0, 9, 0), .bx true ([.v (.int .i64 x5.1.fType), .arr x5.1.fDims.length (lm (ik .i64) x5.1.fDims), .arr x5.1.fF.length (lm (ik .u32) x5.1.fF), .arr x5.1.fI.length (lm (ik .i64) x5.1.fI), .arr x5.1.fB.length (lm (bk) x5.1.fB)]))])) (fun t => law14_MatPicks_k3 fu x1 x2 x3 x5) ?_ (fun hj3 => ?_)
   ·rintro ⟨⟩
    show J _ (law14_MatPicks_k3 fu x1 x2 x3 x5) _
    unfold law14_MatPicks_k3
    refine J.eq go_seq ?_
    conv => arg 1; simp (disch := first | exact Zd | fail) only [ZZ, d5_at, simprocAttr, RL, aop_callC, aq_callC, H8, lm_ik h3, e_h7, e_h8]
    unfold law14_MatPicks_W1
    refine J.loop (fun (s : Int) => ([(2, .ptr (0, 2, 0) 0 0), (5, .v (.bool true)), (7, .v (.int .i64 (Int.tmod (band .i64 x2 65535) x3))), (9, .ptr (0, 9, 0) 0 0), (11, .v (.int .i64 s))], [((0, 2, 0), .bx true ([.v (.int .i64 x1.fType), .arr x1.fDims.length (lm (ik .i64) x1.fDims), .arr x1.fF.length (lm (ik .u32) x1.fF), .arr x1.fI.length (lm (ik .i64) x1.fI), .arr x1.fB.length (lm (bk) x1.fB)])), ((0, 9, 0), .bx true ([.v (.int .i64 x5.1.fType), .arr x5.1.fDims.length (lm (ik .i64) x5.1.fDims), .arr x5.1.fF.length (lm (ik .u32) x5.1.fF), .arr x5.1.fI.length (lm (ik .i64) x5.1.fI), .arr x5.1.fB.length (lm (bk) x5.1.fB)]))])) (fun next s => law14_MatPicks_L1 fu x1 x2 x3 x5 next s) (s0 := 0) ?_ ?_ ?_
    ·first | rfl | (simp only [LN, NN, NT])
    ·first | (simp (disch := first | exact Zd | fail) only [RR, simprocAttr, LN, NN, NT]; done) | (simp (disch := first | exact Zd | fail) only [RR, simprocAttr, LN, fm_app, NN, NT]; done) | rfl
    rintro nx1 k1 hn1 x11
    show J _ (law14_MatPicks_L1 fu x1 x2 x3 x5 nx1 x11) _
    unfold law14_MatPicks_L1
    refine J.eq go_seq ?_
    refine J.at fun x17 h9 h10 h11 => ?_
    replace h11 : x1.fDims[1]? = some x17 := h11
    conv => arg 1; simp (disch := first | exact Zd | fail) only [ZZ, d5_at, simprocAttr, RL, aop_callC, aq_callC, H8, lm_ik h3, e_h7, e_h8, lm_ik h11]
    refine J.ite (fun h12 => ?_) (fun h12 => ?_)
    ·have h12' := decide_eq_true h12
     have h12'' : decide (x17 ≤ x11) = false := decide_eq_false (by omega)
     conv => arg 1; simp (disch := first | exact Zd | fail) only [ZZ, d5_at, simprocAttr, RL, aop_callC, aq_callC, H8, lm_ik h3, e_h7, e_h8, lm_ik h11, h12'', h12']
     refine J.eq ret_seq ?_
     refine J.eq go_seq ?_
     refine J.at fun x18 h13 h14 h15 => ?_
     conv => arg 1; simp (disch := first | exact Zd | fail) only [ZZ, d5_at, simprocAttr, RL, aop_callC, aq_callC, H8, lm_ik h3, e_h7, e_h8, lm_ik h11, h12'', h12', lm_ik h15]
     refine J.joinS (fun (t : Int) => ([(2, .ptr (0, 2, 0) 0 0), (5, .v (.bool true)), (7, .v (.int .i64 (Int.tmod (band .i64 x2 65535) x3))), (9, .ptr (0, 9, 0) 0 0), (11, .v (.int .i64 x11)), (12, .v (.int .u32 t))], [((0, 2, 0), .bx true ([.v (.int .i64 x1.fType), .arr x1.fDims.length (lm (ik .i64) x1.fDims), .arr x1.fF.length (lm (ik .u32) x1.fF), .arr x1.fI.length (lm (ik .i64) x1.fI), .arr x1.fB.length (lm (bk) x1.fB)])), ((0, 9, 0), .bx true ([.v (.int .i64 x5.1.fType), .arr x5.1.fDims.length (lm (ik .i64) x5.1.fDims), .arr x5.1.fF.length (lm (ik .u32) x5.1.fF), .arr x5.1.fI.length (lm (ik .i64) x5.1.fI), .arr x5.1.fB.length (lm (bk) x5.1.fB)]))])) (fun t => law14_MatPicks_k4 fu nx1 x5 x11 t) ?_ (fun hj4 => ?_)
     ·rintro x19
      show J _ (law14_MatPicks_k4 fu nx1 x5 x11 x19) _
      unfold law14_MatPicks_k4
      refine J.at fun x20 h16 h17 h18 => ?_
      conv => arg 1; simp (disch := first | exact Zd | fail) only [ZZ, d5_at, simprocAttr, RL, aop_callC, aq_callC, H8, lm_ik h3, e_h7, e_h8, lm_ik h11, h12'', h12', lm_ik h15, lm_ik h18]
      refine J.ite (fun h19 => ?_) (fun h19 => ?_)
      ·have h19' := decide_eq_true h19
       conv => arg 1; simp (disch := first | exact Zd | fail) only [ZZ, d5_at, simprocAttr, RL, aop_callC, aq_callC, H8, lm_ik h3, e_h7, e_h8, lm_ik h11, h12'', h12', lm_ik h15, lm_ik h18, h19']
       refine J.eq ret_seq ?_
       conv => arg 1; simp (disch := first | exact Zd | fail) only [ZZ, d5_at, simprocAttr, RL, aop_callC, aq_callC, H8, lm_ik h3, e_h7, e_h8, lm_ik h11, h12'', h12', lm_ik h15, lm_ik h18, h19']
       refine J.next (s := wk .i64 (x11 + 1)) hn1 ?_ ?_
       ·first | rfl | (simp only [LN, NN, NT])
       ·first | (simp (disch := first | exact Zd | fail) only [RR, simprocAttr, LN, NN, NT]; done) | (simp (disch := first | exact Zd | fail) only [RR, simprocAttr, LN, fm_app, NN, NT]; done) | rfl
      ·have h19' := decide_eq_false h19
       refine J.some ?_
       simp (maxSteps := 20000000) (disch := first | exact Zd | fail) only [ZZ, d5_at, simprocAttr, RL, aop_callC, aq_callC, H8, lm_ik h3, e_h7, e_h8, lm_ik h11, h12'', h12', lm_ik h15, lm_ik h18, h19', FF, LN, NN, NT]
     ·refine J.bind fun x21 h20 => ?_
      have e_h20 := H15_0 _ _ h20
      try simp only [NN, NT, LN, simprocAttr, DT] at e_h20
      conv => arg 1; simp (disch := first | exact Zd | fail) only [ZZ, d5_at, simprocAttr, RL, aop_callC, aq_callC, H8, lm_ik h3, e_h7, e_h8, lm_ik h11, h12'', h12', lm_ik h15, e_h20]
      refine J.ite (fun h21 => ?_) (fun h21 => ?_)
      ·have h21' := decide_eq_true h21
       conv => arg 1; simp (disch := first | exact Zd | fail) only [ZZ, d5_at, simprocAttr, RL, aop_callC, aq_callC, H8, lm_ik h3, e_h7, e_h8, lm_ik h11, h12'', h12', lm_ik h15, e_h20, h21']
       refine J.jmp (t := 0) hj4 ?_ ?_
       ·first | rfl | (simp only [LN, NN, NT])
       ·first | (simp (disch := first | exact Zd | fail) only [RR, simprocAttr, LN, NN, NT]; done) | (simp (disch := first | exact Zd | fail) only [RR, simprocAttr, LN, fm_app, NN, NT]; done) | rfl
      ·have h21' := decide_eq_false h21
       conv => arg 1; simp (disch := first | exact Zd | fail) only [ZZ, d5_at, simprocAttr, RL, aop_callC, aq_callC, H8, lm_ik h3, e_h7, e_h8, lm_ik h11, h12'', h12', lm_ik h15, e_h20, h21']
       refine J.jmp (t := x18) hj4 ?_ ?_
       ·first | rfl | (simp only [LN, NN, NT])
       ·first | (simp (disch := first | exact Zd | fail) only [RR, simprocAttr, LN, NN, NT]; done) | (simp (disch := first | exact Zd | fail) only [RR, simprocAttr, LN, fm_app, NN, NT]; done) | rfl
    ·have h12' := decide_eq_false h12
     have h12'' : decide (x17 ≤ x11) = true := decide_eq_true (by omega)
     conv => arg 1; simp (disch := first | exact Zd | fail) only [ZZ, d5_at, simprocAttr, RL, aop_callC, aq_callC, H8, lm_ik h3, e_h7, e_h8, lm_ik h11, h12'', h12']
     refine J.eq ret_seq ?_
     refine J.some ?_
     simp (maxSteps := 20000000) (disch := first | exact Zd | fail) only [ZZ, d5_at, simprocAttr, RL, aop_callC, aq_callC, H8, lm_ik h3, e_h7, e_h8, lm_ik h11, h12'', h12', FF, LN, NN, NT]
   ·refine J.eq go_seq ?_
    conv => arg 1; simp (disch := first | exact Zd | fail) only [ZZ, d5_at, simprocAttr, RL, aop_callC, aq_callC, H8, lm_ik h3, e_h7, e_h8]
    refine J.ite (fun h22 => ?_) (fun h22 => ?_)
    ·have h22' := decide_eq_true h22
     refine J.chk fun h23 => ?_
     refine J.bind fun x22 h24 => ?_
     have e_h24 := H17_0 _ _ _ h24
     try simp only [NN, NT, LN, simprocAttr, DT] at e_h24
     conv => arg 1; simp (disch := first | exact Zd | fail) only [ZZ, d5_at, simprocAttr, RL, aop_callC, aq_callC, H8, lm_ik h3, e_h7, e_h8, h22', e_h24]
     refine J.eq ret_seq ?_
     conv => arg 1; simp (disch := first | exact Zd | fail) only [ZZ, d5_at, simprocAttr, RL, aop_callC, aq_callC, H8, lm_ik h3, e_h7, e_h8, h22', e_h24]
     refine J.ite (fun h25 => ?_) (fun h25 => ?_)
     ·have h25' : x22 = true := h25
      conv => arg 1; simp (disch := first | exact Zd | fail) only [ZZ, d5_at, simprocAttr, RL, aop_callC, aq_callC, H8, lm_ik h3, e_h7, e_h8, h22', e_h24, h25']
      refine J.jmp (t := ()) hj3 ?_ ?_
      ·first | rfl | (simp only [LN, NN, NT])
      ·first | (simp (disch := first | exact Zd | fail) only [RR, simprocAttr, LN, NN, NT]; done) | (simp (disch := first | exact Zd | fail) only [RR, simprocAttr, LN, fm_app, NN, NT]; done) | rfl
     ·have h25' : x22 = false := Bool.eq_false_iff.2 h25
      refine J.some ?_
      simp (maxSteps := 20000000) (disch := first | exact Zd | fail) only [ZZ, d5_at, simprocAttr, RL, aop_callC, aq_callC, H8, lm_ik h3, e_h7, e_h8, h22', e_h24, h25', FF, LN, NN, NT]
    ·have h22' := decide_eq_false h22
     conv => arg 1; simp (disch := first | exact Zd | fail) only [ZZ, d5_at, simprocAttr, RL, aop_callC, aq_callC, H8, lm_ik h3, e_h7, e_h8, h22']
     refine J.eq ret_seq ?_
     refine J.some ?_
     simp (maxSteps := 20000000) (disch := first | exact Zd | fail) only [ZZ, d5_at, simprocAttr, RL, aop_callC, aq_callC, H8, lm_ik h3, e_h7, e_h8, h22', FF, LN, NN, NT]
  ·conv => arg 1; simp (disch := first | exact Zd | fail) only [ZZ, d5_at, simprocAttr, RL, aop_callC, aq_callC, H8]
   unfold law14_MatPicks_W2
   refine J.loop (fun (s : Int) => ([(1, .v (.int .i64 x2)), (2, .ptr (0, 2, 0) 0 0), (5, .v (.bool true)), (6, .v (.int .i64 s))], [((0, 2, 0), .bx true ([.v (.int .i64 x1.fType), .arr x1.fDims.length (lm (ik .i64) x1.fDims), .arr x1.fF.length (lm (ik .u32) x1.fF), .arr x1.fI.length (lm (ik .i64) x1.fI), .arr x1.fB.length (lm (bk) x1.fB)]))])) (fun next s => law14_MatPicks_L2 fu x1 x2 next s) (s0 := 0) ?_ ?_ ?_
   ·first | rfl | (simp only [LN, NN, NT])
   ·first | (simp (disch := first | exact Zd | fail) only [RR, simprocAttr, LN, NN, NT]; done) | (simp (disch := first | exact Zd | fail) only [RR, simprocAttr, LN, fm_app, NN, NT]; done) | rfl
   rintro nx2 k2 hn2 x25
   show J _ (law14_MatPicks_L2 fu x1 x2 nx2 x25) _
   unfold law14_MatPicks_L2
   refine J.eq go_seq ?_
   conv => arg 1; simp (disch := first | exact Zd | fail) only [ZZ, d5_at, simprocAttr, RL, aop_callC, aq_callC, H8]
   refine J.ite (fun h26 => ?_) (fun h26 => ?_)
   ·have h26' := decide_eq_true h26
    have h26'' : decide ((x1.fF.length : Int) ≤ x25) = false := decide_eq_false (by omega)
    conv => arg 1; simp (disch := first | exact Zd | fail) only [ZZ, d5_at, simprocAttr, RL, aop_callC, aq_callC, H8, h26'', h26']
    refine J.eq ret_seq ?_
    refine J.eq go_seq ?_
    refine J.at fun x28 h27 h28 h29 => ?_
    refine J.bind fun x29 h30 => ?_
    have e_h30 := H15_0 _ _ h30
    try simp only [NN, NT, LN, simprocAttr, DT] at e_h30
    conv => arg 1; simp (disch := first | exact Zd | fail) only [ZZ, d5_at, simprocAttr, RL, aop_callC, aq_callC, H8, h26'', h26', lm_ik h29, e_h30]
    refine J.ite (fun h31 => ?_) (fun h31 => ?_)
    ·have h31' := decide_eq_true h31
     have h31'' : decide (x29 < 2139095040) = false := decide_eq_false (by omega)
     refine J.some ?_
     simp (maxSteps := 20000000) (disch := first | exact Zd | fail) only [ZZ, d5_at, simprocAttr, RL, aop_callC, aq_callC, H8, h26'', h26', lm_ik h29, e_h30, h31'', h31', FF, LN, NN, NT]
    ·have h31' := decide_eq_false h31
     have h31'' : decide (x29 < 2139095040) = true := decide_eq_true (by omega)
     conv => arg 1; simp (disch := first | exact Zd | fail) only [ZZ, d5_at, simprocAttr, RL, aop_callC, aq_callC, H8, h26'', h26', lm_ik h29, e_h30, h31'', h31']
     refine J.eq ret_seq ?_
     conv => arg 1; simp (disch := first | exact Zd | fail) only [ZZ, d5_at, simprocAttr, RL, aop_callC, aq_callC, H8, h26'', h26', lm_ik h29, e_h30, h31'', h31']
     refine J.next (s := wk .i64 (x25 + 1)) hn2 ?_ ?_
     ·first | rfl | (simp only [LN, NN, NT])
     ·first | (simp (disch := first | exact Zd | fail) only [RR, simprocAttr, LN, NN, NT]; done) | (simp (disch := first | exact Zd | fail) only [RR, simprocAttr, LN, fm_app, NN, NT]; done) | rfl
   ·have h26' := decide_eq_false h26
    have h26'' : decide ((x1.fF.length : Int) ≤ x25) = true := decide_eq_true (by omega)
    conv => arg 1; simp (disch := first | exact Zd | fail) only [ZZ, d5_at, simprocAttr, RL, aop_callC, aq_callC, H8, h26'', h26']
    refine J.jmp (t := ()) hj2 ?_ ?_
    ·first | rfl | (simp only [LN, NN, NT])
    ·first | (simp (disch := first | exact Zd | fail) only [RR, simprocAttr, LN, NN, NT]; done) | (simp (disch := first | exact Zd | fail) only [RR, simprocAttr, LN, fm_app, NN, NT]; done) | rfl
 ·refine J.eq go_seq ?_
  refine J.bind fun x30 h32 => ?_
  have e_h32 := H14_0 _ _ h32
  try simp only [NN, NT, LN, simprocAttr, DT] at e_h32
  conv => arg 1; simp (disch := first | exact Zd | fail) only [ZZ, d5_at, simprocAttr, RL, aop_callC, aq_callC, H8, e_h32]
  refine J.ite (fun h33 => ?_) (fun h33 => ?_)
  ·have h33' := decide_eq_true h33
   conv => arg 1; simp (disch := first | exact Zd | fail) only [ZZ, d5_at, simprocAttr, RL, aop_callC, aq_callC, H8, e_h32, h33']
   refine J.ite (fun h34 => ?_) (fun h34 => ?_)
   ·have h34' := decide_eq_true h34
    conv => arg 1; simp (disch := first | exact Zd | fail) only [ZZ, d5_at, simprocAttr, RL, aop_callC, aq_callC, H8, e_h32, h33', h34']
    refine J.ite (fun h35 => ?_) (fun h35 => ?_)
    ·have h35' := decide_eq_true h35
     refine J.at fun x31 h36 h37 h38 => ?_
     replace h38 : x1.fDims[0]? = some x31 := h38
     conv => arg 1; simp (disch := first | exact Zd | fail) only [ZZ, d5_at, simprocAttr, RL, aop_callC, aq_callC, H8, e_h32, h33', h34', h35', lm_ik h38]
     refine J.eq ret_seq ?_
     conv => arg 1; simp (disch := first | exact Zd | fail) only [ZZ, d5_at, simprocAttr, RL, aop_callC, aq_callC, H8, e_h32, h33', h34', h35', lm_ik h38]
     refine J.ite (fun h39 => ?_) (fun h39 => ?_)
     ·have h39' := decide_eq_true h39
      refine J.some ?_
      simp (maxSteps := 20000000) (disch := first | exact Zd | fail) only [ZZ, d5_at, simprocAttr, RL, aop_callC, aq_callC, H8, e_h32, h33', h34', h35', lm_ik h38, h39', FF, LN, NN, NT]
     ·have h39' := decide_eq_false h39
      conv => arg 1; simp (disch := first | exact Zd | fail) only [ZZ, d5_at, simprocAttr, RL, aop_callC, aq_callC, H8, e_h32, h33', h34', h35', lm_ik h38, h39']
      refine J.jmp (t := ()) hj1 ?_ ?_
      ·first | rfl | (simp only [LN, NN, NT])
      ·first | (simp (disch := first | exact Zd | fail) only [RR, simprocAttr, LN, NN, NT]; done) | (simp (disch := first | exact Zd | fail) only [RR, simprocAttr, LN, fm_app, NN, NT]; done) | rfl
    ·have h35' := decide_eq_false h35
     conv => arg 1; simp (disch := first | exact Zd | fail) only [ZZ, d5_at, simprocAttr, RL, aop_callC, aq_callC, H8, e_h32, h33', h34', h35']
     refine J.eq ret_seq ?_
     refine J.some ?_
     simp (maxSteps := 20000000) (disch := first | exact Zd | fail) only [ZZ, d5_at, simprocAttr, RL, aop_callC, aq_callC, H8, e_h32, h33', h34', h35', FF, LN, NN, NT]
   ·have h34' := decide_eq_false h34
    conv => arg 1; simp (disch := first | exact Zd | fail) only [ZZ, d5_at, simprocAttr, RL, aop_callC, aq_callC, H8, e_h32, h33', h34']
    refine J.eq ret_seq ?_
    refine J.some ?_
    simp (maxSteps := 20000000) (disch := first | exact Zd | fail) only [ZZ, d5_at, simprocAttr, RL, aop_callC, aq_callC, H8, e_h32, h33', h34', FF, LN, NN, NT]
  ·have h33' := decide_eq_false h33
   conv => arg 1; simp (disch := first | exact Zd | fail) only [ZZ, d5_at, simprocAttr, RL, aop_callC, aq_callC, H8, e_h32, h33']
   refine J.eq ret_seq ?_
   refine J.some ?_
   simp (maxSteps := 20000000) (disch := first | exact Zd | fail) only [ZZ, d5_at, simprocAttr, RL, aop_callC, aq_callC, H8, e_h32, h33', FF, LN, NN, NT]
noncomputable def t5 (fu : Nat) : CallP := orE 8 (mkC (fun (_ : Unit) => ([] : List AV)) (fun _ => some true) (fun b => .v (.bool b))) (orE 14 (mkC (fun (t : T_Tensor) => ([.agg (c_T_Tensor t)] : List AV)) (fun t => ref05_Check fu t) e14) (orE 15 (mkC (fun (t : Int) => ([.v (.int .u32 t)] : List AV)) (fun t => ref01_Abs fu t) e15) (orE 16 (mkC (fun (t : (List Int) × (List Int)) => ([.arr t.1.length (lm (ik .i64) t.1), .arr t.2.length (lm (ik .u32) t.2)] : List AV)) (fun t => law14_floats fu t.1 t.2) e16) (orE 11 (mkC (fun (t : Int × T_Setting × (List T_Tensor)) => ([.v (.int .i64 t.1), .agg (c_T_Setting t.2.1), .arr t.2.2.length (fm c_T_Tensor t.2.2)] : List AV)) (fun t => mat_Do fu t.1 t.2.1 t.2.2) e11) (orE 17 (mkC (fun (t : (List Int) × (List Int)) => ([.arr t.1.length (lm (ik .i64) t.1), .arr t.2.length (lm (ik .i64) t.2)] : List AV)) (fun t => ref04_SameInts fu t.1 t.2) e17) (noP))))))
theorem t5_ok (fu : Nat) : CpOK Tryz.prog (t5 fu ) := orE_ok (orE_ok (orE_ok (orE_ok (orE_ok (orE_ok (noP_ok) (mkC_ok (fun t b h => ok17 fu t.1 t.2  b h))) (mkC_ok (fun t b h => ok11 fu t.1 t.2.1 t.2.2  b h))) (mkC_ok (fun t b h => ok16 fu t.1 t.2  b h))) (mkC_ok (fun t b h => ok15 fu t  b h))) (mkC_ok (fun t b h => ok14 fu t  b h))) (mkC_ok (fun _ b h => by injection h with h; subst h; exact awake8))
theorem ok5 (fu : Nat) (x1 : T_Tensor) (x2 : Int) (r) (h : law14_MatPicks fu x1 x2 = some r) : PureOK Tryz.prog 5 [.agg (c_T_Tensor x1), .v (.int .i64 x2)] (e5 r) :=
  pure_J mixed (cp := t5 fu ) (t5_ok fu  ) noI_ok i5 (w5 _ fu x1 x2  (orE_hit (mkC_at (a := ()) (fun _ _ _ => rfl) rfl)) (fun a0 r h => orE_miss (by decide) (orE_hit (mkC_at (a := a0) (by intro a b h; first | (exact rfl) | (simp only [INJ, IJ] at h; first | exact h | (simp_all [Prod.ext_iff]) )) h))) (fun a0 r h => orE_miss (by decide) (orE_miss (by decide) (orE_hit (mkC_at (a := a0) (by intro a b h; first | (exact rfl) | (simp only [INJ, IJ] at h; first | exact h | (simp_all [Prod.ext_iff]) )) h)))) (fun a0 a1 r h => orE_miss (by decide) (orE_miss (by decide) (orE_miss (by decide) (orE_hit (mkC_at (a := (a0, a1)) (by intro a b h; first | (exact rfl) | (simp only [INJ, IJ] at h; first | exact h | (simp_all [Prod.ext_iff]) )) h))))) (fun a0 a1 a2 r h => orE_miss (by decide) (orE_miss (by decide) (orE_miss (by decide) (orE_miss (by decide) (orE_hit (mkC_at (a := (a0, a1, a2)) (by intro a b h; first | (exact rfl) | (simp only [INJ, IJ] at h; first | exact h | (simp_all [Prod.ext_iff]) )) h)))))) (fun a0 a1 r h => orE_miss (by decide) (orE_miss (by decide) (orE_miss (by decide) (orE_miss (by decide) (orE_miss (by decide) (orE_hit (mkC_at (a := (a0, a1)) (by intro a b h; first | (exact rfl) | (simp only [INJ, IJ] at h; first | exact h | (simp_all [Prod.ext_iff]) )) h)))))))) h
end Go.Av
