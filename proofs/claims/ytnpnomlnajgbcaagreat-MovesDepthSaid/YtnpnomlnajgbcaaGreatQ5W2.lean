/- The walks of the plain functions, part 2. Made by a program of mine. Conditions: none. -/
import Derived.Test.YtnpnomlnajgbcaaGreatQ5W1
set_option linter.unusedVariables false
set_option linter.unusedSimpArgs false
set_option linter.defProp false
set_option maxRecDepth 20000
open Go Go.Proofs
namespace Go.Av
open Aw (d17 d18 d19 d21 d31 d32 d33 d35 d36 d57 d58 d59 d60 d61 d62 d63 d64 d65 d68 d69 d70 d71 d72 d83 d84 d112 d113 d116 d117 d118 d123 d124 d125 d126 d127 d128 d129 d130 d132 d154 d155)
/-! 143: (lattice/infer.ask).counted -/
def d143 : List (Nat × List Nat) := [(0, [0, 2, 3]), (0, [20]), (7, [14, 15, 16, 17, 18]), (0, [1, 4, 5]), (0, [19]), (0, []), (0, [22]), (0, []), (0, [23, 24, 25]), (0, []), (0, [26]), (0, []), (0, [28, 29, 30, 31]), (0, []), (0, [32, 33, 34, 35, 36, 37, 38]), (0, []), (0, [6, 39, 40, 41, 42, 43, 44, 45]), (0, []), (0, [8, 10, 46, 47, 48, 49, 50]), (0, []), (0, []), (0, []), (0, [7, 9, 52, 53, 54, 55, 56, 57]), (0, []), (0, [59]), (0, []), (0, [60, 61, 62, 63, 64, 65, 66, 67]), (0, []), (0, [11, 12, 68, 69, 70, 71, 72, 73, 74, 75]), (0, []), (0, [77]), (0, []), (0, [78, 79, 80]), (0, []), (0, [82]), (0, []), (0, [83, 84]), (0, []), (0, [85]), (0, []), (0, [87, 88, 89]), (0, []), (0, [13, 90, 91, 92, 93]), (0, []), (0, [95, 96, 97]), (0, []), (0, [98, 99, 100]), (0, []), (0, [102, 103, 104, 105, 106, 107, 108, 109, 110, 111, 112, 113, 114]), (0, []), (26, [115, 116, 117, 118, 119, 120, 121, 122, 123, 124, 125, 126, 127, 128, 129, 130, 131, 132, 133, 134, 135, 136, 137, 138]), (0, []), (0, [140, 141, 142, 143, 144, 145, 146, 147, 148, 149, 150, 151, 152, 153, 154, 155, 156, 157, 158]), (0, []), (26, [159, 160, 161, 162, 163, 164, 165, 166, 167, 168, 169, 170, 171, 172, 173, 174, 175, 176, 177, 178, 179, 180, 181, 182]), (0, []), (0, [183, 184, 185])]
def d143_at := by have h := tabL d143.eq_1; simp only [AllAt, Nat.zero_add, Nat.reduceAdd] at h; exact h
theorem i143 : finfo Tryz.prog 143 d143 = some ⟨bodyOf Tryz.f143, [.tmp 2, .tmp 3], [69, 30]⟩ := finfo_at Tryz.func143 rfl (by kernel_rfl) (by kernel_rfl)
def e143 : ((List (List Int)) × Int) → AV := fun r => .tuple [.arr r.1.length (lm (avl (ik .i64)) r.1), .v (.int .i64 r.2)]
set_option maxHeartbeats 20000000 in
theorem w143 (cp : CallP) (fu : Nat) (x1 : T_infer_ask) (H72_0 : ∀ (a0 : T_infer_ask) (a1 : Int) r, infer_ask_dims fu a0 a1 = some r → cp 72 [.agg (c_T_infer_ask a0), .v (.int .i64 a1)] = some (.arr r.length (lm (ik .i64) r))) (H83_0 : ∀ (a0 : List Int) r, infer_one fu a0 = some r → cp 83 [.arr a0.length (lm (ik .i64) a0)] = some (.tuple [.arr r.1.length (lm (avl (ik .i64)) r.1), .v (.int .i64 r.2)])) (H75_0 : ∀ r, infer_misfit fu = some r → cp 75 [] = some (.tuple [.arr r.1.length (lm (avl (ik .i64)) r.1), .v (.int .i64 r.2)])) : J (go Tryz.prog noCs cp noI 0 [] d143 fu (fin Tryz.prog [.tmp 2, .tmp 3] [69, 30]) (bodyOf Tryz.f143) (initE 0 [.agg (c_T_infer_ask x1)]) [] []) (infer_ask_counted fu x1) e143 := by
 unfold infer_ask_counted e143
 have da := d143_at
 refine J.spl (fun h1 => ?_) (fun h1 => ?_)
 ·refine J.bind fun x2 h2 => ?_
  have e_h2 := H72_0 _ _ _ h2
  try simp only [NN, NT, LN, simprocAttr, DT] at e_h2
  conv => arg 1; simp (disch := first | exact Zd | fail) only [bodyOf, Tryz.f143, ZZ, d143_at, simprocAttr, aop_callC, aq_callC, h1, e_h2]
  refine J.eq go_seq ?_
  conv => arg 1; simp (disch := first | exact Zd | fail) only [ZZ, d143_at, simprocAttr, aop_callC, aq_callC, h1, e_h2]
  refine J.eq ret_seq ?_
  refine J.joinS (fun (t : Unit) => ([], [((0, 1, 0), .bx true ([.v (.int .i64 63), .v (.int .i64 x1.fs.fAxis), .arr x1.fs.fAxes.length (lm (ik .i64) x1.fs.fAxes), .v (.bool x1.fs.fHasAxes), .v (.bool x1.fs.fKeep), .v (.bool x1.fs.fNoop), .v (.bool x1.fs.fLast), .v (.bool x1.fs.fZero), .arr x1.fs.fPerm.length (lm (ik .i64) x1.fs.fPerm), .v (.bool x1.fs.fHasPerm), .v (.int .u32 x1.fs.fAlpha), .v (.int .u32 x1.fs.fBeta), .v (.int .u32 x1.fs.fEpsilon), .v (.bool x1.fs.fLow), .v (.bool x1.fs.fHigh), .v (.bool x1.fs.fFmod), .v (.int .i64 x1.fs.fTo), .v (.int .i64 x1.fs.fMode), .v (.bool x1.fs.fTransA), .v (.bool x1.fs.fTransB), .v (.int .i64 x1.fs.fGroup), .arr x1.fs.fKernel.length (lm (ik .i64) x1.fs.fKernel), .arr x1.fs.fStrides.length (lm (ik .i64) x1.fs.fStrides), .arr x1.fs.fPads.length (lm (ik .i64) x1.fs.fPads), .arr x1.fs.fDilations.length (lm (ik .i64) x1.fs.fDilations), .v (.int .i64 x1.fs.fAuto), .v (.bool x1.fs.fCeil), .v (.bool x1.fs.fCount), .v (.int .i64 x1.fs.fBlock), .v (.int .i64 x1.fs.fStart), .v (.int .i64 x1.fs.fEnd), .v (.bool x1.fs.fHasEnd), .v (.int .i64 x1.fs.fValue.fType), .arr x1.fs.fValue.fDims.length (lm (ik .i64) x1.fs.fValue.fDims), .arr x1.fs.fValue.fF.length (lm (ik .u32) x1.fs.fValue.fF), .arr x1.fs.fValue.fI.length (lm (ik .i64) x1.fs.fValue.fI), .arr x1.fs.fValue.fB.length (lm (bk) x1.fs.fValue.fB), .arr x1.fin.length (fm c_T_Val x1.fin), .v (.int .i64 x1.fouts)]))])) (fun t => infer_ask_counted.k1 fu) ?_ (fun hj1 => ?_)
  ·rintro ⟨⟩
   show J _ (infer_ask_counted.k1 fu) _
   unfold infer_ask_counted.k1
   refine J.bind fun x3 h3 => ?_
   have e_h3 := H75_0  _ h3
   try simp only [NN, NT, LN, simprocAttr, DT] at e_h3
   refine J.some ?_
   simp (maxSteps := 20000000) (disch := first | exact Zd | fail) only [ZZ, d143_at, simprocAttr, aop_callC, aq_callC, h1, e_h2, e_h3, FN]
  ·refine J.hd jn_at ?_
   conv => arg 1; simp (disch := first | exact Zd | fail) only [ZZ, d143_at, simprocAttr, aop_callC, aq_callC, h1, e_h2]
   refine J.ite (fun h4 => ?_) (fun h4 => ?_)
   ·have h4' := decide_eq_true h4
    conv => arg 1; simp (disch := first | exact Zd | fail) only [ZZ, d143_at, simprocAttr, aop_callC, aq_callC, h1, e_h2, h4']
    refine J.eq go_seq ?_
    refine J.at fun x4 h5 h6 h7 => ?_
    replace h7 : x2[1]? = some x4 := h7
    refine J.chk fun h8 => ?_
    conv => arg 1; simp (disch := first | exact Zd | fail) only [ZZ, d143_at, simprocAttr, aop_callC, aq_callC, h1, e_h2, h4', lm_ik h7]
    refine J.eq ret_seq ?_
    conv => arg 1; simp (disch := first | exact Zd | fail) only [ZZ, d143_at, simprocAttr, aop_callC, aq_callC, h1, e_h2, h4', lm_ik h7]
    refine J.ite (fun h9 => ?_) (fun h9 => ?_)
    ·have h9' := decide_eq_true h9
     refine J.at fun x5 h10 h11 h12 => ?_
     replace h12 : x2[0]? = some x5 := h12
     refine J.at fun x6 h13 h14 h15 => ?_
     replace h15 : x2[2]? = some x6 := h15
     refine J.at fun x7 h16 h17 h18 => ?_
     replace h18 : x2[3]? = some x7 := h18
     refine J.bind fun x8 h19 => ?_
     have e_h19 := H83_0 _ _ h19
     try simp only [NN, NT, LN, simprocAttr, DT] at e_h19
     refine J.some ?_
     simp (maxSteps := 20000000) (disch := first | exact Zd | fail) only [ZZ, d143_at, simprocAttr, aop_callC, aq_callC, h1, e_h2, h4', lm_ik h7, h9', lm_ik h12, lm_ik h15, lm_ik h18, e_h19, FN]
    ·have h9' := decide_eq_false h9
     conv => arg 1; simp (disch := first | exact Zd | fail) only [ZZ, d143_at, simprocAttr, aop_callC, aq_callC, h1, e_h2, h4', lm_ik h7, h9']
     refine J.eq go_seq ?_
     conv => arg 1; simp (disch := first | exact Zd | fail) only [ZZ, d143_at, simprocAttr, aop_callC, aq_callC, h1, e_h2, h4', lm_ik h7, h9']
     refine J.eq ret_seq ?_
     conv => arg 1; simp (disch := first | exact Zd | fail) only [ZZ, d143_at, simprocAttr, aop_callC, aq_callC, h1, e_h2, h4', lm_ik h7, h9']
     refine J.jmp (t := ()) hj1 ?_ ?_
     ·exact Ze
     ·exact Zh
   ·have h4' := decide_eq_false h4
    refine J.bind fun x9 h20 => ?_
    have e_h20 := H75_0  _ h20
    try simp only [NN, NT, LN, simprocAttr, DT] at e_h20
    refine J.some ?_
    simp (maxSteps := 20000000) (disch := first | exact Zd | fail) only [ZZ, d143_at, simprocAttr, aop_callC, aq_callC, h1, e_h2, h4', e_h20, FN]
 ·refine J.chk fun h21 => ?_
  refine J.bind fun x10 h22 => ?_
  have e_h22 := H72_0 _ _ _ h22
  try simp only [NN, NT, LN, simprocAttr, DT] at e_h22
  conv => arg 1; simp (disch := first | exact Zd | fail) only [bodyOf, Tryz.f143, ZZ, d143_at, simprocAttr, aop_callC, aq_callC, h21, e_h22]
  refine J.eq go_seq ?_
  conv => arg 1; simp (disch := first | exact Zd | fail) only [ZZ, d143_at, simprocAttr, aop_callC, aq_callC, h21, e_h22]
  refine J.eq ret_seq ?_
  refine J.joinS (fun (t : Unit) => ([], [((0, 1, 0), .bx true ([.v (.int .i64 64), .v (.int .i64 x1.fs.fAxis), .arr x1.fs.fAxes.length (lm (ik .i64) x1.fs.fAxes), .v (.bool x1.fs.fHasAxes), .v (.bool x1.fs.fKeep), .v (.bool x1.fs.fNoop), .v (.bool x1.fs.fLast), .v (.bool x1.fs.fZero), .arr x1.fs.fPerm.length (lm (ik .i64) x1.fs.fPerm), .v (.bool x1.fs.fHasPerm), .v (.int .u32 x1.fs.fAlpha), .v (.int .u32 x1.fs.fBeta), .v (.int .u32 x1.fs.fEpsilon), .v (.bool x1.fs.fLow), .v (.bool x1.fs.fHigh), .v (.bool x1.fs.fFmod), .v (.int .i64 x1.fs.fTo), .v (.int .i64 x1.fs.fMode), .v (.bool x1.fs.fTransA), .v (.bool x1.fs.fTransB), .v (.int .i64 x1.fs.fGroup), .arr x1.fs.fKernel.length (lm (ik .i64) x1.fs.fKernel), .arr x1.fs.fStrides.length (lm (ik .i64) x1.fs.fStrides), .arr x1.fs.fPads.length (lm (ik .i64) x1.fs.fPads), .arr x1.fs.fDilations.length (lm (ik .i64) x1.fs.fDilations), .v (.int .i64 x1.fs.fAuto), .v (.bool x1.fs.fCeil), .v (.bool x1.fs.fCount), .v (.int .i64 x1.fs.fBlock), .v (.int .i64 x1.fs.fStart), .v (.int .i64 x1.fs.fEnd), .v (.bool x1.fs.fHasEnd), .v (.int .i64 x1.fs.fValue.fType), .arr x1.fs.fValue.fDims.length (lm (ik .i64) x1.fs.fValue.fDims), .arr x1.fs.fValue.fF.length (lm (ik .u32) x1.fs.fValue.fF), .arr x1.fs.fValue.fI.length (lm (ik .i64) x1.fs.fValue.fI), .arr x1.fs.fValue.fB.length (lm (bk) x1.fs.fValue.fB), .arr x1.fin.length (fm c_T_Val x1.fin), .v (.int .i64 x1.fouts)]))])) (fun t => infer_ask_counted.k2 fu) ?_ (fun hj2 => ?_)
  ·rintro ⟨⟩
   show J _ (infer_ask_counted.k2 fu) _
   unfold infer_ask_counted.k2
   refine J.bind fun x11 h23 => ?_
   have e_h23 := H75_0  _ h23
   try simp only [NN, NT, LN, simprocAttr, DT] at e_h23
   refine J.some ?_
   simp (maxSteps := 20000000) (disch := first | exact Zd | fail) only [ZZ, d143_at, simprocAttr, aop_callC, aq_callC, h21, e_h22, e_h23, FN]
  ·refine J.hd jn_at ?_
   conv => arg 1; simp (disch := first | exact Zd | fail) only [ZZ, d143_at, simprocAttr, aop_callC, aq_callC, h21, e_h22]
   refine J.ite (fun h24 => ?_) (fun h24 => ?_)
   ·have h24' := decide_eq_true h24
    conv => arg 1; simp (disch := first | exact Zd | fail) only [ZZ, d143_at, simprocAttr, aop_callC, aq_callC, h21, e_h22, h24']
    refine J.eq go_seq ?_
    conv => arg 1; simp (disch := first | exact Zd | fail) only [ZZ, d143_at, simprocAttr, aop_callC, aq_callC, h21, e_h22, h24']
    refine J.eq ret_seq ?_
    conv => arg 1; simp (disch := first | exact Zd | fail) only [ZZ, d143_at, simprocAttr, aop_callC, aq_callC, h21, e_h22, h24']
    refine J.eq go_seq ?_
    refine J.at fun x12 h25 h26 h27 => ?_
    replace h27 : x10[2]? = some x12 := h27
    refine J.chk fun h28 => ?_
    conv => arg 1; simp (disch := first | exact Zd | fail) only [ZZ, d143_at, simprocAttr, aop_callC, aq_callC, h21, e_h22, h24', lm_ik h27]
    refine J.ite (fun h29 => ?_) (fun h29 => ?_)
    ·have h29' := decide_eq_true h29
     refine J.at fun x13 h30 h31 h32 => ?_
     replace h32 : x10[3]? = some x13 := h32
     conv => arg 1; simp (disch := first | exact Zd | fail) only [ZZ, d143_at, simprocAttr, aop_callC, aq_callC, h21, e_h22, h24', lm_ik h27, h29', lm_ik h32]
     refine J.eq ret_seq ?_
     conv => arg 1; simp (disch := first | exact Zd | fail) only [ZZ, d143_at, simprocAttr, aop_callC, aq_callC, h21, e_h22, h24', lm_ik h27, h29', lm_ik h32]
     refine J.ite (fun h33 => ?_) (fun h33 => ?_)
     ·have h33' := decide_eq_true h33
      refine J.at fun x14 h34 h35 h36 => ?_
      replace h36 : x10[0]? = some x14 := h36
      refine J.at fun x15 h37 h38 h39 => ?_
      replace h39 : x10[1]? = some x15 := h39
      refine J.bind fun x16 h40 => ?_
      have e_h40 := H83_0 _ _ h40
      try simp only [NN, NT, LN, simprocAttr, DT] at e_h40
      refine J.some ?_
      simp (maxSteps := 20000000) (disch := first | exact Zd | fail) only [ZZ, d143_at, simprocAttr, aop_callC, aq_callC, h21, e_h22, h24', lm_ik h27, h29', lm_ik h32, h33', lm_ik h36, lm_ik h39, e_h40, FN]
     ·have h33' := decide_eq_false h33
      conv => arg 1; simp (disch := first | exact Zd | fail) only [ZZ, d143_at, simprocAttr, aop_callC, aq_callC, h21, e_h22, h24', lm_ik h27, h29', lm_ik h32, h33']
      refine J.jmp (t := ()) hj2 ?_ ?_
      ·exact Ze
      ·exact Zh
    ·have h29' := decide_eq_false h29
     conv => arg 1; simp (disch := first | exact Zd | fail) only [ZZ, d143_at, simprocAttr, aop_callC, aq_callC, h21, e_h22, h24', lm_ik h27, h29']
     refine J.eq ret_seq ?_
     conv => arg 1; simp (disch := first | exact Zd | fail) only [ZZ, d143_at, simprocAttr, aop_callC, aq_callC, h21, e_h22, h24', lm_ik h27, h29']
     refine J.jmp (t := ()) hj2 ?_ ?_
     ·exact Ze
     ·exact Zh
   ·have h24' := decide_eq_false h24
    refine J.bind fun x17 h41 => ?_
    have e_h41 := H75_0  _ h41
    try simp only [NN, NT, LN, simprocAttr, DT] at e_h41
    refine J.some ?_
    simp (maxSteps := 20000000) (disch := first | exact Zd | fail) only [ZZ, d143_at, simprocAttr, aop_callC, aq_callC, h21, e_h22, h24', e_h41, FN]
noncomputable def t143 (fu : Nat) : CallP := orE 72 (mkC (fun (t : T_infer_ask × Int) => ([.agg (c_T_infer_ask t.1), .v (.int .i64 t.2)] : List AV)) (fun t => infer_ask_dims fu t.1 t.2) e72) (orE 83 (mkC (fun (t : List Int) => ([.arr t.length (lm (ik .i64) t)] : List AV)) (fun t => infer_one fu t) e83) (orE 75 (mkC (fun (t : Unit) => ([] : List AV)) (fun t => infer_misfit fu ) e75) (noP)))
theorem t143_ok (fu : Nat) : CpOK Tryz.prog (t143 fu ) := orE_ok (orE_ok (orE_ok (noP_ok) (mkC_ok (fun t b h => ok75 fu   b h))) (mkC_ok (fun t b h => ok83 fu t  b h))) (mkC_ok (fun t b h => ok72 fu t.1 t.2  b h))
theorem ok143 (fu : Nat) (x1 : T_infer_ask) (r) (h : infer_ask_counted fu x1 = some r) : PureOK Tryz.prog 143 [.agg (c_T_infer_ask x1)] (e143 r) :=
  pure_J mixed (cp := t143 fu ) (t143_ok fu  ) noI_ok i143 (w143 _ fu x1  (fun a0 a1 r h => orE_hit (mkC_at (a := (a0, a1)) (by intro a b h; first | (exact rfl) | (simp only [INJ, IJ] at h; first | exact h | (simp_all [Prod.ext_iff]) )) h)) (fun a0 r h => orE_miss (by decide) (orE_hit (mkC_at (a := a0) (by intro a b h; first | (exact rfl) | (simp only [INJ, IJ] at h; first | exact h | (simp_all [Prod.ext_iff]) )) h))) (fun  r h => orE_miss (by decide) (orE_miss (by decide) (orE_hit (mkC_at (a := ()) (by intro a b h; first | (exact rfl) | (simp only [INJ, IJ] at h; first | exact h | (simp_all [Prod.ext_iff]) )) h))))) h
/-! 76: (lattice/infer.ask).moved -/
open Aw (d76)
def d76_at := by have h := tabL Aw.d76.eq_1; simp only [AllAt, Nat.zero_add, Nat.reduceAdd] at h; exact h
theorem i76 : finfo Tryz.prog 76 d76 = some ⟨bodyOf Tryz.f76, [.tmp 2, .tmp 3], [69, 30]⟩ := finfo_at Tryz.func76 rfl (by kernel_rfl) (by kernel_rfl)
def e76 : ((List (List Int)) × Int) → AV := fun r => .tuple [.arr r.1.length (lm (avl (ik .i64)) r.1), .v (.int .i64 r.2)]
set_option maxHeartbeats 20000000 in
theorem w76 (cp : CallP) (fu : Nat) (x1 : T_infer_ask) (H72_0 : ∀ (a0 : T_infer_ask) (a1 : Int) r, infer_ask_dims fu a0 a1 = some r → cp 72 [.agg (c_T_infer_ask a0), .v (.int .i64 a1)] = some (.arr r.length (lm (ik .i64) r))) (H143_0 : ∀ (a0 : T_infer_ask) r, infer_ask_counted fu a0 = some r → cp 143 [.agg (c_T_infer_ask a0)] = some (.tuple [.arr r.1.length (lm (avl (ik .i64)) r.1), .v (.int .i64 r.2)])) : J (go Tryz.prog noC cp noI 0 [] d76 fu (fin Tryz.prog [.tmp 2, .tmp 3] [69, 30]) (bodyOf Tryz.f76) (initE 0 [.agg (c_T_infer_ask x1)]) [] []) (infer_ask_moved fu x1) e76 := by
 unfold infer_ask_moved e76
 have da := d76_at
 refine J.spl (fun h1 => ?_) (fun h1 => ?_)
 ·refine J.bind fun x2 h2 => ?_
  have e_h2 := H72_0 _ _ _ h2
  try simp only [NN, NT, LN, simprocAttr, DT] at e_h2
  conv => arg 1; simp (disch := first | exact Zd | fail) only [bodyOf, Tryz.f76, ZZ, d76_at, simprocAttr, h1, e_h2]
  refine J.joinS (fun (t : Unit) => ([(1, .ptr (0, 1, 0) 0 0)], [((0, 1, 0), .bx true ([.v (.int .i64 63), .v (.int .i64 x1.fs.fAxis), .arr x1.fs.fAxes.length (lm (ik .i64) x1.fs.fAxes), .v (.bool x1.fs.fHasAxes), .v (.bool x1.fs.fKeep), .v (.bool x1.fs.fNoop), .v (.bool x1.fs.fLast), .v (.bool x1.fs.fZero), .arr x1.fs.fPerm.length (lm (ik .i64) x1.fs.fPerm), .v (.bool x1.fs.fHasPerm), .v (.int .u32 x1.fs.fAlpha), .v (.int .u32 x1.fs.fBeta), .v (.int .u32 x1.fs.fEpsilon), .v (.bool x1.fs.fLow), .v (.bool x1.fs.fHigh), .v (.bool x1.fs.fFmod), .v (.int .i64 x1.fs.fTo), .v (.int .i64 x1.fs.fMode), .v (.bool x1.fs.fTransA), .v (.bool x1.fs.fTransB), .v (.int .i64 x1.fs.fGroup), .arr x1.fs.fKernel.length (lm (ik .i64) x1.fs.fKernel), .arr x1.fs.fStrides.length (lm (ik .i64) x1.fs.fStrides), .arr x1.fs.fPads.length (lm (ik .i64) x1.fs.fPads), .arr x1.fs.fDilations.length (lm (ik .i64) x1.fs.fDilations), .v (.int .i64 x1.fs.fAuto), .v (.bool x1.fs.fCeil), .v (.bool x1.fs.fCount), .v (.int .i64 x1.fs.fBlock), .v (.int .i64 x1.fs.fStart), .v (.int .i64 x1.fs.fEnd), .v (.bool x1.fs.fHasEnd), .v (.int .i64 x1.fs.fValue.fType), .arr x1.fs.fValue.fDims.length (lm (ik .i64) x1.fs.fValue.fDims), .arr x1.fs.fValue.fF.length (lm (ik .u32) x1.fs.fValue.fF), .arr x1.fs.fValue.fI.length (lm (ik .i64) x1.fs.fValue.fI), .arr x1.fs.fValue.fB.length (lm (bk) x1.fs.fValue.fB), .arr x1.fin.length (fm c_T_Val x1.fin), .v (.int .i64 x1.fouts)]))])) (fun t => infer_ask_moved.k1 fu x1) ?_ (fun hj1 => ?_)
  ·rintro ⟨⟩
   show J _ (infer_ask_moved.k1 fu x1) _
   unfold infer_ask_moved.k1
   refine J.bind fun x3 h3 => ?_
   have e_h3 := H143_0 _ _ h3
   try simp only [NN, NT, LN, simprocAttr, DT] at e_h3
   refine J.some ?_
   exact Js
  ·refine J.hd jn_at ?_
   refine Jc ?_
   refine J.eq go_seq ?_
   refine Jc ?_
   refine J.eq ret_seq ?_
   refine Jc ?_
   refine J.eq go_seq ?_
   refine Jc ?_
   refine J.eq ret_seq ?_
   refine Jc ?_
   refine J.jmp (t := ()) hj1 ?_ ?_
   ·exact Ze
   ·exact Zh
 ·refine J.chk fun h4 => ?_
  refine J.bind fun x4 h5 => ?_
  have e_h5 := H72_0 _ _ _ h5
  try simp only [NN, NT, LN, simprocAttr, DT] at e_h5
  conv => arg 1; simp (disch := first | exact Zd | fail) only [bodyOf, Tryz.f76, ZZ, d76_at, simprocAttr, h4, e_h5]
  refine J.joinS (fun (t : Unit) => ([(1, .ptr (0, 1, 0) 0 0)], [((0, 1, 0), .bx true ([.v (.int .i64 64), .v (.int .i64 x1.fs.fAxis), .arr x1.fs.fAxes.length (lm (ik .i64) x1.fs.fAxes), .v (.bool x1.fs.fHasAxes), .v (.bool x1.fs.fKeep), .v (.bool x1.fs.fNoop), .v (.bool x1.fs.fLast), .v (.bool x1.fs.fZero), .arr x1.fs.fPerm.length (lm (ik .i64) x1.fs.fPerm), .v (.bool x1.fs.fHasPerm), .v (.int .u32 x1.fs.fAlpha), .v (.int .u32 x1.fs.fBeta), .v (.int .u32 x1.fs.fEpsilon), .v (.bool x1.fs.fLow), .v (.bool x1.fs.fHigh), .v (.bool x1.fs.fFmod), .v (.int .i64 x1.fs.fTo), .v (.int .i64 x1.fs.fMode), .v (.bool x1.fs.fTransA), .v (.bool x1.fs.fTransB), .v (.int .i64 x1.fs.fGroup), .arr x1.fs.fKernel.length (lm (ik .i64) x1.fs.fKernel), .arr x1.fs.fStrides.length (lm (ik .i64) x1.fs.fStrides), .arr x1.fs.fPads.length (lm (ik .i64) x1.fs.fPads), .arr x1.fs.fDilations.length (lm (ik .i64) x1.fs.fDilations), .v (.int .i64 x1.fs.fAuto), .v (.bool x1.fs.fCeil), .v (.bool x1.fs.fCount), .v (.int .i64 x1.fs.fBlock), .v (.int .i64 x1.fs.fStart), .v (.int .i64 x1.fs.fEnd), .v (.bool x1.fs.fHasEnd), .v (.int .i64 x1.fs.fValue.fType), .arr x1.fs.fValue.fDims.length (lm (ik .i64) x1.fs.fValue.fDims), .arr x1.fs.fValue.fF.length (lm (ik .u32) x1.fs.fValue.fF), .arr x1.fs.fValue.fI.length (lm (ik .i64) x1.fs.fValue.fI), .arr x1.fs.fValue.fB.length (lm (bk) x1.fs.fValue.fB), .arr x1.fin.length (fm c_T_Val x1.fin), .v (.int .i64 x1.fouts)]))])) (fun t => infer_ask_moved.k2 fu x1) ?_ (fun hj2 => ?_)
  ·rintro ⟨⟩
   show J _ (infer_ask_moved.k2 fu x1) _
   unfold infer_ask_moved.k2
   refine J.bind fun x5 h6 => ?_
   have e_h6 := H143_0 _ _ h6
   try simp only [NN, NT, LN, simprocAttr, DT] at e_h6
   refine J.some ?_
   exact Js
  ·refine J.hd jn_at ?_
   refine Jc ?_
   refine J.eq go_seq ?_
   refine Jc ?_
   refine J.eq ret_seq ?_
   refine Jc ?_
   refine J.eq go_seq ?_
   refine Jc ?_
   refine J.eq ret_seq ?_
   refine Jc ?_
   refine J.jmp (t := ()) hj2 ?_ ?_
   ·exact Ze
   ·exact Zh
noncomputable def t76 (fu : Nat) : CallP := orE 72 (mkC (fun (t : T_infer_ask × Int) => ([.agg (c_T_infer_ask t.1), .v (.int .i64 t.2)] : List AV)) (fun t => infer_ask_dims fu t.1 t.2) e72) (orE 143 (mkC (fun (t : T_infer_ask) => ([.agg (c_T_infer_ask t)] : List AV)) (fun t => infer_ask_counted fu t) e143) (noP))
theorem t76_ok (fu : Nat) : CpOK Tryz.prog (t76 fu ) := orE_ok (orE_ok (noP_ok) (mkC_ok (fun t b h => ok143 fu t  b h))) (mkC_ok (fun t b h => ok72 fu t.1 t.2  b h))
theorem ok76 (fu : Nat) (x1 : T_infer_ask) (r) (h : infer_ask_moved fu x1 = some r) : PureOK Tryz.prog 76 [.agg (c_T_infer_ask x1)] (e76 r) :=
  pure_J mixed (cp := t76 fu ) (t76_ok fu  ) noI_ok i76 (w76 _ fu x1  (fun a0 a1 r h => orE_hit (mkC_at (a := (a0, a1)) (by intro a b h; first | (exact rfl) | (simp only [INJ, IJ] at h; first | exact h | (simp_all [Prod.ext_iff]) )) h)) (fun a0 r h => orE_miss (by decide) (orE_hit (mkC_at (a := a0) (by intro a b h; first | (exact rfl) | (simp only [INJ, IJ] at h; first | exact h | (simp_all [Prod.ext_iff]) )) h)))) h
/-! 37: (lattice/infer.ask).shapes -/
open Aw (d37)
def d37_at := by have h := tabL Aw.d37.eq_1; simp only [AllAt, Nat.zero_add, Nat.reduceAdd] at h; exact h
theorem i37 : finfo Tryz.prog 37 d37 = some ⟨bodyOf Tryz.f37, [.tmp 2, .tmp 3], [69, 30]⟩ := finfo_at Tryz.func37 rfl (by kernel_rfl) (by kernel_rfl)
def e37 : ((List (List Int)) × Int) → AV := fun r => .tuple [.arr r.1.length (lm (avl (ik .i64)) r.1), .v (.int .i64 r.2)]
set_option maxHeartbeats 20000000 in
theorem w37 (cp : CallP) (fu : Nat) (x1 : T_infer_ask) (H72_0 : ∀ (a0 : T_infer_ask) (a1 : Int) r, infer_ask_dims fu a0 a1 = some r → cp 72 [.agg (c_T_infer_ask a0), .v (.int .i64 a1)] = some (.arr r.length (lm (ik .i64) r))) (H76_0 : ∀ (a0 : T_infer_ask) r, infer_ask_moved fu a0 = some r → cp 76 [.agg (c_T_infer_ask a0)] = some (.tuple [.arr r.1.length (lm (avl (ik .i64)) r.1), .v (.int .i64 r.2)])) : J (go Tryz.prog noC cp noI 0 [] d37 fu (finS Tryz.prog [.tmp 2, .tmp 3] [69, 30]) (bodyOf Tryz.f37) (initE 0 [.agg (c_T_infer_ask x1)]) [] []) (infer_ask_shapes fu x1) e37 := by
 unfold infer_ask_shapes e37
 have da := d37_at
 refine J.spl (fun h1 => ?_) (fun h1 => ?_)
 ·refine J.bind fun x2 h2 => ?_
  have e_h2 := H72_0 _ _ _ h2
  try simp only [NN, NT, LN, simprocAttr, DT] at e_h2
  conv => arg 1; simp (disch := first | exact Zd | fail) only [bodyOf, Tryz.f37, ZZ, d37_at, simprocAttr, SE, h1, e_h2]
  refine J.eq go_seq ?_
  conv => arg 1; simp (disch := first | exact Zd | fail) only [ZZ, d37_at, simprocAttr, SE, h1, e_h2]
  refine J.joinS (fun (t : Unit) => ([(1, .ptr (0, 1, 0) 0 0), (4, .arr x2.length (lm (ik .i64) x2)), (9, .v (.int .i64 63)), (10, .v (.bool (decide ((63 : Int) = 42))))], [((0, 1, 0), .bx true ([.v (.int .i64 63), .v (.int .i64 x1.fs.fAxis), .arr x1.fs.fAxes.length (lm (ik .i64) x1.fs.fAxes), .v (.bool x1.fs.fHasAxes), .v (.bool x1.fs.fKeep), .v (.bool x1.fs.fNoop), .v (.bool x1.fs.fLast), .v (.bool x1.fs.fZero), .arr x1.fs.fPerm.length (lm (ik .i64) x1.fs.fPerm), .v (.bool x1.fs.fHasPerm), .v (.int .u32 x1.fs.fAlpha), .v (.int .u32 x1.fs.fBeta), .v (.int .u32 x1.fs.fEpsilon), .v (.bool x1.fs.fLow), .v (.bool x1.fs.fHigh), .v (.bool x1.fs.fFmod), .v (.int .i64 x1.fs.fTo), .v (.int .i64 x1.fs.fMode), .v (.bool x1.fs.fTransA), .v (.bool x1.fs.fTransB), .v (.int .i64 x1.fs.fGroup), .arr x1.fs.fKernel.length (lm (ik .i64) x1.fs.fKernel), .arr x1.fs.fStrides.length (lm (ik .i64) x1.fs.fStrides), .arr x1.fs.fPads.length (lm (ik .i64) x1.fs.fPads), .arr x1.fs.fDilations.length (lm (ik .i64) x1.fs.fDilations), .v (.int .i64 x1.fs.fAuto), .v (.bool x1.fs.fCeil), .v (.bool x1.fs.fCount), .v (.int .i64 x1.fs.fBlock), .v (.int .i64 x1.fs.fStart), .v (.int .i64 x1.fs.fEnd), .v (.bool x1.fs.fHasEnd), .v (.int .i64 x1.fs.fValue.fType), .arr x1.fs.fValue.fDims.length (lm (ik .i64) x1.fs.fValue.fDims), .arr x1.fs.fValue.fF.length (lm (ik .u32) x1.fs.fValue.fF), .arr x1.fs.fValue.fI.length (lm (ik .i64) x1.fs.fValue.fI), .arr x1.fs.fValue.fB.length (lm (bk) x1.fs.fValue.fB), .arr x1.fin.length (fm c_T_Val x1.fin), .v (.int .i64 x1.fouts)]))])) (fun t => infer_ask_shapes.k1 fu x1) ?_ (fun hj1 => ?_)
  ·rintro ⟨⟩
   show J _ (infer_ask_shapes.k1 fu x1) _
   unfold infer_ask_shapes.k1
   conv => arg 1; simp (disch := first | exact Zd | fail) only [ZZ, d37_at, simprocAttr, SE, h1, e_h2]
   refine J.joinS (fun (t : Unit) => ([(1, .ptr (0, 1, 0) 0 0), (4, .arr x2.length (lm (ik .i64) x2)), (9, .v (.int .i64 63)), (10, .v (.bool (decide ((63 : Int) = 42)))), (54, .v (.bool (decide ((63 : Int) = 63))))], [((0, 1, 0), .bx true ([.v (.int .i64 63), .v (.int .i64 x1.fs.fAxis), .arr x1.fs.fAxes.length (lm (ik .i64) x1.fs.fAxes), .v (.bool x1.fs.fHasAxes), .v (.bool x1.fs.fKeep), .v (.bool x1.fs.fNoop), .v (.bool x1.fs.fLast), .v (.bool x1.fs.fZero), .arr x1.fs.fPerm.length (lm (ik .i64) x1.fs.fPerm), .v (.bool x1.fs.fHasPerm), .v (.int .u32 x1.fs.fAlpha), .v (.int .u32 x1.fs.fBeta), .v (.int .u32 x1.fs.fEpsilon), .v (.bool x1.fs.fLow), .v (.bool x1.fs.fHigh), .v (.bool x1.fs.fFmod), .v (.int .i64 x1.fs.fTo), .v (.int .i64 x1.fs.fMode), .v (.bool x1.fs.fTransA), .v (.bool x1.fs.fTransB), .v (.int .i64 x1.fs.fGroup), .arr x1.fs.fKernel.length (lm (ik .i64) x1.fs.fKernel), .arr x1.fs.fStrides.length (lm (ik .i64) x1.fs.fStrides), .arr x1.fs.fPads.length (lm (ik .i64) x1.fs.fPads), .arr x1.fs.fDilations.length (lm (ik .i64) x1.fs.fDilations), .v (.int .i64 x1.fs.fAuto), .v (.bool x1.fs.fCeil), .v (.bool x1.fs.fCount), .v (.int .i64 x1.fs.fBlock), .v (.int .i64 x1.fs.fStart), .v (.int .i64 x1.fs.fEnd), .v (.bool x1.fs.fHasEnd), .v (.int .i64 x1.fs.fValue.fType), .arr x1.fs.fValue.fDims.length (lm (ik .i64) x1.fs.fValue.fDims), .arr x1.fs.fValue.fF.length (lm (ik .u32) x1.fs.fValue.fF), .arr x1.fs.fValue.fI.length (lm (ik .i64) x1.fs.fValue.fI), .arr x1.fs.fValue.fB.length (lm (bk) x1.fs.fValue.fB), .arr x1.fin.length (fm c_T_Val x1.fin), .v (.int .i64 x1.fouts)]))])) (fun t => infer_ask_shapes.k2 fu x1) ?_ (fun hj2 => ?_)
   ·rintro ⟨⟩
    show J _ (infer_ask_shapes.k2 fu x1) _
    unfold infer_ask_shapes.k2
    refine J.bind fun x3 h3 => ?_
    have e_h3 := H76_0 _ _ h3
    try simp only [NN, NT, LN, simprocAttr, DT] at e_h3
    refine J.some ?_
    simp (maxSteps := 20000000) (disch := first | exact Zd | fail) only [ZZ, d37_at, simprocAttr, SE, h1, e_h2, e_h3, FN]
   ·refine J.hd jn_at ?_
    conv => arg 1; simp (disch := first | exact Zd | fail) only [ZZ, d37_at, simprocAttr, SE, h1, e_h2]
    refine J.jmp (t := ()) hj2 ?_ ?_
    ·exact Ze
    ·exact Zh
  ·refine J.hd jn_at ?_
   conv => arg 1; simp (disch := first | exact Zd | fail) only [ZZ, d37_at, simprocAttr, SE, h1, e_h2]
   refine J.jmp (t := ()) hj1 ?_ ?_
   ·exact Ze
   ·exact Zh
 ·refine J.chk fun h4 => ?_
  refine J.bind fun x4 h5 => ?_
  have e_h5 := H72_0 _ _ _ h5
  try simp only [NN, NT, LN, simprocAttr, DT] at e_h5
  conv => arg 1; simp (disch := first | exact Zd | fail) only [bodyOf, Tryz.f37, ZZ, d37_at, simprocAttr, SE, h4, e_h5]
  refine J.eq go_seq ?_
  conv => arg 1; simp (disch := first | exact Zd | fail) only [ZZ, d37_at, simprocAttr, SE, h4, e_h5]
  refine J.joinS (fun (t : Unit) => ([(1, .ptr (0, 1, 0) 0 0), (4, .arr x4.length (lm (ik .i64) x4)), (9, .v (.int .i64 64)), (10, .v (.bool (decide ((64 : Int) = 42))))], [((0, 1, 0), .bx true ([.v (.int .i64 64), .v (.int .i64 x1.fs.fAxis), .arr x1.fs.fAxes.length (lm (ik .i64) x1.fs.fAxes), .v (.bool x1.fs.fHasAxes), .v (.bool x1.fs.fKeep), .v (.bool x1.fs.fNoop), .v (.bool x1.fs.fLast), .v (.bool x1.fs.fZero), .arr x1.fs.fPerm.length (lm (ik .i64) x1.fs.fPerm), .v (.bool x1.fs.fHasPerm), .v (.int .u32 x1.fs.fAlpha), .v (.int .u32 x1.fs.fBeta), .v (.int .u32 x1.fs.fEpsilon), .v (.bool x1.fs.fLow), .v (.bool x1.fs.fHigh), .v (.bool x1.fs.fFmod), .v (.int .i64 x1.fs.fTo), .v (.int .i64 x1.fs.fMode), .v (.bool x1.fs.fTransA), .v (.bool x1.fs.fTransB), .v (.int .i64 x1.fs.fGroup), .arr x1.fs.fKernel.length (lm (ik .i64) x1.fs.fKernel), .arr x1.fs.fStrides.length (lm (ik .i64) x1.fs.fStrides), .arr x1.fs.fPads.length (lm (ik .i64) x1.fs.fPads), .arr x1.fs.fDilations.length (lm (ik .i64) x1.fs.fDilations), .v (.int .i64 x1.fs.fAuto), .v (.bool x1.fs.fCeil), .v (.bool x1.fs.fCount), .v (.int .i64 x1.fs.fBlock), .v (.int .i64 x1.fs.fStart), .v (.int .i64 x1.fs.fEnd), .v (.bool x1.fs.fHasEnd), .v (.int .i64 x1.fs.fValue.fType), .arr x1.fs.fValue.fDims.length (lm (ik .i64) x1.fs.fValue.fDims), .arr x1.fs.fValue.fF.length (lm (ik .u32) x1.fs.fValue.fF), .arr x1.fs.fValue.fI.length (lm (ik .i64) x1.fs.fValue.fI), .arr x1.fs.fValue.fB.length (lm (bk) x1.fs.fValue.fB), .arr x1.fin.length (fm c_T_Val x1.fin), .v (.int .i64 x1.fouts)]))])) (fun t => infer_ask_shapes.k3 fu x1) ?_ (fun hj3 => ?_)
  ·rintro ⟨⟩
   show J _ (infer_ask_shapes.k3 fu x1) _
   unfold infer_ask_shapes.k3
   conv => arg 1; simp (disch := first | exact Zd | fail) only [ZZ, d37_at, simprocAttr, SE, h4, e_h5]
   refine J.joinS (fun (t : Unit) => ([(1, .ptr (0, 1, 0) 0 0), (4, .arr x4.length (lm (ik .i64) x4)), (9, .v (.int .i64 64)), (10, .v (.bool (decide ((64 : Int) = 42)))), (54, .v (.bool (decide ((64 : Int) = 64))))], [((0, 1, 0), .bx true ([.v (.int .i64 64), .v (.int .i64 x1.fs.fAxis), .arr x1.fs.fAxes.length (lm (ik .i64) x1.fs.fAxes), .v (.bool x1.fs.fHasAxes), .v (.bool x1.fs.fKeep), .v (.bool x1.fs.fNoop), .v (.bool x1.fs.fLast), .v (.bool x1.fs.fZero), .arr x1.fs.fPerm.length (lm (ik .i64) x1.fs.fPerm), .v (.bool x1.fs.fHasPerm), .v (.int .u32 x1.fs.fAlpha), .v (.int .u32 x1.fs.fBeta), .v (.int .u32 x1.fs.fEpsilon), .v (.bool x1.fs.fLow), .v (.bool x1.fs.fHigh), .v (.bool x1.fs.fFmod), .v (.int .i64 x1.fs.fTo), .v (.int .i64 x1.fs.fMode), .v (.bool x1.fs.fTransA), .v (.bool x1.fs.fTransB), .v (.int .i64 x1.fs.fGroup), .arr x1.fs.fKernel.length (lm (ik .i64) x1.fs.fKernel), .arr x1.fs.fStrides.length (lm (ik .i64) x1.fs.fStrides), .arr x1.fs.fPads.length (lm (ik .i64) x1.fs.fPads), .arr x1.fs.fDilations.length (lm (ik .i64) x1.fs.fDilations), .v (.int .i64 x1.fs.fAuto), .v (.bool x1.fs.fCeil), .v (.bool x1.fs.fCount), .v (.int .i64 x1.fs.fBlock), .v (.int .i64 x1.fs.fStart), .v (.int .i64 x1.fs.fEnd), .v (.bool x1.fs.fHasEnd), .v (.int .i64 x1.fs.fValue.fType), .arr x1.fs.fValue.fDims.length (lm (ik .i64) x1.fs.fValue.fDims), .arr x1.fs.fValue.fF.length (lm (ik .u32) x1.fs.fValue.fF), .arr x1.fs.fValue.fI.length (lm (ik .i64) x1.fs.fValue.fI), .arr x1.fs.fValue.fB.length (lm (bk) x1.fs.fValue.fB), .arr x1.fin.length (fm c_T_Val x1.fin), .v (.int .i64 x1.fouts)]))])) (fun t => infer_ask_shapes.k4 fu x1) ?_ (fun hj4 => ?_)
   ·rintro ⟨⟩
    show J _ (infer_ask_shapes.k4 fu x1) _
    unfold infer_ask_shapes.k4
    refine J.bind fun x5 h6 => ?_
    have e_h6 := H76_0 _ _ h6
    try simp only [NN, NT, LN, simprocAttr, DT] at e_h6
    refine J.some ?_
    simp (maxSteps := 20000000) (disch := first | exact Zd | fail) only [ZZ, d37_at, simprocAttr, SE, h4, e_h5, e_h6, FN]
   ·refine J.hd jn_at ?_
    conv => arg 1; simp (disch := first | exact Zd | fail) only [ZZ, d37_at, simprocAttr, SE, h4, e_h5]
    refine J.jmp (t := ()) hj4 ?_ ?_
    ·exact Ze
    ·exact Zh
  ·refine J.hd jn_at ?_
   conv => arg 1; simp (disch := first | exact Zd | fail) only [ZZ, d37_at, simprocAttr, SE, h4, e_h5]
   refine J.jmp (t := ()) hj3 ?_ ?_
   ·exact Ze
   ·exact Zh
noncomputable def t37 (fu : Nat) : CallP := orE 72 (mkC (fun (t : T_infer_ask × Int) => ([.agg (c_T_infer_ask t.1), .v (.int .i64 t.2)] : List AV)) (fun t => infer_ask_dims fu t.1 t.2) e72) (orE 76 (mkC (fun (t : T_infer_ask) => ([.agg (c_T_infer_ask t)] : List AV)) (fun t => infer_ask_moved fu t) e76) (noP))
theorem t37_ok (fu : Nat) : CpOK Tryz.prog (t37 fu ) := orE_ok (orE_ok (noP_ok) (mkC_ok (fun t b h => ok76 fu t  b h))) (mkC_ok (fun t b h => ok72 fu t.1 t.2  b h))
theorem ok37 (fu : Nat) (x1 : T_infer_ask) (r) (h : infer_ask_shapes fu x1 = some r) : PureOK Tryz.prog 37 [.agg (c_T_infer_ask x1)] (e37 r) :=
  pureS_J mixed (cp := t37 fu ) (t37_ok fu  ) noI_ok i37 (w37 _ fu x1  (fun a0 a1 r h => orE_hit (mkC_at (a := (a0, a1)) (by intro a b h; first | (exact rfl) | (simp only [INJ, IJ] at h; first | exact h | (simp_all [Prod.ext_iff]) )) h)) (fun a0 r h => orE_miss (by decide) (orE_hit (mkC_at (a := a0) (by intro a b h; first | (exact rfl) | (simp only [INJ, IJ] at h; first | exact h | (simp_all [Prod.ext_iff]) )) h)))) h
/-! 38: (lattice/infer.ask).out -/
open Aw (d38)
def d38_at := by have h := tabL Aw.d38.eq_1; simp only [AllAt, Nat.zero_add, Nat.reduceAdd] at h; exact h
theorem i38 : finfo Tryz.prog 38 d38 = some ⟨bodyOf Tryz.f38, [.tmp 2], [3]⟩ := finfo_at Tryz.func38 rfl (by kernel_rfl) (by kernel_rfl)
def e38 : Int → AV := fun r => .v (.int .i64 r)
set_option maxHeartbeats 20000000 in
theorem w38 (cp : CallP) (fu : Nat) (x1 : T_infer_ask) (H84_0 : ∀ (a0 : T_infer_ask) (a1 : Int) r, infer_ask_val fu a0 a1 = some r → cp 84 [.agg (c_T_infer_ask a0), .v (.int .i64 a1)] = some (.agg [.v (.int .i64 r.fType), .arr r.fDims.length (lm (ik .i64) r.fDims), .v (.bool r.fConst), .v (.int .i64 r.fT.fType), .arr r.fT.fDims.length (lm (ik .i64) r.fT.fDims), .arr r.fT.fF.length (lm (ik .u32) r.fT.fF), .arr r.fT.fI.length (lm (ik .i64) r.fT.fI), .arr r.fT.fB.length (lm (bk) r.fT.fB)])) : J (go Tryz.prog noC cp noI 0 [] d38 fu (fin Tryz.prog [.tmp 2] [3]) (bodyOf Tryz.f38) (initE 0 [.agg (c_T_infer_ask x1)]) [] []) (infer_ask_out fu x1) e38 := by
 unfold infer_ask_out e38
 have da := d38_at
 refine J.spl (fun h1 => ?_) (fun h1 => ?_)
 ·conv => arg 1; simp (disch := first | exact Zd | fail) only [bodyOf, Tryz.f38, ZZ, d38_at, simprocAttr, h1]
  refine J.joinS (fun (t : Unit) => ([(1, .ptr (0, 1, 0) 0 0)], [((0, 1, 0), .bx true ([.v (.int .i64 63), .v (.int .i64 x1.fs.fAxis), .arr x1.fs.fAxes.length (lm (ik .i64) x1.fs.fAxes), .v (.bool x1.fs.fHasAxes), .v (.bool x1.fs.fKeep), .v (.bool x1.fs.fNoop), .v (.bool x1.fs.fLast), .v (.bool x1.fs.fZero), .arr x1.fs.fPerm.length (lm (ik .i64) x1.fs.fPerm), .v (.bool x1.fs.fHasPerm), .v (.int .u32 x1.fs.fAlpha), .v (.int .u32 x1.fs.fBeta), .v (.int .u32 x1.fs.fEpsilon), .v (.bool x1.fs.fLow), .v (.bool x1.fs.fHigh), .v (.bool x1.fs.fFmod), .v (.int .i64 x1.fs.fTo), .v (.int .i64 x1.fs.fMode), .v (.bool x1.fs.fTransA), .v (.bool x1.fs.fTransB), .v (.int .i64 x1.fs.fGroup), .arr x1.fs.fKernel.length (lm (ik .i64) x1.fs.fKernel), .arr x1.fs.fStrides.length (lm (ik .i64) x1.fs.fStrides), .arr x1.fs.fPads.length (lm (ik .i64) x1.fs.fPads), .arr x1.fs.fDilations.length (lm (ik .i64) x1.fs.fDilations), .v (.int .i64 x1.fs.fAuto), .v (.bool x1.fs.fCeil), .v (.bool x1.fs.fCount), .v (.int .i64 x1.fs.fBlock), .v (.int .i64 x1.fs.fStart), .v (.int .i64 x1.fs.fEnd), .v (.bool x1.fs.fHasEnd), .v (.int .i64 x1.fs.fValue.fType), .arr x1.fs.fValue.fDims.length (lm (ik .i64) x1.fs.fValue.fDims), .arr x1.fs.fValue.fF.length (lm (ik .u32) x1.fs.fValue.fF), .arr x1.fs.fValue.fI.length (lm (ik .i64) x1.fs.fValue.fI), .arr x1.fs.fValue.fB.length (lm (bk) x1.fs.fValue.fB), .arr x1.fin.length (fm c_T_Val x1.fin), .v (.int .i64 x1.fouts)]))])) (fun t => infer_ask_out.k1 fu x1) ?_ (fun hj1 => ?_)
  ·rintro ⟨⟩
   show J _ (infer_ask_out.k1 fu x1) _
   unfold infer_ask_out.k1
   refine J.bind fun x2 h2 => ?_
   have e_h2 := H84_0 _ _ _ h2
   try simp only [NN, NT, LN, simprocAttr, DT] at e_h2
   refine J.some ?_
   exact Js
  ·refine J.hd jn_at ?_
   refine Jc ?_
   refine J.joinS (fun (t : Unit) => ([(1, .ptr (0, 1, 0) 0 0), (4, .v (.int .i64 63)), (5, .v (.bool (decide ((63 : Int) = 41))))], [((0, 1, 0), .bx true ([.v (.int .i64 63), .v (.int .i64 x1.fs.fAxis), .arr x1.fs.fAxes.length (lm (ik .i64) x1.fs.fAxes), .v (.bool x1.fs.fHasAxes), .v (.bool x1.fs.fKeep), .v (.bool x1.fs.fNoop), .v (.bool x1.fs.fLast), .v (.bool x1.fs.fZero), .arr x1.fs.fPerm.length (lm (ik .i64) x1.fs.fPerm), .v (.bool x1.fs.fHasPerm), .v (.int .u32 x1.fs.fAlpha), .v (.int .u32 x1.fs.fBeta), .v (.int .u32 x1.fs.fEpsilon), .v (.bool x1.fs.fLow), .v (.bool x1.fs.fHigh), .v (.bool x1.fs.fFmod), .v (.int .i64 x1.fs.fTo), .v (.int .i64 x1.fs.fMode), .v (.bool x1.fs.fTransA), .v (.bool x1.fs.fTransB), .v (.int .i64 x1.fs.fGroup), .arr x1.fs.fKernel.length (lm (ik .i64) x1.fs.fKernel), .arr x1.fs.fStrides.length (lm (ik .i64) x1.fs.fStrides), .arr x1.fs.fPads.length (lm (ik .i64) x1.fs.fPads), .arr x1.fs.fDilations.length (lm (ik .i64) x1.fs.fDilations), .v (.int .i64 x1.fs.fAuto), .v (.bool x1.fs.fCeil), .v (.bool x1.fs.fCount), .v (.int .i64 x1.fs.fBlock), .v (.int .i64 x1.fs.fStart), .v (.int .i64 x1.fs.fEnd), .v (.bool x1.fs.fHasEnd), .v (.int .i64 x1.fs.fValue.fType), .arr x1.fs.fValue.fDims.length (lm (ik .i64) x1.fs.fValue.fDims), .arr x1.fs.fValue.fF.length (lm (ik .u32) x1.fs.fValue.fF), .arr x1.fs.fValue.fI.length (lm (ik .i64) x1.fs.fValue.fI), .arr x1.fs.fValue.fB.length (lm (bk) x1.fs.fValue.fB), .arr x1.fin.length (fm c_T_Val x1.fin), .v (.int .i64 x1.fouts)]))])) (fun t => infer_ask_out.k2 fu x1) ?_ (fun hj2 => ?_)
   ·rintro ⟨⟩
    show J _ (infer_ask_out.k2 fu x1) _
    unfold infer_ask_out.k2
    refine Jc ?_
    refine J.joinS (fun (t : Unit) => ([(1, .ptr (0, 1, 0) 0 0), (4, .v (.int .i64 63)), (5, .v (.bool (decide ((63 : Int) = 41)))), (17, .v (.bool (decide ((63 : Int) = 71))))], [((0, 1, 0), .bx true ([.v (.int .i64 63), .v (.int .i64 x1.fs.fAxis), .arr x1.fs.fAxes.length (lm (ik .i64) x1.fs.fAxes), .v (.bool x1.fs.fHasAxes), .v (.bool x1.fs.fKeep), .v (.bool x1.fs.fNoop), .v (.bool x1.fs.fLast), .v (.bool x1.fs.fZero), .arr x1.fs.fPerm.length (lm (ik .i64) x1.fs.fPerm), .v (.bool x1.fs.fHasPerm), .v (.int .u32 x1.fs.fAlpha), .v (.int .u32 x1.fs.fBeta), .v (.int .u32 x1.fs.fEpsilon), .v (.bool x1.fs.fLow), .v (.bool x1.fs.fHigh), .v (.bool x1.fs.fFmod), .v (.int .i64 x1.fs.fTo), .v (.int .i64 x1.fs.fMode), .v (.bool x1.fs.fTransA), .v (.bool x1.fs.fTransB), .v (.int .i64 x1.fs.fGroup), .arr x1.fs.fKernel.length (lm (ik .i64) x1.fs.fKernel), .arr x1.fs.fStrides.length (lm (ik .i64) x1.fs.fStrides), .arr x1.fs.fPads.length (lm (ik .i64) x1.fs.fPads), .arr x1.fs.fDilations.length (lm (ik .i64) x1.fs.fDilations), .v (.int .i64 x1.fs.fAuto), .v (.bool x1.fs.fCeil), .v (.bool x1.fs.fCount), .v (.int .i64 x1.fs.fBlock), .v (.int .i64 x1.fs.fStart), .v (.int .i64 x1.fs.fEnd), .v (.bool x1.fs.fHasEnd), .v (.int .i64 x1.fs.fValue.fType), .arr x1.fs.fValue.fDims.length (lm (ik .i64) x1.fs.fValue.fDims), .arr x1.fs.fValue.fF.length (lm (ik .u32) x1.fs.fValue.fF), .arr x1.fs.fValue.fI.length (lm (ik .i64) x1.fs.fValue.fI), .arr x1.fs.fValue.fB.length (lm (bk) x1.fs.fValue.fB), .arr x1.fin.length (fm c_T_Val x1.fin), .v (.int .i64 x1.fouts)]))])) (fun t => infer_ask_out.k3 fu x1) ?_ (fun hj3 => ?_)
    ·rintro ⟨⟩
     show J _ (infer_ask_out.k3 fu x1) _
     unfold infer_ask_out.k3
     refine Jc ?_
     refine J.jmp (t := ()) hj1 ?_ ?_
     ·exact Ze
     ·exact Zh
    ·refine J.hd jn_at ?_
     refine Jc ?_
     refine J.jmp (t := ()) hj3 ?_ ?_
     ·exact Ze
     ·exact Zh
   ·refine J.hd jn_at ?_
    refine Jc ?_
    refine J.jmp (t := ()) hj2 ?_ ?_
    ·exact Ze
    ·exact Zh
 ·refine J.chk fun h3 => ?_
  conv => arg 1; simp (disch := first | exact Zd | fail) only [bodyOf, Tryz.f38, ZZ, d38_at, simprocAttr, h3]
  refine J.joinS (fun (t : Unit) => ([(1, .ptr (0, 1, 0) 0 0)], [((0, 1, 0), .bx true ([.v (.int .i64 64), .v (.int .i64 x1.fs.fAxis), .arr x1.fs.fAxes.length (lm (ik .i64) x1.fs.fAxes), .v (.bool x1.fs.fHasAxes), .v (.bool x1.fs.fKeep), .v (.bool x1.fs.fNoop), .v (.bool x1.fs.fLast), .v (.bool x1.fs.fZero), .arr x1.fs.fPerm.length (lm (ik .i64) x1.fs.fPerm), .v (.bool x1.fs.fHasPerm), .v (.int .u32 x1.fs.fAlpha), .v (.int .u32 x1.fs.fBeta), .v (.int .u32 x1.fs.fEpsilon), .v (.bool x1.fs.fLow), .v (.bool x1.fs.fHigh), .v (.bool x1.fs.fFmod), .v (.int .i64 x1.fs.fTo), .v (.int .i64 x1.fs.fMode), .v (.bool x1.fs.fTransA), .v (.bool x1.fs.fTransB), .v (.int .i64 x1.fs.fGroup), .arr x1.fs.fKernel.length (lm (ik .i64) x1.fs.fKernel), .arr x1.fs.fStrides.length (lm (ik .i64) x1.fs.fStrides), .arr x1.fs.fPads.length (lm (ik .i64) x1.fs.fPads), .arr x1.fs.fDilations.length (lm (ik .i64) x1.fs.fDilations), .v (.int .i64 x1.fs.fAuto), .v (.bool x1.fs.fCeil), .v (.bool x1.fs.fCount), .v (.int .i64 x1.fs.fBlock), .v (.int .i64 x1.fs.fStart), .v (.int .i64 x1.fs.fEnd), .v (.bool x1.fs.fHasEnd), .v (.int .i64 x1.fs.fValue.fType), .arr x1.fs.fValue.fDims.length (lm (ik .i64) x1.fs.fValue.fDims), .arr x1.fs.fValue.fF.length (lm (ik .u32) x1.fs.fValue.fF), .arr x1.fs.fValue.fI.length (lm (ik .i64) x1.fs.fValue.fI), .arr x1.fs.fValue.fB.length (lm (bk) x1.fs.fValue.fB), .arr x1.fin.length (fm c_T_Val x1.fin), .v (.int .i64 x1.fouts)]))])) (fun t => infer_ask_out.k4 fu x1) ?_ (fun hj4 => ?_)
  ·rintro ⟨⟩
   show J _ (infer_ask_out.k4 fu x1) _
   unfold infer_ask_out.k4
   refine J.bind fun x3 h4 => ?_
   have e_h4 := H84_0 _ _ _ h4
   try simp only [NN, NT, LN, simprocAttr, DT] at e_h4
   refine J.some ?_
   exact Js
  ·refine J.hd jn_at ?_
   refine Jc ?_
   refine J.joinS (fun (t : Unit) => ([(1, .ptr (0, 1, 0) 0 0), (4, .v (.int .i64 64)), (5, .v (.bool (decide ((64 : Int) = 41))))], [((0, 1, 0), .bx true ([.v (.int .i64 64), .v (.int .i64 x1.fs.fAxis), .arr x1.fs.fAxes.length (lm (ik .i64) x1.fs.fAxes), .v (.bool x1.fs.fHasAxes), .v (.bool x1.fs.fKeep), .v (.bool x1.fs.fNoop), .v (.bool x1.fs.fLast), .v (.bool x1.fs.fZero), .arr x1.fs.fPerm.length (lm (ik .i64) x1.fs.fPerm), .v (.bool x1.fs.fHasPerm), .v (.int .u32 x1.fs.fAlpha), .v (.int .u32 x1.fs.fBeta), .v (.int .u32 x1.fs.fEpsilon), .v (.bool x1.fs.fLow), .v (.bool x1.fs.fHigh), .v (.bool x1.fs.fFmod), .v (.int .i64 x1.fs.fTo), .v (.int .i64 x1.fs.fMode), .v (.bool x1.fs.fTransA), .v (.bool x1.fs.fTransB), .v (.int .i64 x1.fs.fGroup), .arr x1.fs.fKernel.length (lm (ik .i64) x1.fs.fKernel), .arr x1.fs.fStrides.length (lm (ik .i64) x1.fs.fStrides), .arr x1.fs.fPads.length (lm (ik .i64) x1.fs.fPads), .arr x1.fs.fDilations.length (lm (ik .i64) x1.fs.fDilations), .v (.int .i64 x1.fs.fAuto), .v (.bool x1.fs.fCeil), .v (.bool x1.fs.fCount), .v (.int .i64 x1.fs.fBlock), .v (.int .i64 x1.fs.fStart), .v (.int .i64 x1.fs.fEnd), .v (.bool x1.fs.fHasEnd), .v (.int .i64 x1.fs.fValue.fType), .arr x1.fs.fValue.fDims.length (lm (ik .i64) x1.fs.fValue.fDims), .arr x1.fs.fValue.fF.length (lm (ik .u32) x1.fs.fValue.fF), .arr x1.fs.fValue.fI.length (lm (ik .i64) x1.fs.fValue.fI), .arr x1.fs.fValue.fB.length (lm (bk) x1.fs.fValue.fB), .arr x1.fin.length (fm c_T_Val x1.fin), .v (.int .i64 x1.fouts)]))])) (fun t => infer_ask_out.k5 fu x1) ?_ (fun hj5 => ?_)
   ·rintro ⟨⟩
    show J _ (infer_ask_out.k5 fu x1) _
    unfold infer_ask_out.k5
    refine Jc ?_
    refine J.joinS (fun (t : Unit) => ([(1, .ptr (0, 1, 0) 0 0), (4, .v (.int .i64 64)), (5, .v (.bool (decide ((64 : Int) = 41)))), (17, .v (.bool (decide ((64 : Int) = 71))))], [((0, 1, 0), .bx true ([.v (.int .i64 64), .v (.int .i64 x1.fs.fAxis), .arr x1.fs.fAxes.length (lm (ik .i64) x1.fs.fAxes), .v (.bool x1.fs.fHasAxes), .v (.bool x1.fs.fKeep), .v (.bool x1.fs.fNoop), .v (.bool x1.fs.fLast), .v (.bool x1.fs.fZero), .arr x1.fs.fPerm.length (lm (ik .i64) x1.fs.fPerm), .v (.bool x1.fs.fHasPerm), .v (.int .u32 x1.fs.fAlpha), .v (.int .u32 x1.fs.fBeta), .v (.int .u32 x1.fs.fEpsilon), .v (.bool x1.fs.fLow), .v (.bool x1.fs.fHigh), .v (.bool x1.fs.fFmod), .v (.int .i64 x1.fs.fTo), .v (.int .i64 x1.fs.fMode), .v (.bool x1.fs.fTransA), .v (.bool x1.fs.fTransB), .v (.int .i64 x1.fs.fGroup), .arr x1.fs.fKernel.length (lm (ik .i64) x1.fs.fKernel), .arr x1.fs.fStrides.length (lm (ik .i64) x1.fs.fStrides), .arr x1.fs.fPads.length (lm (ik .i64) x1.fs.fPads), .arr x1.fs.fDilations.length (lm (ik .i64) x1.fs.fDilations), .v (.int .i64 x1.fs.fAuto), .v (.bool x1.fs.fCeil), .v (.bool x1.fs.fCount), .v (.int .i64 x1.fs.fBlock), .v (.int .i64 x1.fs.fStart), .v (.int .i64 x1.fs.fEnd), .v (.bool x1.fs.fHasEnd), .v (.int .i64 x1.fs.fValue.fType), .arr x1.fs.fValue.fDims.length (lm (ik .i64) x1.fs.fValue.fDims), .arr x1.fs.fValue.fF.length (lm (ik .u32) x1.fs.fValue.fF), .arr x1.fs.fValue.fI.length (lm (ik .i64) x1.fs.fValue.fI), .arr x1.fs.fValue.fB.length (lm (bk) x1.fs.fValue.fB), .arr x1.fin.length (fm c_T_Val x1.fin), .v (.int .i64 x1.fouts)]))])) (fun t => infer_ask_out.k6 fu x1) ?_ (fun hj6 => ?_)
    ·rintro ⟨⟩
     show J _ (infer_ask_out.k6 fu x1) _
     unfold infer_ask_out.k6
     refine Jc ?_
     refine J.jmp (t := ()) hj4 ?_ ?_
     ·exact Ze
     ·exact Zh
    ·refine J.hd jn_at ?_
     refine Jc ?_
     refine J.jmp (t := ()) hj6 ?_ ?_
     ·exact Ze
     ·exact Zh
   ·refine J.hd jn_at ?_
    refine Jc ?_
    refine J.jmp (t := ()) hj5 ?_ ?_
    ·exact Ze
    ·exact Zh
noncomputable def t38 (fu : Nat) : CallP := orE 84 (mkC (fun (t : T_infer_ask × Int) => ([.agg (c_T_infer_ask t.1), .v (.int .i64 t.2)] : List AV)) (fun t => infer_ask_val fu t.1 t.2) e84) (noP)
theorem t38_ok (fu : Nat) : CpOK Tryz.prog (t38 fu ) := orE_ok (noP_ok) (mkC_ok (fun t b h => ok84 fu t.1 t.2  b h))
theorem ok38 (fu : Nat) (x1 : T_infer_ask) (r) (h : infer_ask_out fu x1 = some r) : PureOK Tryz.prog 38 [.agg (c_T_infer_ask x1)] (e38 r) :=
  pure_J mixed (cp := t38 fu ) (t38_ok fu  ) noI_ok i38 (w38 _ fu x1  (fun a0 a1 r h => orE_hit (mkC_at (a := (a0, a1)) (by intro a b h; first | (exact rfl) | (simp only [INJ, IJ] at h; first | exact h | (simp_all [Prod.ext_iff]) )) h))) h
/-! 20: lattice/infer.Node -/
open Aw (d20)
def d20_at := by have h := tabL Aw.d20.eq_1; simp only [AllAt, Nat.zero_add, Nat.reduceAdd] at h; exact h
theorem i20 : finfo Tryz.prog 20 d20 = some ⟨bodyOf Tryz.f20, [.tmp 8, .tmp 9], [53, 30]⟩ := finfo_at Tryz.func20 rfl (by kernel_rfl) (by kernel_rfl)
def e20 : ((List T_Val) × Int) → AV := fun r => .tuple [.arr r.1.length (fm c_T_Val r.1), .v (.int .i64 r.2)]
set_option maxHeartbeats 20000000 in
theorem w20 (cp : CallP) (fu : Nat) (x1 : Int) (x2 : T_Setting) (x3 : List T_Val) (x4 : Int) (H35_0 : ∀ (a0 : T_infer_ask) r, infer_ask_complete fu a0 = some r → cp 35 [.agg (c_T_infer_ask a0)] = some (.v (.bool r))) (H36_0 : ∀ (a0 : T_infer_ask) r, infer_ask_wrong fu a0 = some r → cp 36 [.agg (c_T_infer_ask a0)] = some (.v (.int .i64 r))) (H37_0 : ∀ (a0 : T_infer_ask) r, infer_ask_shapes fu a0 = some r → cp 37 [.agg (c_T_infer_ask a0)] = some (.tuple [.arr r.1.length (lm (avl (ik .i64)) r.1), .v (.int .i64 r.2)])) (H32_0 : ∀ (a0 : List Int) r, shape_Size fu a0 = some r → cp 32 [.arr a0.length (lm (ik .i64) a0)] = some (.tuple [.v (.int .i64 r.1), .v (.int .i64 r.2)])) (H38_0 : ∀ (a0 : T_infer_ask) r, infer_ask_out fu a0 = some r → cp 38 [.agg (c_T_infer_ask a0)] = some (.v (.int .i64 r))) (H39_0 : ∀ (a0 : List Int) r, slices_Clone_int fu a0 = some r → cp 39 [.arr a0.length (lm (ik .i64) a0)] = some (.fresh 1 r.length (lm (ik .i64) r))) : J (go Tryz.prog noC cp noI 0 [] d20 fu (finS Tryz.prog [.tmp 8, .tmp 9] [53, 30]) (bodyOf Tryz.f20) (initE 0 [.v (.int .i64 x1), .agg (c_T_Setting x2), .arr x3.length (fm c_T_Val x3), .v (.int .i64 x4)]) [] []) (infer_Node fu x1 x2 x3 x4) e20 := by
 unfold infer_Node e20
 have da := d20_at
 refine J.spl (fun h1 => ?_) (fun h1 => ?_)
 ·conv => arg 1; simp (disch := first | exact Zd | fail) only [bodyOf, Tryz.f20, ZZ, d20_at, simprocAttr, SE, h1]
  refine J.eq go_seq ?_
  refine J.bind fun x5 h2 => ?_
  have e_h2 := H35_0 _ _ h2
  try simp only [NN, NT, LN, simprocAttr, DT] at e_h2
  conv => arg 1; simp (disch := first | exact Zd | fail) only [ZZ, d20_at, simprocAttr, SE, h1, e_h2]
  refine J.ite (fun h3 => ?_) (fun h3 => ?_)
  ·have h3' : x5 = true := h3
   conv => arg 1; simp (disch := first | exact Zd | fail) only [ZZ, d20_at, simprocAttr, SE, h1, e_h2, h3']
   refine J.eq ret_seq ?_
   refine J.eq go_seq ?_
   refine J.bind fun x6 h4 => ?_
   have e_h4 := H36_0 _ _ h4
   try simp only [NN, NT, LN, simprocAttr, DT] at e_h4
   conv => arg 1; simp (disch := first | exact Zd | fail) only [ZZ, d20_at, simprocAttr, SE, h1, e_h2, h3', e_h4]
   refine J.ite (fun h5 => ?_) (fun h5 => ?_)
   ·have h5' := decide_eq_true h5
    conv => arg 1; simp (disch := first | exact Zd | fail) only [ZZ, d20_at, simprocAttr, SE, h1, e_h2, h3', e_h4, h5']
    refine J.eq ret_seq ?_
    refine J.bind fun x7 h6 => ?_
    have e_h6 := H37_0 _ _ h6
    try simp only [NN, NT, LN, simprocAttr, DT] at e_h6
    conv => arg 1; simp (disch := first | exact Zd | fail) only [ZZ, d20_at, simprocAttr, SE, h1, e_h2, h3', e_h4, h5', e_h6]
    refine J.eq go_seq ?_
    conv => arg 1; simp (disch := first | exact Zd | fail) only [ZZ, d20_at, simprocAttr, SE, h1, e_h2, h3', e_h4, h5', e_h6]
    refine J.ite (fun h7 => ?_) (fun h7 => ?_)
    ·have h7' := decide_eq_true h7
     conv => arg 1; simp (disch := first | exact Zd | fail) only [ZZ, d20_at, simprocAttr, SE, h1, e_h2, h3', e_h4, h5', e_h6, h7']
     refine J.eq ret_seq ?_
     conv => arg 1; simp (disch := first | exact Zd | fail) only [ZZ, d20_at, simprocAttr, SE, h1, e_h2, h3', e_h4, h5', e_h6, h7']
     refine J.eq go_seq ?_
     conv => arg 1; simp (disch := first | exact Zd | fail) only [ZZ, d20_at, simprocAttr, SE, h1, e_h2, h3', e_h4, h5', e_h6, h7']
     unfold infer_Node.W1
     refine J.loop (fun (s : (List T_Val) × Int) => ([(10, .ptr (0, 10, 0) 0 0), (14, .own (0, 14, 77) 0 s.1.length s.1.length), (40, .arr x7.1.length (lm (avl (ik .i64)) x7.1)), (41, .v (.int .i64 (x7.1.length : Int))), (42, .v (.int .i64 s.2))], [((0, 10, 0), .bx true ([.v (.int .i64 63), .v (.int .i64 x2.fAxis), .arr x2.fAxes.length (lm (ik .i64) x2.fAxes), .v (.bool x2.fHasAxes), .v (.bool x2.fKeep), .v (.bool x2.fNoop), .v (.bool x2.fLast), .v (.bool x2.fZero), .arr x2.fPerm.length (lm (ik .i64) x2.fPerm), .v (.bool x2.fHasPerm), .v (.int .u32 x2.fAlpha), .v (.int .u32 x2.fBeta), .v (.int .u32 x2.fEpsilon), .v (.bool x2.fLow), .v (.bool x2.fHigh), .v (.bool x2.fFmod), .v (.int .i64 x2.fTo), .v (.int .i64 x2.fMode), .v (.bool x2.fTransA), .v (.bool x2.fTransB), .v (.int .i64 x2.fGroup), .arr x2.fKernel.length (lm (ik .i64) x2.fKernel), .arr x2.fStrides.length (lm (ik .i64) x2.fStrides), .arr x2.fPads.length (lm (ik .i64) x2.fPads), .arr x2.fDilations.length (lm (ik .i64) x2.fDilations), .v (.int .i64 x2.fAuto), .v (.bool x2.fCeil), .v (.bool x2.fCount), .v (.int .i64 x2.fBlock), .v (.int .i64 x2.fStart), .v (.int .i64 x2.fEnd), .v (.bool x2.fHasEnd), .v (.int .i64 x2.fValue.fType), .arr x2.fValue.fDims.length (lm (ik .i64) x2.fValue.fDims), .arr x2.fValue.fF.length (lm (ik .u32) x2.fValue.fF), .arr x2.fValue.fI.length (lm (ik .i64) x2.fValue.fI), .arr x2.fValue.fB.length (lm (bk) x2.fValue.fB), .arr x3.length (fm c_T_Val x3), .v (.int .i64 x4)])), ((0, 14, 77), .sl true true 8 s.1.length (fm c_T_Val s.1))])) (fun next s => infer_Node.L1 fu x2 x3 x4 x7 (fun x12 x13 => next (x12, x13)) s.1 s.2) (s0 := (([] : List T_Val), 0)) ?_ ?_ ?_
     ·exact Ze
     ·exact Zh
     rintro next k1 hn1 ⟨x12, x13⟩
     let nx1 : (List T_Val) → Int → Option ((List T_Val) × Int) := (fun x12 x13 => next (x12, x13))
     show J _ (infer_Node.L1 fu x2 x3 x4 x7 nx1 x12 x13) _
     unfold infer_Node.L1
     conv => arg 1; simp (disch := first | exact Zd | fail) only [ZZ, d20_at, simprocAttr, SE, h1, e_h2, h3', e_h4, h5', e_h6, h7']
     refine J.eq go_seq ?_
     conv => arg 1; simp (disch := first | exact Zd | fail) only [ZZ, d20_at, simprocAttr, SE, h1, e_h2, h3', e_h4, h5', e_h6, h7']
     refine J.ite (fun h8 => ?_) (fun h8 => ?_)
     ·have h8' := decide_eq_true h8
      have h8'' : decide ((x7.1.length : Int) ≤ x13) = false := decide_eq_false (by omega)
      conv => arg 1; simp (disch := first | exact Zd | fail) only [ZZ, d20_at, simprocAttr, SE, h1, e_h2, h3', e_h4, h5', e_h6, h7', h8'', h8']
      refine J.eq ret_seq ?_
      refine J.eq go_seq ?_
      refine J.at fun x18 h9 h10 h11 => ?_
      conv => arg 1; simp (disch := first | exact Zd | fail) only [ZZ, d20_at, simprocAttr, SE, h1, e_h2, h3', e_h4, h5', e_h6, h7', h8'', h8', lm_avl h11]
      refine J.eq go_seq ?_
      refine J.bind fun x19 h12 => ?_
      have e_h12 := H32_0 _ _ h12
      try simp only [NN, NT, LN, simprocAttr, DT] at e_h12
      conv => arg 1; simp (disch := first | exact Zd | fail) only [ZZ, d20_at, simprocAttr, SE, h1, e_h2, h3', e_h4, h5', e_h6, h7', h8'', h8', lm_avl h11, e_h12]
      refine J.ite (fun h13 => ?_) (fun h13 => ?_)
      ·have h13' := decide_eq_true h13
       conv => arg 1; simp (disch := first | exact Zd | fail) only [ZZ, d20_at, simprocAttr, SE, h1, e_h2, h3', e_h4, h5', e_h6, h7', h8'', h8', lm_avl h11, e_h12, h13']
       refine J.eq ret_seq ?_
       refine J.bind fun x20 h14 => ?_
       have e_h14 := H38_0 _ _ h14
       try simp only [NN, NT, LN, simprocAttr, DT] at e_h14
       refine J.bind fun x21 h15 => ?_
       have e_h15 := H39_0 _ _ h15
       try simp only [NN, NT, LN, simprocAttr, DT] at e_h15
       refine J.chk fun h16 => ?_
       conv => arg 1; simp (disch := first | exact Zd | fail) only [ZZ, d20_at, simprocAttr, SE, h1, e_h2, h3', e_h4, h5', e_h6, h7', h8'', h8', lm_avl h11, e_h12, h13', e_h14, e_h15]
       refine J.eq ret_seq ?_
       conv => arg 1; simp (disch := first | exact Zd | fail) only [ZZ, d20_at, simprocAttr, SE, h1, e_h2, h3', e_h4, h5', e_h6, h7', h8'', h8', lm_avl h11, e_h12, h13', e_h14, e_h15]
       refine J.next (s := (x12 ++ ([T_Val.mk x20 x21 false (T_Tensor.mk 0 ([]) ([]) ([]) ([]))]), wk .i64 (x13 + 1))) hn1 ?_ ?_
       ·exact Ze
       ·exact Zh
      ·have h13' := decide_eq_false h13
       refine J.some ?_
       simp (maxSteps := 20000000) (disch := first | exact Zd | fail) only [ZZ, d20_at, simprocAttr, SE, h1, e_h2, h3', e_h4, h5', e_h6, h7', h8'', h8', lm_avl h11, e_h12, h13', FN]
     ·have h8' := decide_eq_false h8
      have h8'' : decide ((x7.1.length : Int) ≤ x13) = true := decide_eq_true (by omega)
      conv => arg 1; simp (disch := first | exact Zd | fail) only [ZZ, d20_at, simprocAttr, SE, h1, e_h2, h3', e_h4, h5', e_h6, h7', h8'', h8']
      refine J.eq ret_seq ?_
      refine J.some ?_
      simp (maxSteps := 20000000) (disch := first | exact Zd | fail) only [ZZ, d20_at, simprocAttr, SE, h1, e_h2, h3', e_h4, h5', e_h6, h7', h8'', h8', FN]
    ·have h7' := decide_eq_false h7
     refine J.some ?_
     simp (maxSteps := 20000000) (disch := first | exact Zd | fail) only [ZZ, d20_at, simprocAttr, SE, h1, e_h2, h3', e_h4, h5', e_h6, h7', FN]
   ·have h5' := decide_eq_false h5
    refine J.some ?_
    simp (maxSteps := 20000000) (disch := first | exact Zd | fail) only [ZZ, d20_at, simprocAttr, SE, h1, e_h2, h3', e_h4, h5', FN]
  ·have h3' : x5 = false := Bool.eq_false_iff.2 h3
   refine J.some ?_
   simp (maxSteps := 20000000) (disch := first | exact Zd | fail) only [ZZ, d20_at, simprocAttr, SE, h1, e_h2, h3', FN]
 ·refine J.chk fun h17 => ?_
  conv => arg 1; simp (disch := first | exact Zd | fail) only [bodyOf, Tryz.f20, ZZ, d20_at, simprocAttr, SE, h17]
  refine J.eq go_seq ?_
  refine J.bind fun x22 h18 => ?_
  have e_h18 := H35_0 _ _ h18
  try simp only [NN, NT, LN, simprocAttr, DT] at e_h18
  conv => arg 1; simp (disch := first | exact Zd | fail) only [ZZ, d20_at, simprocAttr, SE, h17, e_h18]
  refine J.ite (fun h19 => ?_) (fun h19 => ?_)
  ·have h19' : x22 = true := h19
   conv => arg 1; simp (disch := first | exact Zd | fail) only [ZZ, d20_at, simprocAttr, SE, h17, e_h18, h19']
   refine J.eq ret_seq ?_
   refine J.eq go_seq ?_
   refine J.bind fun x23 h20 => ?_
   have e_h20 := H36_0 _ _ h20
   try simp only [NN, NT, LN, simprocAttr, DT] at e_h20
   conv => arg 1; simp (disch := first | exact Zd | fail) only [ZZ, d20_at, simprocAttr, SE, h17, e_h18, h19', e_h20]
   refine J.ite (fun h21 => ?_) (fun h21 => ?_)
   ·have h21' := decide_eq_true h21
    conv => arg 1; simp (disch := first | exact Zd | fail) only [ZZ, d20_at, simprocAttr, SE, h17, e_h18, h19', e_h20, h21']
    refine J.eq ret_seq ?_
    refine J.bind fun x24 h22 => ?_
    have e_h22 := H37_0 _ _ h22
    try simp only [NN, NT, LN, simprocAttr, DT] at e_h22
    conv => arg 1; simp (disch := first | exact Zd | fail) only [ZZ, d20_at, simprocAttr, SE, h17, e_h18, h19', e_h20, h21', e_h22]
    refine J.eq go_seq ?_
    conv => arg 1; simp (disch := first | exact Zd | fail) only [ZZ, d20_at, simprocAttr, SE, h17, e_h18, h19', e_h20, h21', e_h22]
    refine J.ite (fun h23 => ?_) (fun h23 => ?_)
    ·have h23' := decide_eq_true h23
     conv => arg 1; simp (disch := first | exact Zd | fail) only [ZZ, d20_at, simprocAttr, SE, h17, e_h18, h19', e_h20, h21', e_h22, h23']
     refine J.eq ret_seq ?_
     conv => arg 1; simp (disch := first | exact Zd | fail) only [ZZ, d20_at, simprocAttr, SE, h17, e_h18, h19', e_h20, h21', e_h22, h23']
     refine J.eq go_seq ?_
     conv => arg 1; simp (disch := first | exact Zd | fail) only [ZZ, d20_at, simprocAttr, SE, h17, e_h18, h19', e_h20, h21', e_h22, h23']
     unfold infer_Node.W2
     refine J.loop (fun (s : (List T_Val) × Int) => ([(10, .ptr (0, 10, 0) 0 0), (14, .own (0, 14, 77) 0 s.1.length s.1.length), (40, .arr x24.1.length (lm (avl (ik .i64)) x24.1)), (41, .v (.int .i64 (x24.1.length : Int))), (42, .v (.int .i64 s.2))], [((0, 10, 0), .bx true ([.v (.int .i64 64), .v (.int .i64 x2.fAxis), .arr x2.fAxes.length (lm (ik .i64) x2.fAxes), .v (.bool x2.fHasAxes), .v (.bool x2.fKeep), .v (.bool x2.fNoop), .v (.bool x2.fLast), .v (.bool x2.fZero), .arr x2.fPerm.length (lm (ik .i64) x2.fPerm), .v (.bool x2.fHasPerm), .v (.int .u32 x2.fAlpha), .v (.int .u32 x2.fBeta), .v (.int .u32 x2.fEpsilon), .v (.bool x2.fLow), .v (.bool x2.fHigh), .v (.bool x2.fFmod), .v (.int .i64 x2.fTo), .v (.int .i64 x2.fMode), .v (.bool x2.fTransA), .v (.bool x2.fTransB), .v (.int .i64 x2.fGroup), .arr x2.fKernel.length (lm (ik .i64) x2.fKernel), .arr x2.fStrides.length (lm (ik .i64) x2.fStrides), .arr x2.fPads.length (lm (ik .i64) x2.fPads), .arr x2.fDilations.length (lm (ik .i64) x2.fDilations), .v (.int .i64 x2.fAuto), .v (.bool x2.fCeil), .v (.bool x2.fCount), .v (.int .i64 x2.fBlock), .v (.int .i64 x2.fStart), .v (.int .i64 x2.fEnd), .v (.bool x2.fHasEnd), .v (.int .i64 x2.fValue.fType), .arr x2.fValue.fDims.length (lm (ik .i64) x2.fValue.fDims), .arr x2.fValue.fF.length (lm (ik .u32) x2.fValue.fF), .arr x2.fValue.fI.length (lm (ik .i64) x2.fValue.fI), .arr x2.fValue.fB.length (lm (bk) x2.fValue.fB), .arr x3.length (fm c_T_Val x3), .v (.int .i64 x4)])), ((0, 14, 77), .sl true true 8 s.1.length (fm c_T_Val s.1))])) (fun next s => infer_Node.L2 fu x2 x3 x4 x24 (fun x29 x30 => next (x29, x30)) s.1 s.2) (s0 := (([] : List T_Val), 0)) ?_ ?_ ?_
     ·exact Ze
     ·exact Zh
     rintro next k2 hn2 ⟨x29, x30⟩
     let nx2 : (List T_Val) → Int → Option ((List T_Val) × Int) := (fun x29 x30 => next (x29, x30))
     show J _ (infer_Node.L2 fu x2 x3 x4 x24 nx2 x29 x30) _
     unfold infer_Node.L2
     conv => arg 1; simp (disch := first | exact Zd | fail) only [ZZ, d20_at, simprocAttr, SE, h17, e_h18, h19', e_h20, h21', e_h22, h23']
     refine J.eq go_seq ?_
     conv => arg 1; simp (disch := first | exact Zd | fail) only [ZZ, d20_at, simprocAttr, SE, h17, e_h18, h19', e_h20, h21', e_h22, h23']
     refine J.ite (fun h24 => ?_) (fun h24 => ?_)
     ·have h24' := decide_eq_true h24
      have h24'' : decide ((x24.1.length : Int) ≤ x30) = false := decide_eq_false (by omega)
      conv => arg 1; simp (disch := first | exact Zd | fail) only [ZZ, d20_at, simprocAttr, SE, h17, e_h18, h19', e_h20, h21', e_h22, h23', h24'', h24']
      refine J.eq ret_seq ?_
      refine J.eq go_seq ?_
      refine J.at fun x35 h25 h26 h27 => ?_
      conv => arg 1; simp (disch := first | exact Zd | fail) only [ZZ, d20_at, simprocAttr, SE, h17, e_h18, h19', e_h20, h21', e_h22, h23', h24'', h24', lm_avl h27]
      refine J.eq go_seq ?_
      refine J.bind fun x36 h28 => ?_
      have e_h28 := H32_0 _ _ h28
      try simp only [NN, NT, LN, simprocAttr, DT] at e_h28
      conv => arg 1; simp (disch := first | exact Zd | fail) only [ZZ, d20_at, simprocAttr, SE, h17, e_h18, h19', e_h20, h21', e_h22, h23', h24'', h24', lm_avl h27, e_h28]
      refine J.ite (fun h29 => ?_) (fun h29 => ?_)
      ·have h29' := decide_eq_true h29
       conv => arg 1; simp (disch := first | exact Zd | fail) only [ZZ, d20_at, simprocAttr, SE, h17, e_h18, h19', e_h20, h21', e_h22, h23', h24'', h24', lm_avl h27, e_h28, h29']
       refine J.eq ret_seq ?_
       refine J.bind fun x37 h30 => ?_
       have e_h30 := H38_0 _ _ h30
       try simp only [NN, NT, LN, simprocAttr, DT] at e_h30
       refine J.bind fun x38 h31 => ?_
       have e_h31 := H39_0 _ _ h31
       try simp only [NN, NT, LN, simprocAttr, DT] at e_h31
       refine J.chk fun h32 => ?_
       conv => arg 1; simp (disch := first | exact Zd | fail) only [ZZ, d20_at, simprocAttr, SE, h17, e_h18, h19', e_h20, h21', e_h22, h23', h24'', h24', lm_avl h27, e_h28, h29', e_h30, e_h31]
       refine J.eq ret_seq ?_
       conv => arg 1; simp (disch := first | exact Zd | fail) only [ZZ, d20_at, simprocAttr, SE, h17, e_h18, h19', e_h20, h21', e_h22, h23', h24'', h24', lm_avl h27, e_h28, h29', e_h30, e_h31]
       refine J.next (s := (x29 ++ ([T_Val.mk x37 x38 false (T_Tensor.mk 0 ([]) ([]) ([]) ([]))]), wk .i64 (x30 + 1))) hn2 ?_ ?_
       ·exact Ze
       ·exact Zh
      ·have h29' := decide_eq_false h29
       refine J.some ?_
       simp (maxSteps := 20000000) (disch := first | exact Zd | fail) only [ZZ, d20_at, simprocAttr, SE, h17, e_h18, h19', e_h20, h21', e_h22, h23', h24'', h24', lm_avl h27, e_h28, h29', FN]
     ·have h24' := decide_eq_false h24
      have h24'' : decide ((x24.1.length : Int) ≤ x30) = true := decide_eq_true (by omega)
      conv => arg 1; simp (disch := first | exact Zd | fail) only [ZZ, d20_at, simprocAttr, SE, h17, e_h18, h19', e_h20, h21', e_h22, h23', h24'', h24']
      refine J.eq ret_seq ?_
      refine J.some ?_
      simp (maxSteps := 20000000) (disch := first | exact Zd | fail) only [ZZ, d20_at, simprocAttr, SE, h17, e_h18, h19', e_h20, h21', e_h22, h23', h24'', h24', FN]
    ·have h23' := decide_eq_false h23
     refine J.some ?_
     simp (maxSteps := 20000000) (disch := first | exact Zd | fail) only [ZZ, d20_at, simprocAttr, SE, h17, e_h18, h19', e_h20, h21', e_h22, h23', FN]
   ·have h21' := decide_eq_false h21
    refine J.some ?_
    simp (maxSteps := 20000000) (disch := first | exact Zd | fail) only [ZZ, d20_at, simprocAttr, SE, h17, e_h18, h19', e_h20, h21', FN]
  ·have h19' : x22 = false := Bool.eq_false_iff.2 h19
   refine J.some ?_
   simp (maxSteps := 20000000) (disch := first | exact Zd | fail) only [ZZ, d20_at, simprocAttr, SE, h17, e_h18, h19', FN]
noncomputable def t20 (fu : Nat) : CallP := orE 35 (mkC (fun (t : T_infer_ask) => ([.agg (c_T_infer_ask t)] : List AV)) (fun t => infer_ask_complete fu t) e35) (orE 36 (mkC (fun (t : T_infer_ask) => ([.agg (c_T_infer_ask t)] : List AV)) (fun t => infer_ask_wrong fu t) e36) (orE 37 (mkC (fun (t : T_infer_ask) => ([.agg (c_T_infer_ask t)] : List AV)) (fun t => infer_ask_shapes fu t) e37) (orE 32 (mkC (fun (t : List Int) => ([.arr t.length (lm (ik .i64) t)] : List AV)) (fun t => shape_Size fu t) e32) (orE 38 (mkC (fun (t : T_infer_ask) => ([.agg (c_T_infer_ask t)] : List AV)) (fun t => infer_ask_out fu t) e38) (orE 39 (mkC (fun (t : List Int) => ([.arr t.length (lm (ik .i64) t)] : List AV)) (fun t => slices_Clone_int fu t) e39) (noP))))))
theorem t20_ok (fu : Nat) : CpOK Tryz.prog (t20 fu ) := orE_ok (orE_ok (orE_ok (orE_ok (orE_ok (orE_ok (noP_ok) (mkC_ok (fun t b h => ok39 fu t  b h))) (mkC_ok (fun t b h => ok38 fu t  b h))) (mkC_ok (fun t b h => ok32 fu t  b h))) (mkC_ok (fun t b h => ok37 fu t  b h))) (mkC_ok (fun t b h => ok36 fu t  b h))) (mkC_ok (fun t b h => ok35 fu t  b h))
theorem ok20 (fu : Nat) (x1 : Int) (x2 : T_Setting) (x3 : List T_Val) (x4 : Int) (r) (h : infer_Node fu x1 x2 x3 x4 = some r) : PureOK Tryz.prog 20 [.v (.int .i64 x1), .agg (c_T_Setting x2), .arr x3.length (fm c_T_Val x3), .v (.int .i64 x4)] (e20 r) :=
  pureS_J mixed (cp := t20 fu ) (t20_ok fu  ) noI_ok i20 (w20 _ fu x1 x2 x3 x4  (fun a0 r h => orE_hit (mkC_at (a := a0) (by intro a b h; first | (exact rfl) | (simp only [INJ, IJ] at h; first | exact h | (simp_all [Prod.ext_iff]) )) h)) (fun a0 r h => orE_miss (by decide) (orE_hit (mkC_at (a := a0) (by intro a b h; first | (exact rfl) | (simp only [INJ, IJ] at h; first | exact h | (simp_all [Prod.ext_iff]) )) h))) (fun a0 r h => orE_miss (by decide) (orE_miss (by decide) (orE_hit (mkC_at (a := a0) (by intro a b h; first | (exact rfl) | (simp only [INJ, IJ] at h; first | exact h | (simp_all [Prod.ext_iff]) )) h)))) (fun a0 r h => orE_miss (by decide) (orE_miss (by decide) (orE_miss (by decide) (orE_hit (mkC_at (a := a0) (by intro a b h; first | (exact rfl) | (simp only [INJ, IJ] at h; first | exact h | (simp_all [Prod.ext_iff]) )) h))))) (fun a0 r h => orE_miss (by decide) (orE_miss (by decide) (orE_miss (by decide) (orE_miss (by decide) (orE_hit (mkC_at (a := a0) (by intro a b h; first | (exact rfl) | (simp only [INJ, IJ] at h; first | exact h | (simp_all [Prod.ext_iff]) )) h)))))) (fun a0 r h => orE_miss (by decide) (orE_miss (by decide) (orE_miss (by decide) (orE_miss (by decide) (orE_miss (by decide) (orE_hit (mkC_at (a := a0) (by intro a b h; first | (exact rfl) | (simp only [INJ, IJ] at h; first | exact h | (simp_all [Prod.ext_iff]) )) h)))))))) h
/-! 22: lattice/shape.Axis -/
open Aw (d22)
def d22_at := by have h := tabL Aw.d22.eq_1; simp only [AllAt, Nat.zero_add, Nat.reduceAdd] at h; exact h
theorem i22 : finfo Tryz.prog 22 d22 = some ⟨bodyOf Tryz.f22, [.tmp 4, .tmp 5], [3, 30]⟩ := finfo_at Tryz.func22 rfl (by kernel_rfl) (by kernel_rfl)
def e22 : (Int × Int) → AV := fun r => .tuple [.v (.int .i64 r.1), .v (.int .i64 r.2)]
set_option maxHeartbeats 20000000 in
theorem w22 (cp : CallP) (fu : Nat) (x1 : Int) (x2 : Int) : J (go Tryz.prog noC cp noI 0 [] d22 fu (fin Tryz.prog [.tmp 4, .tmp 5] [3, 30]) (bodyOf Tryz.f22) (initE 0 [.v (.int .i64 x1), .v (.int .i64 x2)]) [] []) (shape_Axis fu x1 x2) e22 := by
 unfold shape_Axis e22
 have da := d22_at
 conv => arg 1; simp (disch := first | exact Zd | fail) only [bodyOf, Tryz.f22, ZZ, d22_at, simprocAttr]
 refine J.eq go_seq ?_
 refine Jc ?_
 refine J.ite (fun h1 => ?_) (fun h1 => ?_)
 ·have h1' := decide_eq_true h1
  have h1'' : decide (0 ≤ x2) = false := decide_eq_false (by omega)
  refine J.some ?_
  exact Js
 ·have h1' := decide_eq_false h1
  have h1'' : decide (0 ≤ x2) = true := decide_eq_true (by omega)
  refine Jc ?_
  refine J.eq go_seq ?_
  refine Jc ?_
  refine J.ite (fun h2 => ?_) (fun h2 => ?_)
  ·have h2' := decide_eq_true h2
   have h2'' : decide (x1 < 0) = false := decide_eq_false (by omega)
   refine Jc ?_
   refine J.eq ret_seq ?_
   refine Jc ?_
   refine J.ite (fun h3 => ?_) (fun h3 => ?_)
   ·have h3' := decide_eq_true h3
    have h3'' : decide (x2 ≤ x1) = false := decide_eq_false (by omega)
    refine J.some ?_
    exact Js
   ·have h3' := decide_eq_false h3
    have h3'' : decide (x2 ≤ x1) = true := decide_eq_true (by omega)
    refine Jc ?_
    refine J.eq go_seq ?_
    refine Jc ?_
    refine J.eq ret_seq ?_
    refine Jc ?_
    refine J.eq ret_seq ?_
    refine J.some ?_
    exact Js
  ·have h2' := decide_eq_false h2
   have h2'' : decide (x1 < 0) = true := decide_eq_true (by omega)
   refine Jc ?_
   refine J.eq ret_seq ?_
   refine Jc ?_
   refine J.eq go_seq ?_
   refine Jc ?_
   refine J.eq ret_seq ?_
   refine Jc ?_
   refine J.ite (fun h4 => ?_) (fun h4 => ?_)
   ·have h4' := decide_eq_true h4
    have h4'' : decide (x1 < (wk .i64 (0 - x2))) = false := decide_eq_false (by omega)
    refine J.some ?_
    exact Js
   ·have h4' := decide_eq_false h4
    have h4'' : decide (x1 < (wk .i64 (0 - x2))) = true := decide_eq_true (by omega)
    refine Jc ?_
    refine J.eq ret_seq ?_
    refine J.some ?_
    exact Js
noncomputable def t22 (fu : Nat) : CallP := noP
theorem t22_ok (fu : Nat) : CpOK Tryz.prog (t22 fu ) := noP_ok
theorem ok22 (fu : Nat) (x1 : Int) (x2 : Int) (r) (h : shape_Axis fu x1 x2 = some r) : PureOK Tryz.prog 22 [.v (.int .i64 x1), .v (.int .i64 x2)] (e22 r) :=
  pure_J mixed (cp := t22 fu ) (t22_ok fu  ) noI_ok i22 (w22 _ fu x1 x2  ) h
/-! 147: lattice/shape.strides -/
open Aw (d147)
def d147_at := by have h := tabL Aw.d147.eq_1; simp only [AllAt, Nat.zero_add, Nat.reduceAdd] at h; exact h
theorem i147 : finfo Tryz.prog 147 d147 = some ⟨bodyOf Tryz.f147, [.tmp 2], [22]⟩ := finfo_at Tryz.func147 rfl (by kernel_rfl) (by kernel_rfl)
def e147 : (List Int) → AV := fun r => .fresh 1 r.length (lm (ik .i64) r)
set_option maxHeartbeats 20000000 in
theorem w147 (cp : CallP) (fu : Nat) (x1 : List Int) : J (go Tryz.prog noC cp noI 0 [] d147 fu (fin Tryz.prog [.tmp 2] [22]) (bodyOf Tryz.f147) (initE 0 [.arr x1.length (lm (ik .i64) x1)]) [] []) (shape_strides fu x1) e147 := by
 unfold shape_strides e147
 have da := d147_at
 refine J.chk fun h1 => ?_
 conv => arg 1; simp (disch := first | exact Zd | fail) only [bodyOf, Tryz.f147, ZZ, d147_at, simprocAttr]
 refine J.eq go_seq ?_
 refine Jc ?_
 unfold shape_strides.W1
 refine J.loop (fun (s : (List Int) × Int × Int) => ([(0, .arr x1.length (lm (ik .i64) x1)), (3, .own (0, 8, 0) 0 s.1.length s.1.length), (4, .v (.int .i64 s.2.1)), (5, .v (.int .i64 s.2.2))], [((0, 8, 0), .sl true true 1 s.1.length (lm (ik .i64) s.1))])) (fun next s => shape_strides.L1 fu x1 (fun x3 x4 x5 => next (x3, x4, x5)) s.1 s.2.1 s.2.2) (s0 := (List.replicate (x1.length : Int).toNat (0 : Int), 1, wk .i64 ((x1.length : Int) - 1))) ?_ ?_ ?_
 ·exact Ze
 ·exact Zh
 rintro next k1 hn1 ⟨x3, x4, x5⟩
 let nx1 : (List Int) → Int → Int → Option (List Int) := (fun x3 x4 x5 => next (x3, x4, x5))
 show J _ (shape_strides.L1 fu x1 nx1 x3 x4 x5) _
 unfold shape_strides.L1
 refine J.eq go_seq ?_
 refine Jc ?_
 refine J.ite (fun h2 => ?_) (fun h2 => ?_)
 ·have h2' := decide_eq_true h2
  have h2'' : decide (x5 < 0) = false := decide_eq_false (by omega)
  refine Jc ?_
  refine J.eq ret_seq ?_
  refine J.eq go_seq ?_
  refine J.chk fun h3 => ?_
  refine J.at fun x7 h4 h5 h6 => ?_
  conv => arg 1; simp (disch := first | exact Zd | fail) only [ZZ, d147_at, simprocAttr, h2'', h2', lm_ik h6]
  refine J.eq ret_seq ?_
  conv => arg 1; simp (disch := first | exact Zd | fail) only [ZZ, d147_at, simprocAttr, h2'', h2', lm_ik h6]
  refine J.next (s := (x3.set x5.toNat x4, wk .i64 (x4 * x7), wk .i64 (x5 - 1))) hn1 ?_ ?_
  ·exact Ze
  ·exact Zh
 ·have h2' := decide_eq_false h2
  have h2'' : decide (x5 < 0) = true := decide_eq_true (by omega)
  refine Jc ?_
  refine J.eq ret_seq ?_
  refine J.some ?_
  exact Js
noncomputable def t147 (fu : Nat) : CallP := noP
theorem t147_ok (fu : Nat) : CpOK Tryz.prog (t147 fu ) := noP_ok
theorem ok147 (fu : Nat) (x1 : List Int) (r) (h : shape_strides fu x1 = some r) : PureOK Tryz.prog 147 [.arr x1.length (lm (ik .i64) x1)] (e147 r) :=
  pure_J mixed (cp := t147 fu ) (t147_ok fu  ) noI_ok i147 (w147 _ fu x1  ) h
/-! 85: lattice/shape.Strides -/
open Aw (d85)
def d85_at := by have h := tabL Aw.d85.eq_1; simp only [AllAt, Nat.zero_add, Nat.reduceAdd] at h; exact h
theorem i85 : finfo Tryz.prog 85 d85 = some ⟨bodyOf Tryz.f85, [.tmp 2, .tmp 3], [22, 30]⟩ := finfo_at Tryz.func85 rfl (by kernel_rfl) (by kernel_rfl)
def e85 : ((List Int) × Int) → AV := fun r => .tuple [.fresh 1 r.1.length (lm (ik .i64) r.1), .v (.int .i64 r.2)]
set_option maxHeartbeats 20000000 in
theorem w85 (cp : CallP) (fu : Nat) (x1 : List Int) (H32_0 : ∀ (a0 : List Int) r, shape_Size fu a0 = some r → cp 32 [.arr a0.length (lm (ik .i64) a0)] = some (.tuple [.v (.int .i64 r.1), .v (.int .i64 r.2)])) (H147_0 : ∀ (a0 : List Int) r, shape_strides fu a0 = some r → cp 147 [.arr a0.length (lm (ik .i64) a0)] = some (.fresh 1 r.length (lm (ik .i64) r))) : J (go Tryz.prog noC cp noI 0 [] d85 fu (fin Tryz.prog [.tmp 2, .tmp 3] [22, 30]) (bodyOf Tryz.f85) (initE 0 [.arr x1.length (lm (ik .i64) x1)]) [] []) (shape_Strides fu x1) e85 := by
 unfold shape_Strides e85
 have da := d85_at
 conv => arg 1; simp (disch := first | exact Zd | fail) only [bodyOf, Tryz.f85, ZZ, d85_at, simprocAttr]
 refine J.eq go_seq ?_
 refine J.bind fun x2 h1 => ?_
 have e_h1 := H32_0 _ _ h1
 try simp only [NN, NT, LN, simprocAttr, DT] at e_h1
 refine Jc ?_
 refine J.ite (fun h2 => ?_) (fun h2 => ?_)
 ·have h2' := decide_eq_true h2
  refine Jc ?_
  refine J.eq ret_seq ?_
  refine J.bind fun x3 h3 => ?_
  have e_h3 := H147_0 _ _ h3
  try simp only [NN, NT, LN, simprocAttr, DT] at e_h3
  refine J.some ?_
  exact Js
 ·have h2' := decide_eq_false h2
  refine J.some ?_
  exact Js
noncomputable def t85 (fu : Nat) : CallP := orE 32 (mkC (fun (t : List Int) => ([.arr t.length (lm (ik .i64) t)] : List AV)) (fun t => shape_Size fu t) e32) (orE 147 (mkC (fun (t : List Int) => ([.arr t.length (lm (ik .i64) t)] : List AV)) (fun t => shape_strides fu t) e147) (noP))
theorem t85_ok (fu : Nat) : CpOK Tryz.prog (t85 fu ) := orE_ok (orE_ok (noP_ok) (mkC_ok (fun t b h => ok147 fu t  b h))) (mkC_ok (fun t b h => ok32 fu t  b h))
theorem ok85 (fu : Nat) (x1 : List Int) (r) (h : shape_Strides fu x1 = some r) : PureOK Tryz.prog 85 [.arr x1.length (lm (ik .i64) x1)] (e85 r) :=
  pure_J mixed (cp := t85 fu ) (t85_ok fu  ) noI_ok i85 (w85 _ fu x1  (fun a0 r h => orE_hit (mkC_at (a := a0) (by intro a b h; first | (exact rfl) | (simp only [INJ, IJ] at h; first | exact h | (simp_all [Prod.ext_iff]) )) h)) (fun a0 r h => orE_miss (by decide) (orE_hit (mkC_at (a := a0) (by intro a b h; first | (exact rfl) | (simp only [INJ, IJ] at h; first | exact h | (simp_all [Prod.ext_iff]) )) h)))) h
/-! 41: lattice/moves.strides -/
open Aw (d41)
def d41_at := by have h := tabL Aw.d41.eq_1; simp only [AllAt, Nat.zero_add, Nat.reduceAdd] at h; exact h
theorem i41 : finfo Tryz.prog 41 d41 = some ⟨bodyOf Tryz.f41, [.tmp 2], [22]⟩ := finfo_at Tryz.func41 rfl (by kernel_rfl) (by kernel_rfl)
def e41 : (List Int) → AV := fun r => .fresh 1 r.length (lm (ik .i64) r)
set_option maxHeartbeats 20000000 in
theorem w41 (cp : CallP) (fu : Nat) (x1 : List Int) (H85_0 : ∀ (a0 : List Int) r, shape_Strides fu a0 = some r → cp 85 [.arr a0.length (lm (ik .i64) a0)] = some (.tuple [.fresh 1 r.1.length (lm (ik .i64) r.1), .v (.int .i64 r.2)])) : J (go Tryz.prog noC cp noI 0 [] d41 fu (fin Tryz.prog [.tmp 2] [22]) (bodyOf Tryz.f41) (initE 0 [.arr x1.length (lm (ik .i64) x1)]) [] []) (moves_strides fu x1) e41 := by
 unfold moves_strides e41
 have da := d41_at
 refine J.bind fun x2 h1 => ?_
 have e_h1 := H85_0 _ _ h1
 try simp only [NN, NT, LN, simprocAttr, DT] at e_h1
 refine J.some ?_
 simp (maxSteps := 20000000) (disch := first | exact Zd | fail) only [bodyOf, Tryz.f41, ZZ, d41_at, simprocAttr, e_h1, FN]
noncomputable def t41 (fu : Nat) : CallP := orE 85 (mkC (fun (t : List Int) => ([.arr t.length (lm (ik .i64) t)] : List AV)) (fun t => shape_Strides fu t) e85) (noP)
theorem t41_ok (fu : Nat) : CpOK Tryz.prog (t41 fu ) := orE_ok (noP_ok) (mkC_ok (fun t b h => ok85 fu t  b h))
theorem ok41 (fu : Nat) (x1 : List Int) (r) (h : moves_strides fu x1 = some r) : PureOK Tryz.prog 41 [.arr x1.length (lm (ik .i64) x1)] (e41 r) :=
  pure_J mixed (cp := t41 fu ) (t41_ok fu  ) noI_ok i41 (w41 _ fu x1  (fun a0 r h => orE_hit (mkC_at (a := a0) (by intro a b h; first | (exact rfl) | (simp only [INJ, IJ] at h; first | exact h | (simp_all [Prod.ext_iff]) )) h))) h
/-! 98: lattice/tens.New -/
open Aw (d98)
def d98_at := by have h := tabL Aw.d98.eq_1; simp only [AllAt, Nat.zero_add, Nat.reduceAdd] at h; exact h
theorem i98 : finfo Tryz.prog 98 d98 = some ⟨bodyOf Tryz.f98, [.cell 4 27, .tmp 5], [27, 30]⟩ := finfo_at Tryz.func98 rfl (by kernel_rfl) (by kernel_rfl)
def e98 : (T_Tensor × Int) → AV := fun r => .tuple [.agg [.v (.int .i64 r.1.fType), .fresh 1 r.1.fDims.length (lm (ik .i64) r.1.fDims), .fresh 1 r.1.fF.length (lm (ik .u32) r.1.fF), .fresh 1 r.1.fI.length (lm (ik .i64) r.1.fI), .fresh 1 r.1.fB.length (lm (bk) r.1.fB)], .v (.int .i64 r.2)]
set_option maxHeartbeats 20000000 in
theorem w98 (cp : CallP) (fu : Nat) (x1 : Int) (x2 : List Int) (H31_0 : ∀ (a0 : Int) r, tens_known fu a0 = some r → cp 31 [.v (.int .i64 a0)] = some (.v (.bool r))) (H32_0 : ∀ (a0 : List Int) r, shape_Size fu a0 = some r → cp 32 [.arr a0.length (lm (ik .i64) a0)] = some (.tuple [.v (.int .i64 r.1), .v (.int .i64 r.2)])) (H39_0 : ∀ (a0 : List Int) r, slices_Clone_int fu a0 = some r → cp 39 [.arr a0.length (lm (ik .i64) a0)] = some (.fresh 1 r.length (lm (ik .i64) r))) : J (go Tryz.prog noC cp noI 0 [] d98 fu (fin Tryz.prog [.cell 4 27, .tmp 5] [27, 30]) (bodyOf Tryz.f98) (initE 0 [.v (.int .i64 x1), .arr x2.length (lm (ik .i64) x2)]) [] []) (tens_New fu x1 x2) e98 := by
 unfold tens_New e98
 have da := d98_at
 conv => arg 1; simp (disch := first | exact Zd | fail) only [bodyOf, Tryz.f98, ZZ, d98_at, simprocAttr]
 refine J.eq go_seq ?_
 refine J.bind fun x3 h1 => ?_
 have e_h1 := H31_0 _ _ h1
 try simp only [NN, NT, LN, simprocAttr, DT] at e_h1
 refine Jc ?_
 refine J.ite (fun h2 => ?_) (fun h2 => ?_)
 ·have h2' : x3 = true := h2
  refine Jc ?_
  refine J.eq ret_seq ?_
  refine J.bind fun x4 h3 => ?_
  have e_h3 := H32_0 _ _ h3
  try simp only [NN, NT, LN, simprocAttr, DT] at e_h3
  refine Jc ?_
  refine J.eq go_seq ?_
  refine Jc ?_
  refine J.ite (fun h4 => ?_) (fun h4 => ?_)
  ·have h4' := decide_eq_true h4
   refine Jc ?_
   refine J.eq ret_seq ?_
   refine J.bind fun x5 h5 => ?_
   have e_h5 := H39_0 _ _ h5
   try simp only [NN, NT, LN, simprocAttr, DT] at e_h5
   refine Jc ?_
   refine J.eq go_seq ?_
   refine Jc ?_
   refine J.ite (fun h6 => ?_) (fun h6 => ?_)
   ·have h6' := decide_eq_true h6
    refine J.chk fun h7 => ?_
    refine Jc ?_
    refine J.eq ret_seq ?_
    refine J.some ?_
    exact Js
   ·have h6' := decide_eq_false h6
    refine Jc ?_
    refine J.ite (fun h8 => ?_) (fun h8 => ?_)
    ·have h8' := decide_eq_true h8
     refine J.chk fun h9 => ?_
     refine Jc ?_
     refine J.eq ret_seq ?_
     refine J.some ?_
     exact Js
    ·have h8' := decide_eq_false h8
     refine J.chk fun h10 => ?_
     refine Jc ?_
     refine J.eq ret_seq ?_
     refine J.some ?_
     exact Js
  ·have h4' := decide_eq_false h4
   refine J.some ?_
   exact Js
 ·have h2' : x3 = false := Bool.eq_false_iff.2 h2
  refine J.some ?_
  exact Js
noncomputable def t98 (fu : Nat) : CallP := orE 31 (mkC (fun (t : Int) => ([.v (.int .i64 t)] : List AV)) (fun t => tens_known fu t) e31) (orE 32 (mkC (fun (t : List Int) => ([.arr t.length (lm (ik .i64) t)] : List AV)) (fun t => shape_Size fu t) e32) (orE 39 (mkC (fun (t : List Int) => ([.arr t.length (lm (ik .i64) t)] : List AV)) (fun t => slices_Clone_int fu t) e39) (noP)))
theorem t98_ok (fu : Nat) : CpOK Tryz.prog (t98 fu ) := orE_ok (orE_ok (orE_ok (noP_ok) (mkC_ok (fun t b h => ok39 fu t  b h))) (mkC_ok (fun t b h => ok32 fu t  b h))) (mkC_ok (fun t b h => ok31 fu t  b h))
theorem ok98 (fu : Nat) (x1 : Int) (x2 : List Int) (r) (h : tens_New fu x1 x2 = some r) : PureOK Tryz.prog 98 [.v (.int .i64 x1), .arr x2.length (lm (ik .i64) x2)] (e98 r) :=
  pure_J mixed (cp := t98 fu ) (t98_ok fu  ) noI_ok i98 (w98 _ fu x1 x2  (fun a0 r h => orE_hit (mkC_at (a := a0) (by intro a b h; first | (exact rfl) | (simp only [INJ, IJ] at h; first | exact h | (simp_all [Prod.ext_iff]) )) h)) (fun a0 r h => orE_miss (by decide) (orE_hit (mkC_at (a := a0) (by intro a b h; first | (exact rfl) | (simp only [INJ, IJ] at h; first | exact h | (simp_all [Prod.ext_iff]) )) h))) (fun a0 r h => orE_miss (by decide) (orE_miss (by decide) (orE_hit (mkC_at (a := a0) (by intro a b h; first | (exact rfl) | (simp only [INJ, IJ] at h; first | exact h | (simp_all [Prod.ext_iff]) )) h))))) h
/-! 99: lattice/tens.Pick$1 -/
open Aw (d99)
def d99_at := by have h := tabL Aw.d99.eq_1; simp only [AllAt, Nat.zero_add, Nat.reduceAdd] at h; exact h
theorem i99 : finfo Tryz.prog 99 d99 = some ⟨bodyOf Tryz.f99, [.tmp 3], [4]⟩ := finfo_at Tryz.func99 rfl (by kernel_rfl) (by kernel_rfl)
def e99 : Bool → AV := fun r => .v (.bool r)
set_option maxHeartbeats 20000000 in
theorem w99 (cp : CallP) (fu : Nat) (x1 : Int) (x2 : Int) : J (go Tryz.prog noC cp noI 0 [] d99 fu (fin Tryz.prog [.tmp 3] [4]) (bodyOf Tryz.f99) (initE 0 [.v (.int .i64 x1), .ref [.v (.int .i64 x2)] 0]) [] []) (tens_Pick_1 fu x1 x2) e99 := by
 unfold tens_Pick_1 e99
 have da := d99_at
 conv => arg 1; simp (disch := first | exact Zd | fail) only [bodyOf, Tryz.f99, ZZ, d99_at, simprocAttr]
 refine J.eq go_seq ?_
 refine Jc ?_
 refine J.ite (fun h1 => ?_) (fun h1 => ?_)
 ·have h1' := decide_eq_true h1
  have h1'' : decide ((-1) ≤ x1) = false := decide_eq_false (by omega)
  refine Jc ?_
  refine J.eq ret_seq ?_
  refine J.some ?_
  exact Js
 ·have h1' := decide_eq_false h1
  have h1'' : decide ((-1) ≤ x1) = true := decide_eq_true (by omega)
  refine Jc ?_
  refine J.eq ret_seq ?_
  refine J.some ?_
  exact Js
noncomputable def t99 (fu : Nat) : CallP := noP
theorem t99_ok (fu : Nat) : CpOK Tryz.prog (t99 fu ) := noP_ok
theorem ok99 (fu : Nat) (x1 : Int) (x2 : Int) (r) (h : tens_Pick_1 fu x1 x2 = some r) : PureOK Tryz.prog 99 [.v (.int .i64 x1), .ref [.v (.int .i64 x2)] 0] (e99 r) :=
  pure_J mixed (cp := t99 fu ) (t99_ok fu  ) noI_ok i99 (w99 _ fu x1 x2  ) h
/-! 100: lattice/tens.picked[uint32] -/
open Aw (d100)
def d100_at := by have h := tabL Aw.d100.eq_1; simp only [AllAt, Nat.zero_add, Nat.reduceAdd] at h; exact h
noncomputable def b100 : Code := bodyOf Tryz.f100
theorem go_b100 {C : Cfg} {cp : CallP} {ci : CallI} {lvl : Nat} {prot : List Id} {D : List (Nat × List Nat)} {n : Nat} {K : KK} {e : Env} {h : Heap} {fs : List Fr} : go Tryz.prog C cp ci lvl prot D n K b100 e h fs = go Tryz.prog C cp ci lvl prot D n K (bodyOf Tryz.f100) e h fs := rfl
theorem i100 : finfo Tryz.prog 100 d100 = some ⟨b100, [], []⟩ := finfo_at Tryz.func100 rfl (by kernel_rfl) (by kernel_rfl)
/-! 101: lattice/tens.picked[int64] -/
open Aw (d101)
def d101_at := by have h := tabL Aw.d101.eq_1; simp only [AllAt, Nat.zero_add, Nat.reduceAdd] at h; exact h
noncomputable def b101 : Code := bodyOf Tryz.f101
theorem go_b101 {C : Cfg} {cp : CallP} {ci : CallI} {lvl : Nat} {prot : List Id} {D : List (Nat × List Nat)} {n : Nat} {K : KK} {e : Env} {h : Heap} {fs : List Fr} : go Tryz.prog C cp ci lvl prot D n K b101 e h fs = go Tryz.prog C cp ci lvl prot D n K (bodyOf Tryz.f101) e h fs := rfl
theorem i101 : finfo Tryz.prog 101 d101 = some ⟨b101, [], []⟩ := finfo_at Tryz.func101 rfl (by kernel_rfl) (by kernel_rfl)
/-! 102: lattice/tens.picked[bool] -/
open Aw (d102)
def d102_at := by have h := tabL Aw.d102.eq_1; simp only [AllAt, Nat.zero_add, Nat.reduceAdd] at h; exact h
noncomputable def b102 : Code := bodyOf Tryz.f102
theorem go_b102 {C : Cfg} {cp : CallP} {ci : CallI} {lvl : Nat} {prot : List Id} {D : List (Nat × List Nat)} {n : Nat} {K : KK} {e : Env} {h : Heap} {fs : List Fr} : go Tryz.prog C cp ci lvl prot D n K b102 e h fs = go Tryz.prog C cp ci lvl prot D n K (bodyOf Tryz.f102) e h fs := rfl
theorem i102 : finfo Tryz.prog 102 d102 = some ⟨b102, [], []⟩ := finfo_at Tryz.func102 rfl (by kernel_rfl) (by kernel_rfl)
/-! 49: lattice/tens.Pick -/
open Aw (d49)
def d49_at := by have h := tabL Aw.d49.eq_1; simp only [AllAt, Nat.zero_add, Nat.reduceAdd] at h; exact h
theorem i49 : finfo Tryz.prog 49 d49 = some ⟨bodyOf Tryz.f49, [.cell 6 27, .tmp 7], [27, 30]⟩ := finfo_at Tryz.func49 rfl (by kernel_rfl) (by kernel_rfl)
def e49 : (T_Tensor × Int) → AV := fun r => .tuple [.agg [.v (.int .i64 r.1.fType), .fresh 1 r.1.fDims.length (lm (ik .i64) r.1.fDims), .fresh 1 r.1.fF.length (lm (ik .u32) r.1.fF), .fresh 1 r.1.fI.length (lm (ik .i64) r.1.fI), .fresh 1 r.1.fB.length (lm (bk) r.1.fB)], .v (.int .i64 r.2)]
set_option maxHeartbeats 20000000 in
theorem w49 (cp : CallP) (fu : Nat) (x1 : T_Tensor) (x2 : List Int) (x3 : List Int) (H18_0 : ∀ (a0 : T_Tensor) r, tens_Check fu a0 = some r → cp 18 [.agg (c_T_Tensor a0)] = some (.v (.int .i64 r))) (H98_0 : ∀ (a0 : Int) (a1 : List Int) r, tens_New fu a0 a1 = some r → cp 98 [.v (.int .i64 a0), .arr a1.length (lm (ik .i64) a1)] = some (.tuple [.agg [.v (.int .i64 r.1.fType), .fresh 1 r.1.fDims.length (lm (ik .i64) r.1.fDims), .fresh 1 r.1.fF.length (lm (ik .u32) r.1.fF), .fresh 1 r.1.fI.length (lm (ik .i64) r.1.fI), .fresh 1 r.1.fB.length (lm (bk) r.1.fB)], .v (.int .i64 r.2)])) (H58_0 : ∀ (a0 : List Int) (c1 : Int) r, slices_ContainsFunc_int fu a0 (fun y0 => tens_Pick_1 fu y0 c1) = some r → cp 58 [.arr a0.length (lm (ik .i64) a0), .fn 99 [] [.ref [.v (.int .i64 c1)] 0]] = some (.v (.bool r))) : J (go Tryz.prog (inlC [100, 101, 102]) cp (ciE Tryz.prog (inlC [100, 101, 102]) cp (ciE Tryz.prog (inlC [100, 101, 102]) cp (ciE Tryz.prog (inlC [100, 101, 102]) cp noI fu 102 d102 ⟨b102, [], []⟩ noI) fu 101 d101 ⟨b101, [], []⟩ (ciE Tryz.prog (inlC [100, 101, 102]) cp noI fu 102 d102 ⟨b102, [], []⟩ noI)) fu 100 d100 ⟨b100, [], []⟩ (ciE Tryz.prog (inlC [100, 101, 102]) cp (ciE Tryz.prog (inlC [100, 101, 102]) cp noI fu 102 d102 ⟨b102, [], []⟩ noI) fu 101 d101 ⟨b101, [], []⟩ (ciE Tryz.prog (inlC [100, 101, 102]) cp noI fu 102 d102 ⟨b102, [], []⟩ noI))) 0 [] d49 fu (fin Tryz.prog [.cell 6 27, .tmp 7] [27, 30]) (bodyOf Tryz.f49) (initE 0 [.agg (c_T_Tensor x1), .arr x2.length (lm (ik .i64) x2), .arr x3.length (lm (ik .i64) x3)]) [] []) (tens_Pick fu x1 x2 x3) e49 := by
 unfold tens_Pick e49
 have da := d49_at
 conv => arg 1; simp (disch := first | exact Zd | fail) only [bodyOf, Tryz.f49, ZZ, d49_at, simprocAttr, RI, RIk, initE]
 refine J.eq go_seq ?_
 refine J.bind fun x4 h1 => ?_
 have e_h1 := H18_0 _ _ h1
 try simp only [NN, NT, LN, simprocAttr, DT] at e_h1
 conv => arg 1; simp (disch := first | exact Zd | fail) only [ZZ, d49_at, simprocAttr, RI, RIk, initE, e_h1]
 refine J.ite (fun h2 => ?_) (fun h2 => ?_)
 ·have h2' := decide_eq_true h2
  conv => arg 1; simp (disch := first | exact Zd | fail) only [ZZ, d49_at, simprocAttr, RI, RIk, initE, e_h1, h2']
  refine J.eq ret_seq ?_
  refine J.bind fun x5 h3 => ?_
  have e_h3 := H98_0 _ _ _ h3
  try simp only [NN, NT, LN, simprocAttr, DT] at e_h3
  conv => arg 1; simp (disch := first | exact Zd | fail) only [ZZ, d49_at, simprocAttr, RI, RIk, initE, e_h1, h2', e_h3]
  refine J.eq go_seq ?_
  conv => arg 1; simp (disch := first | exact Zd | fail) only [ZZ, d49_at, simprocAttr, RI, RIk, initE, e_h1, h2', e_h3]
  refine J.ite (fun h4 => ?_) (fun h4 => ?_)
  ·have h4' := decide_eq_true h4
   conv => arg 1; simp (disch := first | exact Zd | fail) only [ZZ, d49_at, simprocAttr, RI, RIk, initE, e_h1, h2', e_h3, h4']
   refine J.eq ret_seq ?_
   conv => arg 1; simp (disch := first | exact Zd | fail) only [ZZ, d49_at, simprocAttr, RI, RIk, initE, e_h1, h2', e_h3, h4']
   refine J.eq go_seq ?_
   conv => arg 1; simp (disch := first | exact Zd | fail) only [ZZ, d49_at, simprocAttr, RI, RIk, initE, e_h1, h2', e_h3, h4']
   refine J.ite (fun h5 => ?_) (fun h5 => ?_)
   ·have h5' := decide_eq_true h5
    conv => arg 1; simp (disch := first | exact Zd | fail) only [ZZ, d49_at, simprocAttr, RI, RIk, initE, e_h1, h2', e_h3, h4', h5']
    refine J.eq ret_seq ?_
    refine J.eq go_seq ?_
    refine J.bind fun x6 h6 => ?_
    have e_h6 := H58_0 _ _ _ h6
    try simp only [NN, NT, LN, simprocAttr, DT] at e_h6
    conv => arg 1; simp (disch := first | exact Zd | fail) only [ZZ, d49_at, simprocAttr, RI, RIk, initE, e_h1, h2', e_h3, h4', h5', e_h6]
    refine J.ite (fun h7 => ?_) (fun h7 => ?_)
    ·have h7' : x6 = true := h7
     refine J.some ?_
     simp (maxSteps := 20000000) (disch := first | exact Zd | fail) only [ZZ, d49_at, simprocAttr, RI, RIk, initE, e_h1, h2', e_h3, h4', h5', e_h6, h7', FN]
    ·have h7' : x6 = false := Bool.eq_false_iff.2 h7
     conv => arg 1; simp (disch := first | exact Zd | fail) only [ZZ, d49_at, simprocAttr, RI, RIk, initE, e_h1, h2', e_h3, h4', h5', e_h6, h7']
     refine J.eq ret_seq ?_
     conv => arg 1; simp (disch := first | exact Zd | fail) only [ZZ, d49_at, simprocAttr, bodyOf, Tryz.f100, d100_at, RI, RIk, initE, e_h1, h2', e_h3, h4', h5', e_h6, h7']
     refine J.callK (fun (t : List Int) => (.tuple [], [((0, 3, 0), .bx true ([.v (.int .i64 x1.fType), .arr x1.fDims.length (lm (ik .i64) x1.fDims), .arr x1.fF.length (lm (ik .u32) x1.fF), .arr x1.fI.length (lm (ik .i64) x1.fI), .arr x1.fB.length (lm (bk) x1.fB)])), ((0, 6, 0), .bx true ([.v (.int .i64 0), .v (.slice none 0 0), .v (.slice none 0 0), .v (.slice none 0 0), .v (.slice none 0 0)])), ((0, 22, 0), .sl true true 1 x5.1.fDims.length (lm (ik .i64) x5.1.fDims)), ((0, 22, 1), .sl true true 1 x5.1.fF.length (lm (ik .u32) t)), ((0, 22, 2), .sl true true 1 x5.1.fI.length (lm (ik .i64) x5.1.fI)), ((0, 22, 3), .sl true true 1 x5.1.fB.length (lm (bk) x5.1.fB)), ((0, 9, 0), .bx true ([.v (.int .i64 x5.1.fType), .own (0, 22, 0) 0 x5.1.fDims.length x5.1.fDims.length, .own (0, 22, 1) 0 x5.1.fF.length x5.1.fF.length, .own (0, 22, 2) 0 x5.1.fI.length x5.1.fI.length, .own (0, 22, 3) 0 x5.1.fB.length x5.1.fB.length]))])) (fun t => tens_Pick.c1 fu x1 x3 x5 t) ?_ (fun hj1 => ?_)
     ·rintro x7
      show J _ (tens_Pick.c1 fu x1 x3 x5 x7) _
      unfold tens_Pick.c1
      refine J.chk fun h8 => ?_
      conv => arg 1; simp (disch := first | exact Zd | fail) only [ZZ, d49_at, simprocAttr, go_b100, bodyOf, Tryz.f100, d100_at, bodyOf, Tryz.f101, d101_at, RI, RIk, initE, e_h1, h2', e_h3, h4', h5', e_h6, h7', h8]
      refine J.callK (fun (t : List Int) => (.tuple [], [((0, 3, 0), .bx true ([.v (.int .i64 x1.fType), .arr x1.fDims.length (lm (ik .i64) x1.fDims), .arr x1.fF.length (lm (ik .u32) x1.fF), .arr x1.fI.length (lm (ik .i64) x1.fI), .arr x1.fB.length (lm (bk) x1.fB)])), ((0, 6, 0), .bx true ([.v (.int .i64 0), .v (.slice none 0 0), .v (.slice none 0 0), .v (.slice none 0 0), .v (.slice none 0 0)])), ((0, 22, 0), .sl true true 1 x5.1.fDims.length (lm (ik .i64) x5.1.fDims)), ((0, 22, 1), .sl true true 1 x7.length (lm (ik .u32) x7)), ((0, 22, 2), .sl true true 1 x5.1.fI.length (lm (ik .i64) t)), ((0, 22, 3), .sl true true 1 x5.1.fB.length (lm (bk) x5.1.fB)), ((0, 9, 0), .bx true ([.v (.int .i64 x5.1.fType), .own (0, 22, 0) 0 x5.1.fDims.length x5.1.fDims.length, .own (0, 22, 1) 0 x7.length x7.length, .own (0, 22, 2) 0 x5.1.fI.length x5.1.fI.length, .own (0, 22, 3) 0 x5.1.fB.length x5.1.fB.length]))])) (fun t => tens_Pick.c2 fu x1 x3 x5 x7 t) ?_ (fun hj2 => ?_)
      ·rintro x8
       show J _ (tens_Pick.c2 fu x1 x3 x5 x7 x8) _
       unfold tens_Pick.c2
       refine J.chk fun h9 => ?_
       conv => arg 1; simp (disch := first | exact Zd | fail) only [ZZ, d49_at, simprocAttr, go_b100, bodyOf, Tryz.f100, d100_at, go_b101, bodyOf, Tryz.f101, d101_at, bodyOf, Tryz.f102, d102_at, RI, RIk, initE, e_h1, h2', e_h3, h4', h5', e_h6, h7', h8, h9]
       refine J.callK (fun (t : List Bool) => (.tuple [], [((0, 3, 0), .bx true ([.v (.int .i64 x1.fType), .arr x1.fDims.length (lm (ik .i64) x1.fDims), .arr x1.fF.length (lm (ik .u32) x1.fF), .arr x1.fI.length (lm (ik .i64) x1.fI), .arr x1.fB.length (lm (bk) x1.fB)])), ((0, 6, 0), .bx true ([.v (.int .i64 0), .v (.slice none 0 0), .v (.slice none 0 0), .v (.slice none 0 0), .v (.slice none 0 0)])), ((0, 22, 0), .sl true true 1 x5.1.fDims.length (lm (ik .i64) x5.1.fDims)), ((0, 22, 1), .sl true true 1 x7.length (lm (ik .u32) x7)), ((0, 22, 2), .sl true true 1 x8.length (lm (ik .i64) x8)), ((0, 22, 3), .sl true true 1 x5.1.fB.length (lm (bk) t)), ((0, 9, 0), .bx true ([.v (.int .i64 x5.1.fType), .own (0, 22, 0) 0 x5.1.fDims.length x5.1.fDims.length, .own (0, 22, 1) 0 x7.length x7.length, .own (0, 22, 2) 0 x8.length x8.length, .own (0, 22, 3) 0 x5.1.fB.length x5.1.fB.length]))])) (fun t => tens_Pick.c3 fu x5 x7 x8 t) ?_ (fun hj3 => ?_)
       ·rintro x9
        show J _ (tens_Pick.c3 fu x5 x7 x8 x9) _
        unfold tens_Pick.c3
        refine J.chk fun h10 => ?_
        refine J.some ?_
        simp (maxSteps := 20000000) (disch := first | exact Zd | fail) only [ZZ, d49_at, simprocAttr, go_b100, bodyOf, Tryz.f100, d100_at, go_b101, bodyOf, Tryz.f101, d101_at, go_b102, bodyOf, Tryz.f102, d102_at, RI, RIk, initE, e_h1, h2', e_h3, h4', h5', e_h6, h7', h8, h9, h10, FN]
       ·refine J.hd jc_at ?_
        refine J.eq go_b102 ?_
        conv => arg 1; simp (disch := first | exact Zd | fail) only [ZZ, d49_at, simprocAttr, go_b100, bodyOf, Tryz.f100, d100_at, go_b101, bodyOf, Tryz.f101, d101_at, go_b102, bodyOf, Tryz.f102, d102_at, RI, initE, e_h1, h2', e_h3, h4', h5', e_h6, h7', h8, h9]
        refine J.eq go_seq ?_
        conv => arg 1; simp (disch := first | exact Zd | fail) only [ZZ, d49_at, simprocAttr, go_b100, bodyOf, Tryz.f100, d100_at, go_b101, bodyOf, Tryz.f101, d101_at, go_b102, bodyOf, Tryz.f102, d102_at, RI, initE, e_h1, h2', e_h3, h4', h5', e_h6, h7', h8, h9]
        refine J.ite (fun h11 => ?_) (fun h11 => ?_)
        ·have h11' := decide_eq_true h11
         conv => arg 1; simp (disch := first | exact Zd | fail) only [ZZ, d49_at, simprocAttr, go_b100, bodyOf, Tryz.f100, d100_at, go_b101, bodyOf, Tryz.f101, d101_at, go_b102, bodyOf, Tryz.f102, d102_at, RI, initE, e_h1, h2', e_h3, h4', h5', e_h6, h7', h8, h9, h11']
         refine J.kret (t := x5.1.fB) hj3 ?_
         simp (disch := first | exact Zd | fail) only [ZZ, d49_at, simprocAttr, go_b100, bodyOf, Tryz.f100, d100_at, go_b101, bodyOf, Tryz.f101, d101_at, go_b102, bodyOf, Tryz.f102, d102_at, RI, initE, e_h1, h2', e_h3, h4', h5', e_h6, h7', h8, h9, h11', kinV_at, kinVB_at, LN, NN, NT]
        ·have h11' := decide_eq_false h11
         conv => arg 1; simp (disch := first | exact Zd | fail) only [ZZ, d49_at, simprocAttr, go_b100, bodyOf, Tryz.f100, d100_at, go_b101, bodyOf, Tryz.f101, d101_at, go_b102, bodyOf, Tryz.f102, d102_at, RI, initE, e_h1, h2', e_h3, h4', h5', e_h6, h7', h8, h9, h11']
         refine J.eq ret_seq ?_
         conv => arg 1; simp (disch := first | exact Zd | fail) only [ZZ, d49_at, simprocAttr, go_b100, bodyOf, Tryz.f100, d100_at, go_b101, bodyOf, Tryz.f101, d101_at, go_b102, bodyOf, Tryz.f102, d102_at, RI, initE, e_h1, h2', e_h3, h4', h5', e_h6, h7', h8, h9, h11']
         unfold tens_Pick.W1
         refine J.loop (fun (s : (List Bool) × Int) => ([(0, .own (0, 22, 3) 0 x5.1.fB.length x5.1.fB.length), (1, .arr x1.fB.length (lm (bk) x1.fB)), (11, .arr x3.length (lm (ik .i64) x3)), (12, .v (.int .i64 (x3.length : Int))), (13, .v (.int .i64 s.2))], [((0, 3, 0), .bx true ([.v (.int .i64 x1.fType), .arr x1.fDims.length (lm (ik .i64) x1.fDims), .arr x1.fF.length (lm (ik .u32) x1.fF), .arr x1.fI.length (lm (ik .i64) x1.fI), .arr x1.fB.length (lm (bk) x1.fB)])), ((0, 6, 0), .bx true ([.v (.int .i64 0), .v (.slice none 0 0), .v (.slice none 0 0), .v (.slice none 0 0), .v (.slice none 0 0)])), ((0, 22, 0), .sl true true 1 x5.1.fDims.length (lm (ik .i64) x5.1.fDims)), ((0, 22, 1), .sl true true 1 x7.length (lm (ik .u32) x7)), ((0, 22, 2), .sl true true 1 x8.length (lm (ik .i64) x8)), ((0, 22, 3), .sl true true 1 x5.1.fB.length (lm (bk) s.1)), ((0, 9, 0), .bx true ([.v (.int .i64 x5.1.fType), .own (0, 22, 0) 0 x5.1.fDims.length x5.1.fDims.length, .own (0, 22, 1) 0 x7.length x7.length, .own (0, 22, 2) 0 x8.length x8.length, .own (0, 22, 3) 0 x5.1.fB.length x5.1.fB.length]))])) (fun next s => tens_Pick.L1 fu x1 x3 x5 x7 x8 (fun x12 x13 => next (x12, x13)) s.1 s.2) (s0 := (x5.1.fB, 0)) ?_ ?_ ?_
         ·exact Ze
         ·exact Zh
         rintro next k1 hn1 ⟨x12, x13⟩
         let nx1 : (List Bool) → Int → Option (T_Tensor × Int) := (fun x12 x13 => next (x12, x13))
         show J _ (tens_Pick.L1 fu x1 x3 x5 x7 x8 nx1 x12 x13) _
         unfold tens_Pick.L1
         conv => arg 1; simp (disch := first | exact Zd | fail) only [ZZ, d49_at, simprocAttr, go_b100, bodyOf, Tryz.f100, d100_at, go_b101, bodyOf, Tryz.f101, d101_at, go_b102, bodyOf, Tryz.f102, d102_at, RI, initE, e_h1, h2', e_h3, h4', h5', e_h6, h7', h8, h9, h11']
         refine J.eq go_seq ?_
         conv => arg 1; simp (disch := first | exact Zd | fail) only [ZZ, d49_at, simprocAttr, go_b100, bodyOf, Tryz.f100, d100_at, go_b101, bodyOf, Tryz.f101, d101_at, go_b102, bodyOf, Tryz.f102, d102_at, RI, initE, e_h1, h2', e_h3, h4', h5', e_h6, h7', h8, h9, h11']
         refine J.ite (fun h12 => ?_) (fun h12 => ?_)
         ·have h12' := decide_eq_true h12
          have h12'' : decide ((x3.length : Int) ≤ x13) = false := decide_eq_false (by omega)
          conv => arg 1; simp (disch := first | exact Zd | fail) only [ZZ, d49_at, simprocAttr, go_b100, bodyOf, Tryz.f100, d100_at, go_b101, bodyOf, Tryz.f101, d101_at, go_b102, bodyOf, Tryz.f102, d102_at, RI, initE, e_h1, h2', e_h3, h4', h5', e_h6, h7', h8, h9, h11', h12'', h12']
          refine J.eq ret_seq ?_
          refine J.eq go_seq ?_
          refine J.at fun x16 h13 h14 h15 => ?_
          conv => arg 1; simp (disch := first | exact Zd | fail) only [ZZ, d49_at, simprocAttr, go_b100, bodyOf, Tryz.f100, d100_at, go_b101, bodyOf, Tryz.f101, d101_at, go_b102, bodyOf, Tryz.f102, d102_at, RI, initE, e_h1, h2', e_h3, h4', h5', e_h6, h7', h8, h9, h11', h12'', h12', lm_ik h15]
          refine J.ite (fun h16 => ?_) (fun h16 => ?_)
          ·have h16' := decide_eq_true h16
           have h16'' : decide (x16 < 0) = false := decide_eq_false (by omega)
           refine J.at fun x17 h17 h18 h19 => ?_
           refine J.chk fun h20 => ?_
           refine J.chk fun h21 => ?_
           conv => arg 1; simp (disch := first | exact Zd | fail) only [ZZ, d49_at, simprocAttr, go_b100, bodyOf, Tryz.f100, d100_at, go_b101, bodyOf, Tryz.f101, d101_at, go_b102, bodyOf, Tryz.f102, d102_at, RI, initE, e_h1, h2', e_h3, h4', h5', e_h6, h7', h8, h9, h11', h12'', h12', lm_ik h15, h16'', h16', lm_bk h19]
           refine J.eq ret_seq ?_
           conv => arg 1; simp (disch := first | exact Zd | fail) only [ZZ, d49_at, simprocAttr, go_b100, bodyOf, Tryz.f100, d100_at, go_b101, bodyOf, Tryz.f101, d101_at, go_b102, bodyOf, Tryz.f102, d102_at, RI, initE, e_h1, h2', e_h3, h4', h5', e_h6, h7', h8, h9, h11', h12'', h12', lm_ik h15, h16'', h16', lm_bk h19]
           refine J.next (s := (x12.set x13.toNat x17, wk .i64 (x13 + 1))) hn1 ?_ ?_
           ·exact Ze
           ·exact Zh
          ·have h16' := decide_eq_false h16
           have h16'' : decide (x16 < 0) = true := decide_eq_true (by omega)
           conv => arg 1; simp (disch := first | exact Zd | fail) only [ZZ, d49_at, simprocAttr, go_b100, bodyOf, Tryz.f100, d100_at, go_b101, bodyOf, Tryz.f101, d101_at, go_b102, bodyOf, Tryz.f102, d102_at, RI, initE, e_h1, h2', e_h3, h4', h5', e_h6, h7', h8, h9, h11', h12'', h12', lm_ik h15, h16'', h16']
           refine J.eq ret_seq ?_
           conv => arg 1; simp (disch := first | exact Zd | fail) only [ZZ, d49_at, simprocAttr, go_b100, bodyOf, Tryz.f100, d100_at, go_b101, bodyOf, Tryz.f101, d101_at, go_b102, bodyOf, Tryz.f102, d102_at, RI, initE, e_h1, h2', e_h3, h4', h5', e_h6, h7', h8, h9, h11', h12'', h12', lm_ik h15, h16'', h16']
           refine J.next (s := (x12, wk .i64 (x13 + 1))) hn1 ?_ ?_
           ·exact Ze
           ·exact Zh
         ·have h12' := decide_eq_false h12
          have h12'' : decide ((x3.length : Int) ≤ x13) = true := decide_eq_true (by omega)
          conv => arg 1; simp (disch := first | exact Zd | fail) only [ZZ, d49_at, simprocAttr, go_b100, bodyOf, Tryz.f100, d100_at, go_b101, bodyOf, Tryz.f101, d101_at, go_b102, bodyOf, Tryz.f102, d102_at, RI, initE, e_h1, h2', e_h3, h4', h5', e_h6, h7', h8, h9, h11', h12'', h12']
          refine J.knormal (t := x12) hj3 ?_
          simp (disch := first | exact Zd | fail) only [ZZ, d49_at, simprocAttr, go_b100, bodyOf, Tryz.f100, d100_at, go_b101, bodyOf, Tryz.f101, d101_at, go_b102, bodyOf, Tryz.f102, d102_at, RI, initE, e_h1, h2', e_h3, h4', h5', e_h6, h7', h8, h9, h11', h12'', h12', kinV_at, kinVB_at, LN, NN, NT]
      ·refine J.hd jc_at ?_
       refine J.eq go_b101 ?_
       conv => arg 1; simp (disch := first | exact Zd | fail) only [ZZ, d49_at, simprocAttr, go_b100, bodyOf, Tryz.f100, d100_at, go_b101, bodyOf, Tryz.f101, d101_at, go_b102, bodyOf, Tryz.f102, d102_at, RI, initE, e_h1, h2', e_h3, h4', h5', e_h6, h7', h8]
       refine J.eq go_seq ?_
       conv => arg 1; simp (disch := first | exact Zd | fail) only [ZZ, d49_at, simprocAttr, go_b100, bodyOf, Tryz.f100, d100_at, go_b101, bodyOf, Tryz.f101, d101_at, go_b102, bodyOf, Tryz.f102, d102_at, RI, initE, e_h1, h2', e_h3, h4', h5', e_h6, h7', h8]
       refine J.ite (fun h22 => ?_) (fun h22 => ?_)
       ·have h22' := decide_eq_true h22
        conv => arg 1; simp (disch := first | exact Zd | fail) only [ZZ, d49_at, simprocAttr, go_b100, bodyOf, Tryz.f100, d100_at, go_b101, bodyOf, Tryz.f101, d101_at, go_b102, bodyOf, Tryz.f102, d102_at, RI, initE, e_h1, h2', e_h3, h4', h5', e_h6, h7', h8, h22']
        refine J.kret (t := x5.1.fI) hj2 ?_
        simp (disch := first | exact Zd | fail) only [ZZ, d49_at, simprocAttr, go_b100, bodyOf, Tryz.f100, d100_at, go_b101, bodyOf, Tryz.f101, d101_at, go_b102, bodyOf, Tryz.f102, d102_at, RI, initE, e_h1, h2', e_h3, h4', h5', e_h6, h7', h8, h22', kinV_at, kinVB_at, LN, NN, NT]
       ·have h22' := decide_eq_false h22
        conv => arg 1; simp (disch := first | exact Zd | fail) only [ZZ, d49_at, simprocAttr, go_b100, bodyOf, Tryz.f100, d100_at, go_b101, bodyOf, Tryz.f101, d101_at, go_b102, bodyOf, Tryz.f102, d102_at, RI, initE, e_h1, h2', e_h3, h4', h5', e_h6, h7', h8, h22']
        refine J.eq ret_seq ?_
        conv => arg 1; simp (disch := first | exact Zd | fail) only [ZZ, d49_at, simprocAttr, go_b100, bodyOf, Tryz.f100, d100_at, go_b101, bodyOf, Tryz.f101, d101_at, go_b102, bodyOf, Tryz.f102, d102_at, RI, initE, e_h1, h2', e_h3, h4', h5', e_h6, h7', h8, h22']
        unfold tens_Pick.W2
        refine J.loop (fun (s : (List Int) × Int) => ([(0, .own (0, 22, 2) 0 x5.1.fI.length x5.1.fI.length), (1, .arr x1.fI.length (lm (ik .i64) x1.fI)), (11, .arr x3.length (lm (ik .i64) x3)), (12, .v (.int .i64 (x3.length : Int))), (13, .v (.int .i64 s.2))], [((0, 3, 0), .bx true ([.v (.int .i64 x1.fType), .arr x1.fDims.length (lm (ik .i64) x1.fDims), .arr x1.fF.length (lm (ik .u32) x1.fF), .arr x1.fI.length (lm (ik .i64) x1.fI), .arr x1.fB.length (lm (bk) x1.fB)])), ((0, 6, 0), .bx true ([.v (.int .i64 0), .v (.slice none 0 0), .v (.slice none 0 0), .v (.slice none 0 0), .v (.slice none 0 0)])), ((0, 22, 0), .sl true true 1 x5.1.fDims.length (lm (ik .i64) x5.1.fDims)), ((0, 22, 1), .sl true true 1 x7.length (lm (ik .u32) x7)), ((0, 22, 2), .sl true true 1 x5.1.fI.length (lm (ik .i64) s.1)), ((0, 22, 3), .sl true true 1 x5.1.fB.length (lm (bk) x5.1.fB)), ((0, 9, 0), .bx true ([.v (.int .i64 x5.1.fType), .own (0, 22, 0) 0 x5.1.fDims.length x5.1.fDims.length, .own (0, 22, 1) 0 x7.length x7.length, .own (0, 22, 2) 0 x5.1.fI.length x5.1.fI.length, .own (0, 22, 3) 0 x5.1.fB.length x5.1.fB.length]))])) (fun next s => tens_Pick.L2 fu x1 x3 x5 x7 (fun x20 x21 => next (x20, x21)) s.1 s.2) (s0 := (x5.1.fI, 0)) ?_ ?_ ?_
        ·exact Ze
        ·exact Zh
        rintro next k2 hn2 ⟨x20, x21⟩
        let nx2 : (List Int) → Int → Option (T_Tensor × Int) := (fun x20 x21 => next (x20, x21))
        show J _ (tens_Pick.L2 fu x1 x3 x5 x7 nx2 x20 x21) _
        unfold tens_Pick.L2
        conv => arg 1; simp (disch := first | exact Zd | fail) only [ZZ, d49_at, simprocAttr, go_b100, bodyOf, Tryz.f100, d100_at, go_b101, bodyOf, Tryz.f101, d101_at, go_b102, bodyOf, Tryz.f102, d102_at, RI, initE, e_h1, h2', e_h3, h4', h5', e_h6, h7', h8, h22']
        refine J.eq go_seq ?_
        conv => arg 1; simp (disch := first | exact Zd | fail) only [ZZ, d49_at, simprocAttr, go_b100, bodyOf, Tryz.f100, d100_at, go_b101, bodyOf, Tryz.f101, d101_at, go_b102, bodyOf, Tryz.f102, d102_at, RI, initE, e_h1, h2', e_h3, h4', h5', e_h6, h7', h8, h22']
        refine J.ite (fun h23 => ?_) (fun h23 => ?_)
        ·have h23' := decide_eq_true h23
         have h23'' : decide ((x3.length : Int) ≤ x21) = false := decide_eq_false (by omega)
         conv => arg 1; simp (disch := first | exact Zd | fail) only [ZZ, d49_at, simprocAttr, go_b100, bodyOf, Tryz.f100, d100_at, go_b101, bodyOf, Tryz.f101, d101_at, go_b102, bodyOf, Tryz.f102, d102_at, RI, initE, e_h1, h2', e_h3, h4', h5', e_h6, h7', h8, h22', h23'', h23']
         refine J.eq ret_seq ?_
         refine J.eq go_seq ?_
         refine J.at fun x24 h24 h25 h26 => ?_
         conv => arg 1; simp (disch := first | exact Zd | fail) only [ZZ, d49_at, simprocAttr, go_b100, bodyOf, Tryz.f100, d100_at, go_b101, bodyOf, Tryz.f101, d101_at, go_b102, bodyOf, Tryz.f102, d102_at, RI, initE, e_h1, h2', e_h3, h4', h5', e_h6, h7', h8, h22', h23'', h23', lm_ik h26]
         refine J.ite (fun h27 => ?_) (fun h27 => ?_)
         ·have h27' := decide_eq_true h27
          have h27'' : decide (x24 < 0) = false := decide_eq_false (by omega)
          refine J.at fun x25 h28 h29 h30 => ?_
          refine J.chk fun h31 => ?_
          refine J.chk fun h32 => ?_
          conv => arg 1; simp (disch := first | exact Zd | fail) only [ZZ, d49_at, simprocAttr, go_b100, bodyOf, Tryz.f100, d100_at, go_b101, bodyOf, Tryz.f101, d101_at, go_b102, bodyOf, Tryz.f102, d102_at, RI, initE, e_h1, h2', e_h3, h4', h5', e_h6, h7', h8, h22', h23'', h23', lm_ik h26, h27'', h27', lm_ik h30]
          refine J.eq ret_seq ?_
          conv => arg 1; simp (disch := first | exact Zd | fail) only [ZZ, d49_at, simprocAttr, go_b100, bodyOf, Tryz.f100, d100_at, go_b101, bodyOf, Tryz.f101, d101_at, go_b102, bodyOf, Tryz.f102, d102_at, RI, initE, e_h1, h2', e_h3, h4', h5', e_h6, h7', h8, h22', h23'', h23', lm_ik h26, h27'', h27', lm_ik h30]
          refine J.next (s := (x20.set x21.toNat x25, wk .i64 (x21 + 1))) hn2 ?_ ?_
          ·exact Ze
          ·exact Zh
         ·have h27' := decide_eq_false h27
          have h27'' : decide (x24 < 0) = true := decide_eq_true (by omega)
          conv => arg 1; simp (disch := first | exact Zd | fail) only [ZZ, d49_at, simprocAttr, go_b100, bodyOf, Tryz.f100, d100_at, go_b101, bodyOf, Tryz.f101, d101_at, go_b102, bodyOf, Tryz.f102, d102_at, RI, initE, e_h1, h2', e_h3, h4', h5', e_h6, h7', h8, h22', h23'', h23', lm_ik h26, h27'', h27']
          refine J.eq ret_seq ?_
          conv => arg 1; simp (disch := first | exact Zd | fail) only [ZZ, d49_at, simprocAttr, go_b100, bodyOf, Tryz.f100, d100_at, go_b101, bodyOf, Tryz.f101, d101_at, go_b102, bodyOf, Tryz.f102, d102_at, RI, initE, e_h1, h2', e_h3, h4', h5', e_h6, h7', h8, h22', h23'', h23', lm_ik h26, h27'', h27']
          refine J.next (s := (x20, wk .i64 (x21 + 1))) hn2 ?_ ?_
          ·exact Ze
          ·exact Zh
        ·have h23' := decide_eq_false h23
         have h23'' : decide ((x3.length : Int) ≤ x21) = true := decide_eq_true (by omega)
         conv => arg 1; simp (disch := first | exact Zd | fail) only [ZZ, d49_at, simprocAttr, go_b100, bodyOf, Tryz.f100, d100_at, go_b101, bodyOf, Tryz.f101, d101_at, go_b102, bodyOf, Tryz.f102, d102_at, RI, initE, e_h1, h2', e_h3, h4', h5', e_h6, h7', h8, h22', h23'', h23']
         refine J.knormal (t := x20) hj2 ?_
         simp (disch := first | exact Zd | fail) only [ZZ, d49_at, simprocAttr, go_b100, bodyOf, Tryz.f100, d100_at, go_b101, bodyOf, Tryz.f101, d101_at, go_b102, bodyOf, Tryz.f102, d102_at, RI, initE, e_h1, h2', e_h3, h4', h5', e_h6, h7', h8, h22', h23'', h23', kinV_at, kinVB_at, LN, NN, NT]
     ·refine J.hd jc_at ?_
      refine J.eq go_b100 ?_
      conv => arg 1; simp (disch := first | exact Zd | fail) only [ZZ, d49_at, simprocAttr, go_b100, bodyOf, Tryz.f100, d100_at, go_b101, bodyOf, Tryz.f101, d101_at, go_b102, bodyOf, Tryz.f102, d102_at, RI, initE, e_h1, h2', e_h3, h4', h5', e_h6, h7']
      refine J.eq go_seq ?_
      conv => arg 1; simp (disch := first | exact Zd | fail) only [ZZ, d49_at, simprocAttr, go_b100, bodyOf, Tryz.f100, d100_at, go_b101, bodyOf, Tryz.f101, d101_at, go_b102, bodyOf, Tryz.f102, d102_at, RI, initE, e_h1, h2', e_h3, h4', h5', e_h6, h7']
      refine J.ite (fun h33 => ?_) (fun h33 => ?_)
      ·have h33' := decide_eq_true h33
       conv => arg 1; simp (disch := first | exact Zd | fail) only [ZZ, d49_at, simprocAttr, go_b100, bodyOf, Tryz.f100, d100_at, go_b101, bodyOf, Tryz.f101, d101_at, go_b102, bodyOf, Tryz.f102, d102_at, RI, initE, e_h1, h2', e_h3, h4', h5', e_h6, h7', h33']
       refine J.kret (t := x5.1.fF) hj1 ?_
       simp (disch := first | exact Zd | fail) only [ZZ, d49_at, simprocAttr, go_b100, bodyOf, Tryz.f100, d100_at, go_b101, bodyOf, Tryz.f101, d101_at, go_b102, bodyOf, Tryz.f102, d102_at, RI, initE, e_h1, h2', e_h3, h4', h5', e_h6, h7', h33', kinV_at, kinVB_at, LN, NN, NT]
      ·have h33' := decide_eq_false h33
       conv => arg 1; simp (disch := first | exact Zd | fail) only [ZZ, d49_at, simprocAttr, go_b100, bodyOf, Tryz.f100, d100_at, go_b101, bodyOf, Tryz.f101, d101_at, go_b102, bodyOf, Tryz.f102, d102_at, RI, initE, e_h1, h2', e_h3, h4', h5', e_h6, h7', h33']
       refine J.eq ret_seq ?_
       conv => arg 1; simp (disch := first | exact Zd | fail) only [ZZ, d49_at, simprocAttr, go_b100, bodyOf, Tryz.f100, d100_at, go_b101, bodyOf, Tryz.f101, d101_at, go_b102, bodyOf, Tryz.f102, d102_at, RI, initE, e_h1, h2', e_h3, h4', h5', e_h6, h7', h33']
       unfold tens_Pick.W3
       refine J.loop (fun (s : (List Int) × Int) => ([(0, .own (0, 22, 1) 0 x5.1.fF.length x5.1.fF.length), (1, .arr x1.fF.length (lm (ik .u32) x1.fF)), (11, .arr x3.length (lm (ik .i64) x3)), (12, .v (.int .i64 (x3.length : Int))), (13, .v (.int .i64 s.2))], [((0, 3, 0), .bx true ([.v (.int .i64 x1.fType), .arr x1.fDims.length (lm (ik .i64) x1.fDims), .arr x1.fF.length (lm (ik .u32) x1.fF), .arr x1.fI.length (lm (ik .i64) x1.fI), .arr x1.fB.length (lm (bk) x1.fB)])), ((0, 6, 0), .bx true ([.v (.int .i64 0), .v (.slice none 0 0), .v (.slice none 0 0), .v (.slice none 0 0), .v (.slice none 0 0)])), ((0, 22, 0), .sl true true 1 x5.1.fDims.length (lm (ik .i64) x5.1.fDims)), ((0, 22, 1), .sl true true 1 x5.1.fF.length (lm (ik .u32) s.1)), ((0, 22, 2), .sl true true 1 x5.1.fI.length (lm (ik .i64) x5.1.fI)), ((0, 22, 3), .sl true true 1 x5.1.fB.length (lm (bk) x5.1.fB)), ((0, 9, 0), .bx true ([.v (.int .i64 x5.1.fType), .own (0, 22, 0) 0 x5.1.fDims.length x5.1.fDims.length, .own (0, 22, 1) 0 x5.1.fF.length x5.1.fF.length, .own (0, 22, 2) 0 x5.1.fI.length x5.1.fI.length, .own (0, 22, 3) 0 x5.1.fB.length x5.1.fB.length]))])) (fun next s => tens_Pick.L3 fu x1 x3 x5 (fun x28 x29 => next (x28, x29)) s.1 s.2) (s0 := (x5.1.fF, 0)) ?_ ?_ ?_
       ·exact Ze
       ·exact Zh
       rintro next k3 hn3 ⟨x28, x29⟩
       let nx3 : (List Int) → Int → Option (T_Tensor × Int) := (fun x28 x29 => next (x28, x29))
       show J _ (tens_Pick.L3 fu x1 x3 x5 nx3 x28 x29) _
       unfold tens_Pick.L3
       conv => arg 1; simp (disch := first | exact Zd | fail) only [ZZ, d49_at, simprocAttr, go_b100, bodyOf, Tryz.f100, d100_at, go_b101, bodyOf, Tryz.f101, d101_at, go_b102, bodyOf, Tryz.f102, d102_at, RI, initE, e_h1, h2', e_h3, h4', h5', e_h6, h7', h33']
       refine J.eq go_seq ?_
       conv => arg 1; simp (disch := first | exact Zd | fail) only [ZZ, d49_at, simprocAttr, go_b100, bodyOf, Tryz.f100, d100_at, go_b101, bodyOf, Tryz.f101, d101_at, go_b102, bodyOf, Tryz.f102, d102_at, RI, initE, e_h1, h2', e_h3, h4', h5', e_h6, h7', h33']
       refine J.ite (fun h34 => ?_) (fun h34 => ?_)
       ·have h34' := decide_eq_true h34
        have h34'' : decide ((x3.length : Int) ≤ x29) = false := decide_eq_false (by omega)
        conv => arg 1; simp (disch := first | exact Zd | fail) only [ZZ, d49_at, simprocAttr, go_b100, bodyOf, Tryz.f100, d100_at, go_b101, bodyOf, Tryz.f101, d101_at, go_b102, bodyOf, Tryz.f102, d102_at, RI, initE, e_h1, h2', e_h3, h4', h5', e_h6, h7', h33', h34'', h34']
        refine J.eq ret_seq ?_
        refine J.eq go_seq ?_
        refine J.at fun x32 h35 h36 h37 => ?_
        conv => arg 1; simp (disch := first | exact Zd | fail) only [ZZ, d49_at, simprocAttr, go_b100, bodyOf, Tryz.f100, d100_at, go_b101, bodyOf, Tryz.f101, d101_at, go_b102, bodyOf, Tryz.f102, d102_at, RI, initE, e_h1, h2', e_h3, h4', h5', e_h6, h7', h33', h34'', h34', lm_ik h37]
        refine J.ite (fun h38 => ?_) (fun h38 => ?_)
        ·have h38' := decide_eq_true h38
         have h38'' : decide (x32 < 0) = false := decide_eq_false (by omega)
         refine J.at fun x33 h39 h40 h41 => ?_
         refine J.chk fun h42 => ?_
         refine J.chk fun h43 => ?_
         conv => arg 1; simp (disch := first | exact Zd | fail) only [ZZ, d49_at, simprocAttr, go_b100, bodyOf, Tryz.f100, d100_at, go_b101, bodyOf, Tryz.f101, d101_at, go_b102, bodyOf, Tryz.f102, d102_at, RI, initE, e_h1, h2', e_h3, h4', h5', e_h6, h7', h33', h34'', h34', lm_ik h37, h38'', h38', lm_ik h41]
         refine J.eq ret_seq ?_
         conv => arg 1; simp (disch := first | exact Zd | fail) only [ZZ, d49_at, simprocAttr, go_b100, bodyOf, Tryz.f100, d100_at, go_b101, bodyOf, Tryz.f101, d101_at, go_b102, bodyOf, Tryz.f102, d102_at, RI, initE, e_h1, h2', e_h3, h4', h5', e_h6, h7', h33', h34'', h34', lm_ik h37, h38'', h38', lm_ik h41]
         refine J.next (s := (x28.set x29.toNat x33, wk .i64 (x29 + 1))) hn3 ?_ ?_
         ·exact Ze
         ·exact Zh
        ·have h38' := decide_eq_false h38
         have h38'' : decide (x32 < 0) = true := decide_eq_true (by omega)
         conv => arg 1; simp (disch := first | exact Zd | fail) only [ZZ, d49_at, simprocAttr, go_b100, bodyOf, Tryz.f100, d100_at, go_b101, bodyOf, Tryz.f101, d101_at, go_b102, bodyOf, Tryz.f102, d102_at, RI, initE, e_h1, h2', e_h3, h4', h5', e_h6, h7', h33', h34'', h34', lm_ik h37, h38'', h38']
         refine J.eq ret_seq ?_
         conv => arg 1; simp (disch := first | exact Zd | fail) only [ZZ, d49_at, simprocAttr, go_b100, bodyOf, Tryz.f100, d100_at, go_b101, bodyOf, Tryz.f101, d101_at, go_b102, bodyOf, Tryz.f102, d102_at, RI, initE, e_h1, h2', e_h3, h4', h5', e_h6, h7', h33', h34'', h34', lm_ik h37, h38'', h38']
         refine J.next (s := (x28, wk .i64 (x29 + 1))) hn3 ?_ ?_
         ·exact Ze
         ·exact Zh
       ·have h34' := decide_eq_false h34
        have h34'' : decide ((x3.length : Int) ≤ x29) = true := decide_eq_true (by omega)
        conv => arg 1; simp (disch := first | exact Zd | fail) only [ZZ, d49_at, simprocAttr, go_b100, bodyOf, Tryz.f100, d100_at, go_b101, bodyOf, Tryz.f101, d101_at, go_b102, bodyOf, Tryz.f102, d102_at, RI, initE, e_h1, h2', e_h3, h4', h5', e_h6, h7', h33', h34'', h34']
        refine J.knormal (t := x28) hj1 ?_
        simp (disch := first | exact Zd | fail) only [ZZ, d49_at, simprocAttr, go_b100, bodyOf, Tryz.f100, d100_at, go_b101, bodyOf, Tryz.f101, d101_at, go_b102, bodyOf, Tryz.f102, d102_at, RI, initE, e_h1, h2', e_h3, h4', h5', e_h6, h7', h33', h34'', h34', kinV_at, kinVB_at, LN, NN, NT]
   ·have h5' := decide_eq_false h5
    refine J.some ?_
    simp (maxSteps := 20000000) (disch := first | exact Zd | fail) only [ZZ, d49_at, simprocAttr, go_b100, bodyOf, Tryz.f100, d100_at, go_b101, bodyOf, Tryz.f101, d101_at, go_b102, bodyOf, Tryz.f102, d102_at, RI, RIk, initE, e_h1, h2', e_h3, h4', h5', FN]
  ·have h4' := decide_eq_false h4
   refine J.some ?_
   simp (maxSteps := 20000000) (disch := first | exact Zd | fail) only [ZZ, d49_at, simprocAttr, go_b100, bodyOf, Tryz.f100, d100_at, go_b101, bodyOf, Tryz.f101, d101_at, go_b102, bodyOf, Tryz.f102, d102_at, RI, RIk, initE, e_h1, h2', e_h3, h4', FN]
 ·have h2' := decide_eq_false h2
  refine J.some ?_
  simp (maxSteps := 20000000) (disch := first | exact Zd | fail) only [ZZ, d49_at, simprocAttr, go_b100, bodyOf, Tryz.f100, d100_at, go_b101, bodyOf, Tryz.f101, d101_at, go_b102, bodyOf, Tryz.f102, d102_at, RI, RIk, initE, e_h1, h2', FN]
noncomputable def t49 (fu : Nat) : CallP := orE 18 (mkC (fun (t : T_Tensor) => ([.agg (c_T_Tensor t)] : List AV)) (fun t => tens_Check fu t) e18) (orE 98 (mkC (fun (t : Int × (List Int)) => ([.v (.int .i64 t.1), .arr t.2.length (lm (ik .i64) t.2)] : List AV)) (fun t => tens_New fu t.1 t.2) e98) (orE 58 (mkC (fun (t : (List Int) × Int) => ([.arr t.1.length (lm (ik .i64) t.1), .fn 99 [] [.ref [.v (.int .i64 t.2)] 0]] : List AV)) (fun t => slices_ContainsFunc_int fu t.1 (fun y0 => tens_Pick_1 fu y0 t.2)) e58) (noP)))
theorem t49_ok (fu : Nat) : CpOK Tryz.prog (t49 fu ) := orE_ok (orE_ok (orE_ok (noP_ok) (mkC_ok (fun t b h => ok58 fu t.1 (fun y0 => tens_Pick_1 fu y0 t.2) 99 [.ref [.v (.int .i64 t.2)] 0] (Capt.ref Capt.nil) (fun y0 r h => ok99 fu y0 t.2 r h) b h))) (mkC_ok (fun t b h => ok98 fu t.1 t.2  b h))) (mkC_ok (fun t b h => ok18 fu t  b h))
theorem ok49 (fu : Nat) (x1 : T_Tensor) (x2 : List Int) (x3 : List Int) (r) (h : tens_Pick fu x1 x2 x3 = some r) : PureOK Tryz.prog 49 [.agg (c_T_Tensor x1), .arr x2.length (lm (ik .i64) x2), .arr x3.length (lm (ik .i64) x3)] (e49 r) :=
  pure_J mixed (cp := t49 fu ) (t49_ok fu  ) (ciE_ok mixed (t49_ok fu  ) (ciE_ok mixed (t49_ok fu  ) (ciE_ok mixed (t49_ok fu  ) noI_ok i102 noI_ok) i101 (ciE_ok mixed (t49_ok fu  ) noI_ok i102 noI_ok)) i100 (ciE_ok mixed (t49_ok fu  ) (ciE_ok mixed (t49_ok fu  ) noI_ok i102 noI_ok) i101 (ciE_ok mixed (t49_ok fu  ) noI_ok i102 noI_ok))) i49 (w49 _ fu x1 x2 x3  (fun a0 r h => orE_hit (mkC_at (a := a0) (by intro a b h; first | (exact rfl) | (simp only [INJ, IJ] at h; first | exact h | (simp_all [Prod.ext_iff]) )) h)) (fun a0 a1 r h => orE_miss (by decide) (orE_hit (mkC_at (a := (a0, a1)) (by intro a b h; first | (exact rfl) | (simp only [INJ, IJ] at h; first | exact h | (simp_all [Prod.ext_iff]) )) h))) (fun a0 c1 r h => orE_miss (by decide) (orE_miss (by decide) (orE_hit (mkC_at (a := (a0, c1)) (by intro a b h; first | (exact rfl) | (simp only [INJ, IJ] at h; first | exact h | (simp_all [Prod.ext_iff]) )) h))))) h
/-! 86: lattice/moves.each -/
open Aw (d86)
def d86_at := by have h := tabL Aw.d86.eq_1; simp only [AllAt, Nat.zero_add, Nat.reduceAdd] at h; exact h
noncomputable def b86 : Code := bodyOf Tryz.f86
theorem go_b86 {C : Cfg} {cp : CallP} {ci : CallI} {lvl : Nat} {prot : List Id} {D : List (Nat × List Nat)} {n : Nat} {K : KK} {e : Env} {h : Heap} {fs : List Fr} : go Tryz.prog C cp ci lvl prot D n K b86 e h fs = go Tryz.prog C cp ci lvl prot D n K (bodyOf Tryz.f86) e h fs := rfl
theorem i86 : finfo Tryz.prog 86 d86 = some ⟨b86, [], []⟩ := finfo_at Tryz.func86 rfl (by kernel_rfl) (by kernel_rfl)
/-! 87: lattice/moves.picked$1 -/
open Aw (d87)
def d87_at := by have h := tabL Aw.d87.eq_1; simp only [AllAt, Nat.zero_add, Nat.reduceAdd] at h; exact h
noncomputable def b87 : Code := bodyOf Tryz.f87
theorem go_b87 {C : Cfg} {cp : CallP} {ci : CallI} {lvl : Nat} {prot : List Id} {D : List (Nat × List Nat)} {n : Nat} {K : KK} {e : Env} {h : Heap} {fs : List Fr} : go Tryz.prog C cp ci lvl prot D n K b87 e h fs = go Tryz.prog C cp ci lvl prot D n K (bodyOf Tryz.f87) e h fs := rfl
theorem i87 : finfo Tryz.prog 87 d87 = some ⟨b87, [], []⟩ := finfo_at Tryz.func87 rfl (by kernel_rfl) (by kernel_rfl)
/-! 42: lattice/moves.picked -/
open Aw (d42)
def d42_at := by have h := tabL Aw.d42.eq_1; simp only [AllAt, Nat.zero_add, Nat.reduceAdd] at h; exact h
theorem i42 : finfo Tryz.prog 42 d42 = some ⟨bodyOf Tryz.f42, [.cell 6 27], [27]⟩ := finfo_at Tryz.func42 rfl (by kernel_rfl) (by kernel_rfl)
def e42 : T_Tensor → AV := fun r => .agg [.v (.int .i64 r.fType), .fresh 1 r.fDims.length (lm (ik .i64) r.fDims), .fresh 1 r.fF.length (lm (ik .u32) r.fF), .fresh 1 r.fI.length (lm (ik .i64) r.fI), .fresh 1 r.fB.length (lm (bk) r.fB)]
set_option maxHeartbeats 20000000 in
theorem w42 (cp : CallP) (fu : Nat) (x1 : T_Tensor) (x2 : List Int) (p2 : (List Int) → Option Int) (fv_p2 : FuncId) (ca_p2 : List AV) (ni_p2 : (inlC [86, 87]).inl fv_p2 = false) (cap_p2 : Capt ca_p2) (hp_p2 : ∀ (y0 : List Int) r, p2 y0 = some r → cp fv_p2 ((.arr y0.length (lm (ik .i64) y0)) :: ca_p2) = some (.v (.int .i64 r))) (H61_0 : ∀ (a0 : List Int) (a1 : Int) r, slices_Contains_int fu a0 a1 = some r → cp 61 [.arr a0.length (lm (ik .i64) a0), .v (.int .i64 a1)] = some (.v (.bool r))) (H49_0 : ∀ (a0 : T_Tensor) (a1 : List Int) (a2 : List Int) r, tens_Pick fu a0 a1 a2 = some r → cp 49 [.agg (c_T_Tensor a0), .arr a1.length (lm (ik .i64) a1), .arr a2.length (lm (ik .i64) a2)] = some (.tuple [.agg [.v (.int .i64 r.1.fType), .fresh 1 r.1.fDims.length (lm (ik .i64) r.1.fDims), .fresh 1 r.1.fF.length (lm (ik .u32) r.1.fF), .fresh 1 r.1.fI.length (lm (ik .i64) r.1.fI), .fresh 1 r.1.fB.length (lm (bk) r.1.fB)], .v (.int .i64 r.2)])) : J (go Tryz.prog (inlC [86, 87]) cp (ciE Tryz.prog (inlC [86, 87]) cp (ciE Tryz.prog (inlC [86, 87]) cp noI fu 87 d87 ⟨b87, [], []⟩ noI) fu 86 d86 ⟨b86, [], []⟩ (ciE Tryz.prog (inlC [86, 87]) cp noI fu 87 d87 ⟨b87, [], []⟩ noI)) 0 [] d42 fu (fin Tryz.prog [.cell 6 27] [27]) (bodyOf Tryz.f42) (initE 0 [.agg (c_T_Tensor x1), .arr x2.length (lm (ik .i64) x2), .fn fv_p2 [] ca_p2]) [] []) (moves_picked fu x1 x2 p2) e42 := by
 unfold moves_picked e42
 have da := d42_at
 have c4_p2 := fun g => (cap_p2.1 g).1; have c3_p2 := fun g => (cap_p2.1 g).2.1; have b4_p2 := fun g => (cap_p2.1 g).2.2.1; have b3_p2 := fun g => (cap_p2.1 g).2.2.2; have nm_p2 := cap_p2.2
 conv => arg 1; simp (disch := first | exact Zd | fail) only [bodyOf, Tryz.f42, ZZ, d42_at, simprocAttr, go_b86, bodyOf, Tryz.f86, d86_at, RI, RIk, initE, c4_p2, c3_p2, b4_p2, b3_p2, nm_p2]
 refine J.eq go_seq ?_
 refine J.bind fun x3 h1 => ?_
 have e_h1 := H61_0 _ _ _ h1
 try simp only [NN, NT, LN, simprocAttr, DT] at e_h1
 conv => arg 1; simp (disch := first | exact Zd | fail) only [ZZ, d42_at, simprocAttr, go_b86, bodyOf, Tryz.f86, d86_at, RI, RIk, initE, c4_p2, c3_p2, b4_p2, b3_p2, nm_p2, e_h1]
 refine J.ite (fun h2 => ?_) (fun h2 => ?_)
 ·have h2' : x3 = true := h2
  refine J.bind fun x4 h3 => ?_
  have e_h3 := H49_0 _ _ _ _ h3
  try simp only [NN, NT, LN, simprocAttr, DT] at e_h3
  refine J.some ?_
  simp (maxSteps := 20000000) (disch := first | exact Zd | fail) only [ZZ, d42_at, simprocAttr, go_b86, bodyOf, Tryz.f86, d86_at, RI, RIk, initE, c4_p2, c3_p2, b4_p2, b3_p2, nm_p2, e_h1, h2', e_h3, FN]
 ·have h2' : x3 = false := Bool.eq_false_iff.2 h2
  conv => arg 1; simp (disch := first | exact Zd | fail) only [ZZ, d42_at, simprocAttr, go_b86, bodyOf, Tryz.f86, d86_at, RI, RIk, initE, c4_p2, c3_p2, b4_p2, b3_p2, nm_p2, e_h1, h2']
  refine J.eq ret_seq ?_
  refine J.chk fun h4 => ?_
  conv => arg 1; simp (disch := first | exact Zd | fail) only [ZZ, d42_at, simprocAttr, go_b86, bodyOf, Tryz.f86, d86_at, RI, RIk, initE, c4_p2, c3_p2, b4_p2, b3_p2, nm_p2, e_h1, h2']
  refine J.eq go_seq ?_
  conv => arg 1; simp (disch := first | exact Zd | fail) only [ZZ, d42_at, simprocAttr, go_b86, bodyOf, Tryz.f86, d86_at, RI, RIk, initE, c4_p2, c3_p2, b4_p2, b3_p2, nm_p2, e_h1, h2']
  refine J.eq ret_seq ?_
  conv => arg 1; simp (disch := first | exact Zd | fail) only [ZZ, d42_at, simprocAttr, go_b86, bodyOf, Tryz.f86, d86_at, RI, RIk, initE, c4_p2, c3_p2, b4_p2, b3_p2, nm_p2, e_h1, h2']
  unfold moves_picked.W1
  refine J.loop (fun (s : (List Int) × (List Int)) => ([(0, .arr x2.length (lm (ik .i64) x2)), (1, .fn 87 [] [.ptr (0, 7, 0) 0 0, .ptr (0, 5, 0) 0 0]), (4, .own (1, 10, 0) 0 s.2.length s.2.length)], [((0, 3, 0), .bx true ([.v (.int .i64 x1.fType), .arr x1.fDims.length (lm (ik .i64) x1.fDims), .arr x1.fF.length (lm (ik .u32) x1.fF), .arr x1.fI.length (lm (ik .i64) x1.fI), .arr x1.fB.length (lm (bk) x1.fB)])), ((0, 5, 0), .bx true ([.fn fv_p2 [] ca_p2])), ((0, 6, 0), .bx true ([.v (.int .i64 0), .v (.slice none 0 0), .v (.slice none 0 0), .v (.slice none 0 0), .v (.slice none 0 0)])), ((0, 7, 0), .bx true ([.own (0, 7, 78) 0 s.1.length s.1.length])), ((0, 7, 78), .sl true true 1 s.1.length (lm (ik .i64) s.1)), ((1, 10, 0), .sl true true 1 s.2.length (lm (ik .i64) s.2))])) (fun next s => moves_picked.L1 fu p2 x1 x2 (fun x17 x18 => next (x17, x18)) s.1 s.2) (s0 := (([] : List Int), List.replicate (x2.length : Int).toNat (0 : Int))) ?_ ?_ ?_
  ·exact Ze
  ·exact Zh
  rintro next k1 hn1 ⟨x17, x18⟩
  let nx1 : (List Int) → (List Int) → Option T_Tensor := (fun x17 x18 => next (x17, x18))
  show J _ (moves_picked.L1 fu p2 x1 x2 nx1 x17 x18) _
  unfold moves_picked.L1
  refine J.bind fun x31 h5 => ?_
  have e_h5 := hp_p2 _ _ h5
  try simp only [NN, NT, LN, simprocAttr, DT] at e_h5
  refine J.chk fun h6 => ?_
  conv => arg 1; simp (disch := first | exact Zd | fail) only [ZZ, d42_at, simprocAttr, go_b86, bodyOf, Tryz.f86, d86_at, go_b87, bodyOf, Tryz.f87, d87_at, RI, RIk, initE, c4_p2, c3_p2, b4_p2, b3_p2, nm_p2, e_h1, h2', e_h5]
  refine J.eq go_seq ?_
  conv => arg 1; simp (disch := first | exact Zd | fail) only [ZZ, d42_at, simprocAttr, go_b86, bodyOf, Tryz.f86, d86_at, go_b87, bodyOf, Tryz.f87, d87_at, RI, RIk, initE, c4_p2, c3_p2, b4_p2, b3_p2, nm_p2, e_h1, h2', e_h5]
  unfold moves_picked.W2
  refine J.loop (fun (s : (List Int) × Int) => ([(0, .arr x2.length (lm (ik .i64) x2)), (1, .fn 87 [] [.ptr (0, 7, 0) 0 0, .ptr (0, 5, 0) 0 0]), (4, .own (1, 10, 0) 0 s.1.length s.1.length), (5, .v (.int .i64 s.2))], [((0, 3, 0), .bx true ([.v (.int .i64 x1.fType), .arr x1.fDims.length (lm (ik .i64) x1.fDims), .arr x1.fF.length (lm (ik .u32) x1.fF), .arr x1.fI.length (lm (ik .i64) x1.fI), .arr x1.fB.length (lm (bk) x1.fB)])), ((0, 5, 0), .bx true ([.fn fv_p2 [] ca_p2])), ((0, 6, 0), .bx true ([.v (.int .i64 0), .v (.slice none 0 0), .v (.slice none 0 0), .v (.slice none 0 0), .v (.slice none 0 0)])), ((0, 7, 0), .bx true ([.own (0, 7, 78) 0 (x17.length + 1) (x17.length + 1)])), ((0, 7, 78), .sl true true 1 (x17.length + 1) (lm (ik .i64) (x17 ++ ([x31])))), ((1, 10, 0), .sl true true 1 s.1.length (lm (ik .i64) s.1))])) (fun next s => moves_picked.L2 fu nx1 x1 x2 x17 x31 (fun x35 x36 => next (x35, x36)) s.1 s.2) (s0 := (x18, wk .i64 ((x2.length : Int) - 1))) ?_ ?_ ?_
  ·exact Ze
  ·exact Zh
  rintro next k2 hn2 ⟨x35, x36⟩
  let nx2 : (List Int) → Int → Option T_Tensor := (fun x35 x36 => next (x35, x36))
  show J _ (moves_picked.L2 fu nx1 x1 x2 x17 x31 nx2 x35 x36) _
  unfold moves_picked.L2
  refine J.eq go_seq ?_
  conv => arg 1; simp (disch := first | exact Zd | fail) only [ZZ, d42_at, simprocAttr, go_b86, bodyOf, Tryz.f86, d86_at, go_b87, bodyOf, Tryz.f87, d87_at, RI, RIk, initE, c4_p2, c3_p2, b4_p2, b3_p2, nm_p2, e_h1, h2', e_h5]
  refine J.ite (fun h7 => ?_) (fun h7 => ?_)
  ·have h7' := decide_eq_true h7
   have h7'' : decide (x36 < 0) = false := decide_eq_false (by omega)
   conv => arg 1; simp (disch := first | exact Zd | fail) only [ZZ, d42_at, simprocAttr, go_b86, bodyOf, Tryz.f86, d86_at, go_b87, bodyOf, Tryz.f87, d87_at, RI, RIk, initE, c4_p2, c3_p2, b4_p2, b3_p2, nm_p2, e_h1, h2', e_h5, h7'', h7']
   refine J.eq ret_seq ?_
   refine J.eq go_seq ?_
   refine J.at fun x40 h8 h9 h10 => ?_
   refine J.chk fun h11 => ?_
   conv => arg 1; simp (disch := first | exact Zd | fail) only [ZZ, d42_at, simprocAttr, go_b86, bodyOf, Tryz.f86, d86_at, go_b87, bodyOf, Tryz.f87, d87_at, RI, RIk, initE, c4_p2, c3_p2, b4_p2, b3_p2, nm_p2, e_h1, h2', e_h5, h7'', h7', lm_ik h10]
   refine J.eq go_seq ?_
   refine J.at fun x41 h12 h13 h14 => ?_
   refine J.at fun x42 h15 h16 h17 => ?_
   conv => arg 1; simp (disch := first | exact Zd | fail) only [ZZ, d42_at, simprocAttr, go_b86, bodyOf, Tryz.f86, d86_at, go_b87, bodyOf, Tryz.f87, d87_at, RI, RIk, initE, c4_p2, c3_p2, b4_p2, b3_p2, nm_p2, e_h1, h2', e_h5, h7'', h7', lm_ik h10, lm_ik h14, lm_ik h17]
   refine J.ite (fun h18 => ?_) (fun h18 => ?_)
   ·have h18' := decide_eq_true h18
    have h18'' : decide (x42 ≤ x41) = false := decide_eq_false (by omega)
    conv => arg 1; simp (disch := first | exact Zd | fail) only [ZZ, d42_at, simprocAttr, go_b86, bodyOf, Tryz.f86, d86_at, go_b87, bodyOf, Tryz.f87, d87_at, RI, RIk, initE, c4_p2, c3_p2, b4_p2, b3_p2, nm_p2, e_h1, h2', e_h5, h7'', h7', lm_ik h10, lm_ik h14, lm_ik h17, h18'', h18']
    refine J.next (s := (x17 ++ ([x31]), x35.set x36.toNat (wk .i64 (x40 + 1)))) hn1 ?_ ?_
    ·exact Ze
    ·exact Zh
   ·have h18' := decide_eq_false h18
    have h18'' : decide (x42 ≤ x41) = true := decide_eq_true (by omega)
    conv => arg 1; simp (disch := first | exact Zd | fail) only [ZZ, d42_at, simprocAttr, go_b86, bodyOf, Tryz.f86, d86_at, go_b87, bodyOf, Tryz.f87, d87_at, RI, RIk, initE, c4_p2, c3_p2, b4_p2, b3_p2, nm_p2, e_h1, h2', e_h5, h7'', h7', lm_ik h10, lm_ik h14, lm_ik h17, h18'', h18']
    refine J.eq ret_seq ?_
    refine J.chk fun h19 => ?_
    conv => arg 1; simp (disch := first | exact Zd | fail) only [ZZ, d42_at, simprocAttr, go_b86, bodyOf, Tryz.f86, d86_at, go_b87, bodyOf, Tryz.f87, d87_at, RI, RIk, initE, c4_p2, c3_p2, b4_p2, b3_p2, nm_p2, e_h1, h2', e_h5, h7'', h7', lm_ik h10, lm_ik h14, lm_ik h17, h18'', h18']
    refine J.eq ret_seq ?_
    conv => arg 1; simp (disch := first | exact Zd | fail) only [ZZ, d42_at, simprocAttr, go_b86, bodyOf, Tryz.f86, d86_at, go_b87, bodyOf, Tryz.f87, d87_at, RI, RIk, initE, c4_p2, c3_p2, b4_p2, b3_p2, nm_p2, e_h1, h2', e_h5, h7'', h7', lm_ik h10, lm_ik h14, lm_ik h17, h18'', h18']
    refine J.next (s := ((x35.set x36.toNat (wk .i64 (x40 + 1))).set x36.toNat 0, wk .i64 (x36 - 1))) hn2 ?_ ?_
    ·exact Ze
    ·exact Zh
  ·have h7' := decide_eq_false h7
   have h7'' : decide (x36 < 0) = true := decide_eq_true (by omega)
   conv => arg 1; simp (disch := first | exact Zd | fail) only [ZZ, d42_at, simprocAttr, go_b86, bodyOf, Tryz.f86, d86_at, go_b87, bodyOf, Tryz.f87, d87_at, RI, RIk, initE, c4_p2, c3_p2, b4_p2, b3_p2, nm_p2, e_h1, h2', e_h5, h7'', h7']
   refine J.eq ret_seq ?_
   refine J.bind fun x43 h20 => ?_
   have e_h20 := H49_0 _ _ _ _ h20
   try simp only [NN, NT, LN, simprocAttr, DT] at e_h20
   refine J.some ?_
   simp (maxSteps := 20000000) (disch := first | exact Zd | fail) only [ZZ, d42_at, simprocAttr, go_b86, bodyOf, Tryz.f86, d86_at, go_b87, bodyOf, Tryz.f87, d87_at, RI, RIk, initE, c4_p2, c3_p2, b4_p2, b3_p2, nm_p2, e_h1, h2', e_h5, h7'', h7', e_h20, FN]
noncomputable def t42 (fu : Nat) (x1 : T_Tensor) (x2 : List Int) (p2 : (List Int) → Option Int) (fv_p2 : FuncId) (ca_p2 : List AV) : CallP := orE 61 (mkC (fun (t : (List Int) × Int) => ([.arr t.1.length (lm (ik .i64) t.1), .v (.int .i64 t.2)] : List AV)) (fun t => slices_Contains_int fu t.1 t.2) e61) (orE 49 (mkC (fun (t : T_Tensor × (List Int) × (List Int)) => ([.agg (c_T_Tensor t.1), .arr t.2.1.length (lm (ik .i64) t.2.1), .arr t.2.2.length (lm (ik .i64) t.2.2)] : List AV)) (fun t => tens_Pick fu t.1 t.2.1 t.2.2) e49) (orE fv_p2 (mkC (fun (t : List Int) => ((.arr t.length (lm (ik .i64) t)) :: ca_p2 : List AV)) (fun t => p2 t) (fun r => .v (.int .i64 r))) (noP)))
theorem t42_ok (fu : Nat) (x1 : T_Tensor) (x2 : List Int) (p2 : (List Int) → Option Int) (fv_p2 : FuncId) (ca_p2 : List AV) (nc_p2 : memN [49, 61] fv_p2 = false) (ni_p2 : (inlC [86, 87]).inl fv_p2 = false) (cap_p2 : Capt ca_p2) (hp_p2 : ∀ (y0 : List Int) r, p2 y0 = some r → PureOK Tryz.prog fv_p2 ((.arr y0.length (lm (ik .i64) y0)) :: ca_p2) (.v (.int .i64 r))) : CpOK Tryz.prog (t42 fu x1 x2 p2 fv_p2 ca_p2) := orE_ok (orE_ok (orE_ok (noP_ok) (mkC_ok (fun t b h => hp_p2 t b h))) (mkC_ok (fun t b h => ok49 fu t.1 t.2.1 t.2.2  b h))) (mkC_ok (fun t b h => ok61 fu t.1 t.2  b h))
theorem ok42 (fu : Nat) (x1 : T_Tensor) (x2 : List Int) (p2 : (List Int) → Option Int) (fv_p2 : FuncId) (ca_p2 : List AV) (nc_p2 : memN [49, 61] fv_p2 = false) (ni_p2 : (inlC [86, 87]).inl fv_p2 = false) (cap_p2 : Capt ca_p2) (hp_p2 : ∀ (y0 : List Int) r, p2 y0 = some r → PureOK Tryz.prog fv_p2 ((.arr y0.length (lm (ik .i64) y0)) :: ca_p2) (.v (.int .i64 r))) (r) (h : moves_picked fu x1 x2 p2 = some r) : PureOK Tryz.prog 42 [.agg (c_T_Tensor x1), .arr x2.length (lm (ik .i64) x2), .fn fv_p2 [] ca_p2] (e42 r) :=
  pure_J mixed (cp := t42 fu x1 x2 p2 fv_p2 ca_p2) (t42_ok fu x1 x2 p2 fv_p2 ca_p2 nc_p2 ni_p2 cap_p2 hp_p2) (ciE_ok mixed (t42_ok fu x1 x2 p2 fv_p2 ca_p2 nc_p2 ni_p2 cap_p2 hp_p2) (ciE_ok mixed (t42_ok fu x1 x2 p2 fv_p2 ca_p2 nc_p2 ni_p2 cap_p2 hp_p2) noI_ok i87 noI_ok) i86 (ciE_ok mixed (t42_ok fu x1 x2 p2 fv_p2 ca_p2 nc_p2 ni_p2 cap_p2 hp_p2) noI_ok i87 noI_ok)) i42 (w42 _ fu x1 x2 p2 fv_p2 ca_p2 ni_p2 cap_p2 (fun y0 r h => orE_skip (fun hfv => absurd nc_p2 (by first | (rw [hfv]; decide) | (rw [← hfv]; decide))) (orE_skip (fun hfv => absurd nc_p2 (by first | (rw [hfv]; decide) | (rw [← hfv]; decide))) (orE_hit (mkC_at (a := y0) (by intro a b h; first | (exact rfl) | (simp only [INJ, IJ] at h; first | exact h | (simp_all [Prod.ext_iff]) )) h)))) (fun a0 a1 r h => orE_hit (mkC_at (a := (a0, a1)) (by intro a b h; first | (exact rfl) | (simp only [INJ, IJ] at h; first | exact h | (simp_all [Prod.ext_iff]) )) h)) (fun a0 a1 a2 r h => orE_miss (by decide) (orE_hit (mkC_at (a := (a0, a1, a2)) (by intro a b h; first | (exact rfl) | (simp only [INJ, IJ] at h; first | exact h | (simp_all [Prod.ext_iff]) )) h)))) h
/-! 44: lattice/moves.dot -/
open Aw (d44)
def d44_at := by have h := tabL Aw.d44.eq_1; simp only [AllAt, Nat.zero_add, Nat.reduceAdd] at h; exact h
theorem i44 : finfo Tryz.prog 44 d44 = some ⟨bodyOf Tryz.f44, [.tmp 4], [3]⟩ := finfo_at Tryz.func44 rfl (by kernel_rfl) (by kernel_rfl)
def e44 : Int → AV := fun r => .v (.int .i64 r)
set_option maxHeartbeats 20000000 in
theorem w44 (cp : CallP) (fu : Nat) (x1 : List Int) (x2 : List Int) : J (go Tryz.prog noC cp noI 0 [] d44 fu (fin Tryz.prog [.tmp 4] [3]) (bodyOf Tryz.f44) (initE 0 [.arr x1.length (lm (ik .i64) x1), .arr x2.length (lm (ik .i64) x2)]) [] []) (moves_dot fu x1 x2) e44 := by
 unfold moves_dot e44
 have da := d44_at
 conv => arg 1; simp (disch := first | exact Zd | fail) only [bodyOf, Tryz.f44, ZZ, d44_at, simprocAttr]
 refine J.eq go_seq ?_
 refine Jc ?_
 unfold moves_dot.W1
 refine J.loop (fun (s : Int × Int) => ([(0, .arr x1.length (lm (ik .i64) x1)), (5, .v (.int .i64 s.1)), (8, .arr x2.length (lm (ik .i64) x2)), (9, .v (.int .i64 (x2.length : Int))), (10, .v (.int .i64 s.2))], [])) (fun next s => moves_dot.L1 fu x1 x2 (fun x5 x6 => next (x5, x6)) s.1 s.2) (s0 := (0, 0)) ?_ ?_ ?_
 ·exact Ze
 ·exact Zh
 rintro next k1 hn1 ⟨x5, x6⟩
 let nx1 : Int → Int → Option Int := (fun x5 x6 => next (x5, x6))
 show J _ (moves_dot.L1 fu x1 x2 nx1 x5 x6) _
 unfold moves_dot.L1
 refine Jc ?_
 refine J.eq go_seq ?_
 refine Jc ?_
 refine J.ite (fun h1 => ?_) (fun h1 => ?_)
 ·have h1' := decide_eq_true h1
  have h1'' : decide ((x2.length : Int) ≤ x6) = false := decide_eq_false (by omega)
  refine Jc ?_
  refine J.eq ret_seq ?_
  refine J.eq go_seq ?_
  refine J.at fun x9 h2 h3 h4 => ?_
  refine J.at fun x10 h5 h6 h7 => ?_
  conv => arg 1; simp (disch := first | exact Zd | fail) only [ZZ, d44_at, simprocAttr, h1'', h1', lm_ik h4, lm_ik h7]
  refine J.eq ret_seq ?_
  conv => arg 1; simp (disch := first | exact Zd | fail) only [ZZ, d44_at, simprocAttr, h1'', h1', lm_ik h4, lm_ik h7]
  refine J.next (s := (wk .i64 (x5 + (wk .i64 (x10 * x9))), wk .i64 (x6 + 1))) hn1 ?_ ?_
  ·exact Ze
  ·exact Zh
 ·have h1' := decide_eq_false h1
  have h1'' : decide ((x2.length : Int) ≤ x6) = true := decide_eq_true (by omega)
  refine Jc ?_
  refine J.eq ret_seq ?_
  refine J.some ?_
  exact Js
noncomputable def t44 (fu : Nat) : CallP := noP
theorem t44_ok (fu : Nat) : CpOK Tryz.prog (t44 fu ) := noP_ok
theorem ok44 (fu : Nat) (x1 : List Int) (x2 : List Int) (r) (h : moves_dot fu x1 x2 = some r) : PureOK Tryz.prog 44 [.arr x1.length (lm (ik .i64) x1), .arr x2.length (lm (ik .i64) x2)] (e44 r) :=
  pure_J mixed (cp := t44 fu ) (t44_ok fu  ) noI_ok i44 (w44 _ fu x1 x2  ) h
/-! 110: (*lattice/moves.move).depth$1 -/
def d110 : List (Nat × List Nat) := [(0, [6]), (0, []), (0, [9, 10, 11, 12, 13, 14, 15]), (0, []), (36, [7, 16, 17, 18, 19, 20, 21, 22, 23, 24, 25, 26, 27, 28, 29, 30, 31, 32, 33, 34, 35, 36, 37, 38, 39, 40, 41, 42, 43, 44, 45, 46, 47, 48, 49, 50]), (0, []), (0, [51, 52, 53, 54]), (0, []), (36, [56, 57, 58, 59, 60, 61, 62, 63, 64, 65, 66, 67, 68, 69, 70, 71, 72, 73, 74, 75, 76, 77, 78, 79, 80, 81, 82, 83, 84, 85, 86, 87, 88, 89, 90]), (0, []), (0, [91, 92, 93, 94, 95]), (0, []), (21, [97, 98, 99, 100, 101, 102, 103, 104, 105, 106, 107, 108, 109, 110, 111, 112, 113, 114, 115, 116, 117]), (0, []), (0, [0, 1, 2, 3, 4, 8, 118, 119, 120])]
def d110_at := by have h := tabL d110.eq_1; simp only [AllAt, Nat.zero_add, Nat.reduceAdd] at h; exact h
theorem i110 : finfo Tryz.prog 110 d110 = some ⟨bodyOf Tryz.f110, [.tmp 6], [3]⟩ := finfo_at Tryz.func110 rfl (by kernel_rfl) (by kernel_rfl)
def e110 : Int → AV := fun r => .v (.int .i64 r)
set_option maxHeartbeats 20000000 in
theorem w110 (cp : CallP) (fu : Nat) (x1 : List Int) (x2 : T_moves_move) (x3 : Int) (x4 : List Int) (x5 : List Int) (H44_0 : ∀ (a0 : List Int) (a1 : List Int) r, moves_dot fu a0 a1 = some r → cp 44 [.arr a0.length (lm (ik .i64) a0), .arr a1.length (lm (ik .i64) a1)] = some (.v (.int .i64 r))) : J (go Tryz.prog noC cp noI 0 [] d110 fu (fin Tryz.prog [.tmp 6] [3]) (bodyOf Tryz.f110) (initE 0 [.arr x1.length (lm (ik .i64) x1), .ref [.ref (c_T_moves_move x2) 0] 0, .ref [.v (.int .i64 x3)] 0, .ref [.arr x4.length (lm (ik .i64) x4)] 0, .ref [.arr x5.length (lm (ik .i64) x5)] 0]) [] []) (moves_move_depth_1 fu x1 x2 x3 x4 x5) e110 := by
 unfold moves_move_depth_1 e110
 have da := d110_at
 refine J.at fun x6 h1 h2 h3 => ?_
 replace h3 : x2.fx.fDims[1]? = some x6 := h3
 refine J.at fun x7 h4 h5 h6 => ?_
 replace h6 : x1[0]? = some x7 := h6
 refine J.at fun x8 h7 h8 h9 => ?_
 replace h9 : x1[1]? = some x8 := h9
 refine J.chk fun h10 => ?_
 refine J.at fun x9 h11 h12 h13 => ?_
 replace h13 : x1[2]? = some x9 := h13
 refine J.chk fun h14 => ?_
 refine J.at fun x10 h15 h16 h17 => ?_
 replace h17 : x1[3]? = some x10 := h17
 conv => arg 1; simp (disch := first | exact Zd | fail) only [bodyOf, Tryz.f110, ZZ, d110_at, simprocAttr, lm_ik h3, lm_ik h6, lm_ik h9, lm_ik h13, lm_ik h17]
 refine J.eq go_seq ?_
 conv => arg 1; simp (disch := first | exact Zd | fail) only [ZZ, d110_at, simprocAttr, lm_ik h3, lm_ik h6, lm_ik h9, lm_ik h13, lm_ik h17]
 refine J.ite (fun h18 => ?_) (fun h18 => ?_)
 ·have h18' := decide_eq_true h18
  refine J.at fun x11 h19 h20 h21 => ?_
  replace h21 : x4[1]? = some x11 := h21
  conv => arg 1; simp (disch := first | exact Zd | fail) only [ZZ, d110_at, simprocAttr, lm_ik h3, lm_ik h6, lm_ik h9, lm_ik h13, lm_ik h17, h18', lm_ik h21]
  refine J.ite (fun h22 => ?_) (fun h22 => ?_)
  ·have h22' := decide_eq_true h22
   exact J.none
  ·have h22' := decide_eq_false h22
   conv => arg 1; simp (disch := first | exact Zd | fail) only [ZZ, d110_at, simprocAttr, lm_ik h3, lm_ik h6, lm_ik h9, lm_ik h13, lm_ik h17, h18', lm_ik h21, h22']
   refine J.eq ret_seq ?_
   refine J.bind fun x12 h23 => ?_
   have e_h23 := H44_0 _ _ _ h23
   try simp only [NN, NT, LN, simprocAttr, DT] at e_h23
   refine J.some ?_
   simp (maxSteps := 20000000) (disch := first | exact Zd | fail) only [ZZ, d110_at, simprocAttr, lm_ik h3, lm_ik h6, lm_ik h9, lm_ik h13, lm_ik h17, h18', lm_ik h21, h22', e_h23, FN]
 ·have h18' := decide_eq_false h18
  conv => arg 1; simp (disch := first | exact Zd | fail) only [ZZ, d110_at, simprocAttr, lm_ik h3, lm_ik h6, lm_ik h9, lm_ik h13, lm_ik h17, h18']
  refine J.eq ret_seq ?_
  refine J.bind fun x13 h24 => ?_
  have e_h24 := H44_0 _ _ _ h24
  try simp only [NN, NT, LN, simprocAttr, DT] at e_h24
  refine J.some ?_
  simp (maxSteps := 20000000) (disch := first | exact Zd | fail) only [ZZ, d110_at, simprocAttr, lm_ik h3, lm_ik h6, lm_ik h9, lm_ik h13, lm_ik h17, h18', e_h24, FN]
noncomputable def t110 (fu : Nat) : CallP := orE 44 (mkC (fun (t : (List Int) × (List Int)) => ([.arr t.1.length (lm (ik .i64) t.1), .arr t.2.length (lm (ik .i64) t.2)] : List AV)) (fun t => moves_dot fu t.1 t.2) e44) (noP)
theorem t110_ok (fu : Nat) : CpOK Tryz.prog (t110 fu ) := orE_ok (noP_ok) (mkC_ok (fun t b h => ok44 fu t.1 t.2  b h))
theorem ok110 (fu : Nat) (x1 : List Int) (x2 : T_moves_move) (x3 : Int) (x4 : List Int) (x5 : List Int) (r) (h : moves_move_depth_1 fu x1 x2 x3 x4 x5 = some r) : PureOK Tryz.prog 110 [.arr x1.length (lm (ik .i64) x1), .ref [.ref (c_T_moves_move x2) 0] 0, .ref [.v (.int .i64 x3)] 0, .ref [.arr x4.length (lm (ik .i64) x4)] 0, .ref [.arr x5.length (lm (ik .i64) x5)] 0] (e110 r) :=
  pure_J mixed (cp := t110 fu ) (t110_ok fu  ) noI_ok i110 (w110 _ fu x1 x2 x3 x4 x5  (fun a0 a1 r h => orE_hit (mkC_at (a := (a0, a1)) (by intro a b h; first | (exact rfl) | (simp only [INJ, IJ] at h; first | exact h | (simp_all [Prod.ext_iff]) )) h))) h
/-! 55: (*lattice/moves.move).depth -/
def d55 : List (Nat × List Nat) := [(0, [0, 1]), (0, []), (13, [7, 8, 9, 10, 11, 12, 13, 14, 15, 16, 17]), (0, []), (7, [2, 3, 5, 6, 18, 19, 20, 21, 22, 23, 24])]
def d55_at := by have h := tabL d55.eq_1; simp only [AllAt, Nat.zero_add, Nat.reduceAdd] at h; exact h
theorem i55 : finfo Tryz.prog 55 d55 = some ⟨bodyOf Tryz.f55, [.cell 4 27], [27]⟩ := finfo_at Tryz.func55 rfl (by kernel_rfl) (by kernel_rfl)
def e55 : T_Tensor → AV := fun r => .agg [.v (.int .i64 r.fType), .fresh 1 r.fDims.length (lm (ik .i64) r.fDims), .fresh 1 r.fF.length (lm (ik .u32) r.fF), .fresh 1 r.fI.length (lm (ik .i64) r.fI), .fresh 1 r.fB.length (lm (bk) r.fB)]
set_option maxHeartbeats 20000000 in
theorem w55 (cp : CallP) (fu : Nat) (x1 : T_moves_move) (x2 : List Int) (H41_0 : ∀ (a0 : List Int) r, moves_strides fu a0 = some r → cp 41 [.arr a0.length (lm (ik .i64) a0)] = some (.fresh 1 r.length (lm (ik .i64) r))) (H42_0 : ∀ (a0 : T_Tensor) (a1 : List Int) (c2 : T_moves_move) (c3 : Int) (c4 : List Int) (c5 : List Int) r, moves_picked fu a0 a1 (fun y0 => moves_move_depth_1 fu y0 c2 c3 c4 c5) = some r → cp 42 [.agg (c_T_Tensor a0), .arr a1.length (lm (ik .i64) a1), .fn 110 [] [.ref [.ref (c_T_moves_move c2) 0] 0, .ref [.v (.int .i64 c3)] 0, .ref [.arr c4.length (lm (ik .i64) c4)] 0, .ref [.arr c5.length (lm (ik .i64) c5)] 0]] = some (.agg [.v (.int .i64 r.fType), .fresh 1 r.fDims.length (lm (ik .i64) r.fDims), .fresh 1 r.fF.length (lm (ik .u32) r.fF), .fresh 1 r.fI.length (lm (ik .i64) r.fI), .fresh 1 r.fB.length (lm (bk) r.fB)])) : J (go Tryz.prog noC cp noI 0 [] d55 fu (fin Tryz.prog [.cell 4 27] [27]) (bodyOf Tryz.f55) (initE 0 [.ref (c_T_moves_move x1) 0, .arr x2.length (lm (ik .i64) x2)]) [] []) (moves_move_depth fu x1 x2) e55 := by
 unfold moves_move_depth e55
 have da := d55_at
 refine J.spl (fun h1 => ?_) (fun h1 => ?_)
 ·refine J.bind fun x3 h2 => ?_
  have e_h2 := H41_0 _ _ h2
  try simp only [NN, NT, LN, simprocAttr, DT] at e_h2
  refine J.bind fun x4 h3 => ?_
  have e_h3 := H42_0 _ _ _ _ _ _ _ h3
  try simp only [NN, NT, LN, simprocAttr, DT] at e_h3
  refine J.some ?_
  simp (maxSteps := 20000000) (disch := first | exact Zd | fail) only [bodyOf, Tryz.f55, ZZ, d55_at, simprocAttr, h1, e_h2, e_h3, FN]
 ·refine J.chk fun h4 => ?_
  refine J.bind fun x5 h5 => ?_
  have e_h5 := H41_0 _ _ h5
  try simp only [NN, NT, LN, simprocAttr, DT] at e_h5
  refine J.bind fun x6 h6 => ?_
  have e_h6 := H42_0 _ _ _ _ _ _ _ h6
  try simp only [NN, NT, LN, simprocAttr, DT] at e_h6
  refine J.some ?_
  simp (maxSteps := 20000000) (disch := first | exact Zd | fail) only [bodyOf, Tryz.f55, ZZ, d55_at, simprocAttr, h4, e_h5, e_h6, FN]
noncomputable def t55 (fu : Nat) : CallP := orE 41 (mkC (fun (t : List Int) => ([.arr t.length (lm (ik .i64) t)] : List AV)) (fun t => moves_strides fu t) e41) (orE 42 (mkC (fun (t : T_Tensor × (List Int) × T_moves_move × Int × (List Int) × (List Int)) => ([.agg (c_T_Tensor t.1), .arr t.2.1.length (lm (ik .i64) t.2.1), .fn 110 [] [.ref [.ref (c_T_moves_move t.2.2.1) 0] 0, .ref [.v (.int .i64 t.2.2.2.1)] 0, .ref [.arr t.2.2.2.2.1.length (lm (ik .i64) t.2.2.2.2.1)] 0, .ref [.arr t.2.2.2.2.2.length (lm (ik .i64) t.2.2.2.2.2)] 0]] : List AV)) (fun t => moves_picked fu t.1 t.2.1 (fun y0 => moves_move_depth_1 fu y0 t.2.2.1 t.2.2.2.1 t.2.2.2.2.1 t.2.2.2.2.2)) e42) (noP))
theorem t55_ok (fu : Nat) : CpOK Tryz.prog (t55 fu ) := orE_ok (orE_ok (noP_ok) (mkC_ok (fun t b h => ok42 fu t.1 t.2.1 (fun y0 => moves_move_depth_1 fu y0 t.2.2.1 t.2.2.2.1 t.2.2.2.2.1 t.2.2.2.2.2) 110 [.ref [.ref (c_T_moves_move t.2.2.1) 0] 0, .ref [.v (.int .i64 t.2.2.2.1)] 0, .ref [.arr t.2.2.2.2.1.length (lm (ik .i64) t.2.2.2.2.1)] 0, .ref [.arr t.2.2.2.2.2.length (lm (ik .i64) t.2.2.2.2.2)] 0] rfl rfl (Capt.ref (Capt.ref (Capt.ref (Capt.ref Capt.nil)))) (fun y0 r h => ok110 fu y0 t.2.2.1 t.2.2.2.1 t.2.2.2.2.1 t.2.2.2.2.2 r h) b h))) (mkC_ok (fun t b h => ok41 fu t  b h))
theorem ok55 (fu : Nat) (x1 : T_moves_move) (x2 : List Int) (r) (h : moves_move_depth fu x1 x2 = some r) : PureOK Tryz.prog 55 [.ref (c_T_moves_move x1) 0, .arr x2.length (lm (ik .i64) x2)] (e55 r) :=
  pure_J mixed (cp := t55 fu ) (t55_ok fu  ) noI_ok i55 (w55 _ fu x1 x2  (fun a0 r h => orE_hit (mkC_at (a := a0) (by intro a b h; first | (exact rfl) | (simp only [INJ, IJ] at h; first | exact h | (simp_all [Prod.ext_iff]) )) h)) (fun a0 a1 c2 c3 c4 c5 r h => orE_miss (by decide) (orE_hit (mkC_at (a := (a0, a1, c2, c3, c4, c5)) (by intro a b h; first | (exact rfl) | (simp only [INJ, IJ] at h; first | exact h | (simp_all [Prod.ext_iff]) )) h)))) h
/-! 25: (*lattice/moves.move).one -/
open Aw (d25)
def d25_at := by have h := tabL Aw.d25.eq_1; simp only [AllAt, Nat.zero_add, Nat.reduceAdd] at h; exact h
theorem i25 : finfo Tryz.prog 25 d25 = some ⟨bodyOf Tryz.f25, [.cell 6 27], [27]⟩ := finfo_at Tryz.func25 rfl (by kernel_rfl) (by kernel_rfl)
def e25 : T_Tensor → AV := fun r => .agg [.v (.int .i64 r.fType), .arr r.fDims.length (lm (ik .i64) r.fDims), .arr r.fF.length (lm (ik .u32) r.fF), .arr r.fI.length (lm (ik .i64) r.fI), .arr r.fB.length (lm (bk) r.fB)]
set_option maxHeartbeats 20000000 in
theorem w25 (cp : CallP) (fu : Nat) (x1 : T_moves_move) (x2 : List Int) (x3 : List Int) (H55_0 : ∀ (a0 : T_moves_move) (a1 : List Int) r, moves_move_depth fu a0 a1 = some r → cp 55 [.ref (c_T_moves_move a0) 0, .arr a1.length (lm (ik .i64) a1)] = some (.agg [.v (.int .i64 r.fType), .fresh 1 r.fDims.length (lm (ik .i64) r.fDims), .fresh 1 r.fF.length (lm (ik .u32) r.fF), .fresh 1 r.fI.length (lm (ik .i64) r.fI), .fresh 1 r.fB.length (lm (bk) r.fB)])) : J (go Tryz.prog noC cp noI 0 [] d25 fu (finS Tryz.prog [.cell 6 27] [27]) (bodyOf Tryz.f25) (initE 0 [.ref (c_T_moves_move x1) 0, .arr x2.length (lm (ik .i64) x2), .arr x3.length (lm (ik .i64) x3)]) [] []) (moves_move_one fu x1 x2 x3) e25 := by
 unfold moves_move_one e25
 have da := d25_at
 refine J.spl (fun h1 => ?_) (fun h1 => ?_)
 ·conv => arg 1; simp (disch := first | exact Zd | fail) only [bodyOf, Tryz.f25, ZZ, d25_at, simprocAttr, RL, SE, h1]
  refine J.eq go_seq ?_
  conv => arg 1; simp (disch := first | exact Zd | fail) only [ZZ, d25_at, simprocAttr, RL, SE, h1]
  refine J.eq go_seq ?_
  conv => arg 1; simp (disch := first | exact Zd | fail) only [ZZ, d25_at, simprocAttr, RL, SE, h1]
  refine J.eq ret_seq ?_
  conv => arg 1; simp (disch := first | exact Zd | fail) only [ZZ, d25_at, simprocAttr, RL, SE, h1]
  refine J.eq go_seq ?_
  conv => arg 1; simp (disch := first | exact Zd | fail) only [ZZ, d25_at, simprocAttr, RL, SE, h1]
  refine J.eq ret_seq ?_
  conv => arg 1; simp (disch := first | exact Zd | fail) only [ZZ, d25_at, simprocAttr, RL, SE, h1]
  refine J.eq go_seq ?_
  conv => arg 1; simp (disch := first | exact Zd | fail) only [ZZ, d25_at, simprocAttr, RL, SE, h1]
  refine J.eq ret_seq ?_
  refine J.bind fun x4 h2 => ?_
  have e_h2 := H55_0 _ _ _ h2
  try simp only [NN, NT, LN, simprocAttr, DT] at e_h2
  refine J.some ?_
  simp (maxSteps := 20000000) (disch := first | exact Zd | fail) only [ZZ, d25_at, simprocAttr, RL, SE, h1, e_h2, FN]
 ·refine J.chk fun h3 => ?_
  conv => arg 1; simp (disch := first | exact Zd | fail) only [bodyOf, Tryz.f25, ZZ, d25_at, simprocAttr, RL, SE, h3]
  refine J.eq go_seq ?_
  conv => arg 1; simp (disch := first | exact Zd | fail) only [ZZ, d25_at, simprocAttr, RL, SE, h3]
  refine J.eq go_seq ?_
  conv => arg 1; simp (disch := first | exact Zd | fail) only [ZZ, d25_at, simprocAttr, RL, SE, h3]
  refine J.eq ret_seq ?_
  conv => arg 1; simp (disch := first | exact Zd | fail) only [ZZ, d25_at, simprocAttr, RL, SE, h3]
  refine J.eq go_seq ?_
  conv => arg 1; simp (disch := first | exact Zd | fail) only [ZZ, d25_at, simprocAttr, RL, SE, h3]
  refine J.eq ret_seq ?_
  conv => arg 1; simp (disch := first | exact Zd | fail) only [ZZ, d25_at, simprocAttr, RL, SE, h3]
  refine J.eq go_seq ?_
  conv => arg 1; simp (disch := first | exact Zd | fail) only [ZZ, d25_at, simprocAttr, RL, SE, h3]
  refine J.eq ret_seq ?_
  refine J.bind fun x5 h4 => ?_
  have e_h4 := H55_0 _ _ _ h4
  try simp only [NN, NT, LN, simprocAttr, DT] at e_h4
  refine J.some ?_
  simp (maxSteps := 20000000) (disch := first | exact Zd | fail) only [ZZ, d25_at, simprocAttr, RL, SE, h3, e_h4, FN]
noncomputable def t25 (fu : Nat) : CallP := orE 55 (mkC (fun (t : T_moves_move × (List Int)) => ([.ref (c_T_moves_move t.1) 0, .arr t.2.length (lm (ik .i64) t.2)] : List AV)) (fun t => moves_move_depth fu t.1 t.2) e55) (noP)
theorem t25_ok (fu : Nat) : CpOK Tryz.prog (t25 fu ) := orE_ok (noP_ok) (mkC_ok (fun t b h => ok55 fu t.1 t.2  b h))
theorem ok25 (fu : Nat) (x1 : T_moves_move) (x2 : List Int) (x3 : List Int) (r) (h : moves_move_one fu x1 x2 x3 = some r) : PureOK Tryz.prog 25 [.ref (c_T_moves_move x1) 0, .arr x2.length (lm (ik .i64) x2), .arr x3.length (lm (ik .i64) x3)] (e25 r) :=
  pureS_J mixed (cp := t25 fu ) (t25_ok fu  ) noI_ok i25 (w25 _ fu x1 x2 x3  (fun a0 a1 r h => orE_hit (mkC_at (a := (a0, a1)) (by intro a b h; first | (exact rfl) | (simp only [INJ, IJ] at h; first | exact h | (simp_all [Prod.ext_iff]) )) h))) h
/-! 10: lattice/moves.Do -/
def d10 : List (Nat × List Nat) := [(0, [1, 8, 9]), (0, [25, 26, 27]), (0, [18, 19]), (0, []), (0, []), (0, []), (0, [21, 22, 23, 24, 41005000010]), (0, []), (0, []), (0, []), (0, []), (0, []), (0, [29, 30]), (0, []), (0, [31, 32]), (0, []), (0, [34, 35]), (0, []), (0, [36]), (0, []), (0, [38]), (0, []), (1008, [12, 13, 39, 40, 41, 42, 43, 44, 45, 46, 47, 48, 49]), (0, []), (0, [50]), (0, []), (11, [2, 3, 51, 52, 53, 54, 55, 56, 57, 58, 59]), (0, []), (0, [60]), (0, []), (0, [62]), (0, []), (0, [15, 63, 64, 65, 66, 67, 68, 69, 70, 71]), (0, []), (23384026197294446691298571404717660483291694666880, [5, 72, 73, 74, 75, 76, 77, 78, 79, 80, 81, 82, 83, 84, 85, 86]), (0, []), (0, []), (0, []), (0, [87, 88, 89, 90, 91, 92, 93, 94, 95]), (0, []), (0, [17]), (0, []), (0, [97, 98, 99, 100, 101]), (0, []), (0, [17, 102]), (0, []), (0, []), (0, []), (0, [0, 104]), (0, []), (0, [106, 107, 108]), (0, []), (0, [10, 14, 16, 109, 110, 111, 112, 113, 114, 115, 116])]
def d10_at := by have h := tabL d10.eq_1; simp only [AllAt, Nat.zero_add, Nat.reduceAdd] at h; exact h
theorem i10 : finfo Tryz.prog 10 d10 = some ⟨bodyOf Tryz.f10, [.tmp 8, .tmp 9], [29, 30]⟩ := finfo_at Tryz.func10 rfl (by kernel_rfl) (by kernel_rfl)
def e10 : ((List T_Tensor) × Int) → AV := fun r => .tuple [.arr r.1.length (fm c_T_Tensor r.1), .v (.int .i64 r.2)]
set_option maxHeartbeats 400000000 in
theorem w10 (cp : CallP) (fu : Nat) (x1 : Int) (x2 : T_Setting) (x3 : List T_Tensor) (x4 : Int) (H17_0 : ∀ (a0 : Int) r, moves_Has fu a0 = some r → cp 17 [.v (.int .i64 a0)] = some (.v (.bool r))) (H18_0 : ∀ (a0 : T_Tensor) r, tens_Check fu a0 = some r → cp 18 [.agg (c_T_Tensor a0)] = some (.v (.int .i64 r))) (H19_0 : ∀ (a0 : T_Tensor) r, tens_Canon fu a0 = some r → cp 19 [.agg (c_T_Tensor a0)] = some (.agg [.v (.int .i64 r.fType), .fresh 1 r.fDims.length (lm (ik .i64) r.fDims), .fresh 1 r.fF.length (lm (ik .u32) r.fF), .fresh 1 r.fI.length (lm (ik .i64) r.fI), .fresh 1 r.fB.length (lm (bk) r.fB)])) (H21_0 : ∀ (a0 : List T_Tensor) r, ewise_Vals fu a0 = some r → cp 21 [.arr a0.length (fm c_T_Tensor a0)] = some (.arr r.length (fm c_T_Val r))) (H20_0 : ∀ (a0 : Int) (a1 : T_Setting) (a2 : List T_Val) (a3 : Int) r, infer_Node fu a0 a1 a2 a3 = some r → cp 20 [.v (.int .i64 a0), .agg (c_T_Setting a1), .arr a2.length (fm c_T_Val a2), .v (.int .i64 a3)] = some (.tuple [.arr r.1.length (fm c_T_Val r.1), .v (.int .i64 r.2)])) (H22_0 : ∀ (a0 : Int) (a1 : Int) r, shape_Axis fu a0 a1 = some r → cp 22 [.v (.int .i64 a0), .v (.int .i64 a1)] = some (.tuple [.v (.int .i64 r.1), .v (.int .i64 r.2)])) (H25_0 : ∀ (a0 : T_moves_move) (a1 : List Int) (a2 : List Int) r, moves_move_one fu a0 a1 a2 = some r → cp 25 [.ref (c_T_moves_move a0) 0, .arr a1.length (lm (ik .i64) a1), .arr a2.length (lm (ik .i64) a2)] = some (.agg [.v (.int .i64 r.fType), .arr r.fDims.length (lm (ik .i64) r.fDims), .arr r.fF.length (lm (ik .u32) r.fF), .arr r.fI.length (lm (ik .i64) r.fI), .arr r.fB.length (lm (bk) r.fB)])) : J (go Tryz.prog noC cp noI 0 [] d10 fu (finS Tryz.prog [.tmp 8, .tmp 9] [29, 30]) (bodyOf Tryz.f10) (initE 0 [.v (.int .i64 x1), .agg (c_T_Setting x2), .arr x3.length (fm c_T_Tensor x3), .v (.int .i64 x4)]) [] []) (moves_Do fu x1 x2 x3 x4) e10 := by
 unfold moves_Do e10
 have da := d10_at
 refine J.spl (fun h1 => ?_) (fun h1 => ?_)
 ·conv => arg 1; simp (maxSteps := 4000000) (disch := first | exact Zd | fail) only [bodyOf, Tryz.f10, ZZ, d10_at, simprocAttr, RL, SE, h1]
  refine J.eq go_seq ?_
  refine J.bind fun x5 h2 => ?_
  have e_h2 := H17_0 _ _ h2
  try simp only [NN, NT, LN, simprocAttr, DT] at e_h2
  conv => arg 1; simp (maxSteps := 4000000) (disch := first | exact Zd | fail) only [ZZ, d10_at, simprocAttr, RL, SE, h1, e_h2]
  refine J.ite (fun h3 => ?_) (fun h3 => ?_)
  ·have h3' : x5 = true := h3
   conv => arg 1; simp (maxSteps := 4000000) (disch := first | exact Zd | fail) only [ZZ, d10_at, simprocAttr, RL, SE, h1, e_h2, h3']
   refine J.eq ret_seq ?_
   conv => arg 1; simp (maxSteps := 4000000) (disch := first | exact Zd | fail) only [ZZ, d10_at, simprocAttr, RL, SE, h1, e_h2, h3']
   refine J.joinS (fun (t : List T_Tensor) => ([(0, .v (.int .i64 63)), (2, .arr x3.length (fm c_T_Tensor x3)), (3, .v (.int .i64 x4)), (5, .ptr (0, 5, 0) 0 0), (10, .ptr (0, 24, 0) 0 0)], [((0, 5, 0), .bx true ([.v (.int .i64 x2.fAxis), .arr x2.fAxes.length (lm (ik .i64) x2.fAxes), .v (.bool x2.fHasAxes), .v (.bool x2.fKeep), .v (.bool x2.fNoop), .v (.bool x2.fLast), .v (.bool x2.fZero), .arr x2.fPerm.length (lm (ik .i64) x2.fPerm), .v (.bool x2.fHasPerm), .v (.int .u32 x2.fAlpha), .v (.int .u32 x2.fBeta), .v (.int .u32 x2.fEpsilon), .v (.bool x2.fLow), .v (.bool x2.fHigh), .v (.bool x2.fFmod), .v (.int .i64 x2.fTo), .v (.int .i64 x2.fMode), .v (.bool x2.fTransA), .v (.bool x2.fTransB), .v (.int .i64 x2.fGroup), .arr x2.fKernel.length (lm (ik .i64) x2.fKernel), .arr x2.fStrides.length (lm (ik .i64) x2.fStrides), .arr x2.fPads.length (lm (ik .i64) x2.fPads), .arr x2.fDilations.length (lm (ik .i64) x2.fDilations), .v (.int .i64 x2.fAuto), .v (.bool x2.fCeil), .v (.bool x2.fCount), .v (.int .i64 x2.fBlock), .v (.int .i64 x2.fStart), .v (.int .i64 x2.fEnd), .v (.bool x2.fHasEnd), .v (.int .i64 x2.fValue.fType), .arr x2.fValue.fDims.length (lm (ik .i64) x2.fValue.fDims), .arr x2.fValue.fF.length (lm (ik .u32) x2.fValue.fF), .arr x2.fValue.fI.length (lm (ik .i64) x2.fValue.fI), .arr x2.fValue.fB.length (lm (bk) x2.fValue.fB)])), ((0, 24, 0), .bx true ([.v (.int .i64 63), .v (.int .i64 x2.fAxis), .arr x2.fAxes.length (lm (ik .i64) x2.fAxes), .v (.bool x2.fHasAxes), .v (.bool x2.fKeep), .v (.bool x2.fNoop), .v (.bool x2.fLast), .v (.bool x2.fZero), .arr x2.fPerm.length (lm (ik .i64) x2.fPerm), .v (.bool x2.fHasPerm), .v (.int .u32 x2.fAlpha), .v (.int .u32 x2.fBeta), .v (.int .u32 x2.fEpsilon), .v (.bool x2.fLow), .v (.bool x2.fHigh), .v (.bool x2.fFmod), .v (.int .i64 x2.fTo), .v (.int .i64 x2.fMode), .v (.bool x2.fTransA), .v (.bool x2.fTransB), .v (.int .i64 x2.fGroup), .arr x2.fKernel.length (lm (ik .i64) x2.fKernel), .arr x2.fStrides.length (lm (ik .i64) x2.fStrides), .arr x2.fPads.length (lm (ik .i64) x2.fPads), .arr x2.fDilations.length (lm (ik .i64) x2.fDilations), .v (.int .i64 x2.fAuto), .v (.bool x2.fCeil), .v (.bool x2.fCount), .v (.int .i64 x2.fBlock), .v (.int .i64 x2.fStart), .v (.int .i64 x2.fEnd), .v (.bool x2.fHasEnd), .v (.int .i64 x2.fValue.fType), .arr x2.fValue.fDims.length (lm (ik .i64) x2.fValue.fDims), .arr x2.fValue.fF.length (lm (ik .u32) x2.fValue.fF), .arr x2.fValue.fI.length (lm (ik .i64) x2.fValue.fI), .arr x2.fValue.fB.length (lm (bk) x2.fValue.fB), .own (0, 10, 115) 0 t.length t.length, .v (.int .i64 0), .v (.slice none 0 0), .v (.slice none 0 0), .v (.slice none 0 0), .v (.slice none 0 0), .v (.int .i64 0)])), ((0, 10, 115), .sl true true 5 t.length (fm c_T_Tensor t))])) (fun t => moves_Do.k1 fu x2 x3 x4 t) ?_ (fun hj1 => ?_)
   ·rintro x6
    show J _ (moves_Do.k1 fu x2 x3 x4 x6) _
    unfold moves_Do.k1
    refine J.bind fun x7 h4 => ?_
    have e_h4 := H21_0 _ _ h4
    try simp only [NN, NT, LN, simprocAttr, DT] at e_h4
    refine J.bind fun x8 h5 => ?_
    have e_h5 := H20_0 _ _ _ _ _ h5
    try simp only [NN, NT, LN, simprocAttr, DT] at e_h5
    conv => arg 1; simp (maxSteps := 4000000) (disch := first | exact Zd | fail) only [ZZ, d10_at, simprocAttr, RL, SE, h1, e_h2, h3', e_h4, e_h5]
    refine J.eq go_seq ?_
    conv => arg 1; simp (maxSteps := 4000000) (disch := first | exact Zd | fail) only [ZZ, d10_at, simprocAttr, RL, SE, h1, e_h2, h3', e_h4, e_h5]
    refine J.ite (fun h6 => ?_) (fun h6 => ?_)
    ·have h6' := decide_eq_true h6
     conv => arg 1; simp (maxSteps := 4000000) (disch := first | exact Zd | fail) only [ZZ, d10_at, simprocAttr, RL, SE, h1, e_h2, h3', e_h4, e_h5, h6']
     refine J.eq ret_seq ?_
     refine J.at fun x9 h7 h8 h9 => ?_
     replace h9 : x6[0]? = some x9 := h9
     have h9k := fm_cut c_T_Tensor_len h9
     have h9f := fm_fit c_T_Tensor_len h9
     have h9a0 := fm_at (j := 0) c_T_Tensor_len h9 (by decide)
     have h9a1 := fm_at (j := 1) c_T_Tensor_len h9 (by decide)
     have h9a2 := fm_at (j := 2) c_T_Tensor_len h9 (by decide)
     have h9a3 := fm_at (j := 3) c_T_Tensor_len h9 (by decide)
     have h9a4 := fm_at (j := 4) c_T_Tensor_len h9 (by decide)
     simp only [simprocAttr, Nat.zero_mul, Nat.zero_add, Nat.add_zero, List.drop_zero] at h9k h9f h9a0 h9a1 h9a2 h9a3 h9a4
     refine J.bind fun x10 h10 => ?_
     have e_h10 := H22_0 _ _ _ h10
     try simp only [NN, NT, LN, simprocAttr, DT] at e_h10
     conv => arg 1; simp (maxSteps := 4000000) (disch := first | exact Zd | fail) only [ZZ, d10_at, simprocAttr, RL, SE, h1, e_h2, h3', e_h4, e_h5, h6', h9k, h9f, h9a0, h9a1, h9a2, h9a3, h9a4, e_h10]
     refine J.joinS (fun (t : Unit) => ([(0, .v (.int .i64 63)), (10, .ptr (0, 24, 0) 0 0), (14, .arr x8.1.length (fm c_T_Val x8.1)), (16, .v (.slice none 0 0))], [((0, 24, 0), .bx true ([.v (.int .i64 63), .v (.int .i64 x2.fAxis), .arr x2.fAxes.length (lm (ik .i64) x2.fAxes), .v (.bool x2.fHasAxes), .v (.bool x2.fKeep), .v (.bool x2.fNoop), .v (.bool x2.fLast), .v (.bool x2.fZero), .arr x2.fPerm.length (lm (ik .i64) x2.fPerm), .v (.bool x2.fHasPerm), .v (.int .u32 x2.fAlpha), .v (.int .u32 x2.fBeta), .v (.int .u32 x2.fEpsilon), .v (.bool x2.fLow), .v (.bool x2.fHigh), .v (.bool x2.fFmod), .v (.int .i64 x2.fTo), .v (.int .i64 x2.fMode), .v (.bool x2.fTransA), .v (.bool x2.fTransB), .v (.int .i64 x2.fGroup), .arr x2.fKernel.length (lm (ik .i64) x2.fKernel), .arr x2.fStrides.length (lm (ik .i64) x2.fStrides), .arr x2.fPads.length (lm (ik .i64) x2.fPads), .arr x2.fDilations.length (lm (ik .i64) x2.fDilations), .v (.int .i64 x2.fAuto), .v (.bool x2.fCeil), .v (.bool x2.fCount), .v (.int .i64 x2.fBlock), .v (.int .i64 x2.fStart), .v (.int .i64 x2.fEnd), .v (.bool x2.fHasEnd), .v (.int .i64 x2.fValue.fType), .arr x2.fValue.fDims.length (lm (ik .i64) x2.fValue.fDims), .arr x2.fValue.fF.length (lm (ik .u32) x2.fValue.fF), .arr x2.fValue.fI.length (lm (ik .i64) x2.fValue.fI), .arr x2.fValue.fB.length (lm (bk) x2.fValue.fB), .own (0, 10, 115) 0 x6.length x6.length, .v (.int .i64 x9.fType), .arr x9.fDims.length (lm (ik .i64) x9.fDims), .arr x9.fF.length (lm (ik .u32) x9.fF), .arr x9.fI.length (lm (ik .i64) x9.fI), .arr x9.fB.length (lm (bk) x9.fB), .v (.int .i64 x10.1)])), ((0, 10, 115), .sl true true 5 x6.length (fm c_T_Tensor x6))])) (fun t => moves_Do.k2 fu x2 x6 x8 x9 x10) ?_ (fun hj2 => ?_)
     ·rintro ⟨⟩
      show J _ (moves_Do.k2 fu x2 x6 x8 x9 x10) _
      unfold moves_Do.k2
      refine J.eq go_seq ?_
      conv => arg 1; simp (maxSteps := 4000000) (disch := first | exact Zd | fail) only [ZZ, d10_at, simprocAttr, RL, SE, h1, e_h2, h3', e_h4, e_h5, h6', h9k, h9f, h9a0, h9a1, h9a2, h9a3, h9a4, e_h10]
      refine J.eq ret_seq ?_
      refine J.at fun x11 h11 h12 h13 => ?_
      replace h13 : x8.1[0]? = some x11 := h13
      have h13k := fm_cut c_T_Val_len h13
      have h13f := fm_fit c_T_Val_len h13
      have h13a0 := fm_at (j := 0) c_T_Val_len h13 (by decide)
      have h13a1 := fm_at (j := 1) c_T_Val_len h13 (by decide)
      have h13a2 := fm_at (j := 2) c_T_Val_len h13 (by decide)
      have h13a3 := fm_at (j := 3) c_T_Val_len h13 (by decide)
      have h13a4 := fm_at (j := 4) c_T_Val_len h13 (by decide)
      have h13a5 := fm_at (j := 5) c_T_Val_len h13 (by decide)
      have h13a6 := fm_at (j := 6) c_T_Val_len h13 (by decide)
      have h13a7 := fm_at (j := 7) c_T_Val_len h13 (by decide)
      simp only [simprocAttr, Nat.zero_mul, Nat.zero_add, Nat.add_zero, List.drop_zero] at h13k h13f h13a0 h13a1 h13a2 h13a3 h13a4 h13a5 h13a6 h13a7
      refine J.bind fun x12 h14 => ?_
      have e_h14 := H25_0 _ _ _ _ h14
      try simp only [NN, NT, LN, simprocAttr, DT] at e_h14
      refine J.some ?_
      simp (maxSteps := 20000000) (disch := first | exact Zd | fail) only [ZZ, d10_at, simprocAttr, RL, SE, h1, e_h2, h3', e_h4, e_h5, h6', h9k, h9f, h9a0, h9a1, h9a2, h9a3, h9a4, e_h10, h13k, h13f, h13a0, h13a1, h13a2, h13a3, h13a4, h13a5, h13a6, h13a7, e_h14, FN]
     ·refine J.hd jn_at ?_
      refine J.eq go_seq ?_
      conv => arg 1; simp (maxSteps := 4000000) (disch := first | exact Zd | fail) only [ZZ, d10_at, simprocAttr, RL, SE, h1, e_h2, h3', e_h4, e_h5, h6', h9k, h9f, h9a0, h9a1, h9a2, h9a3, h9a4, e_h10]
      refine J.eq ret_seq ?_
      conv => arg 1; simp (maxSteps := 4000000) (disch := first | exact Zd | fail) only [ZZ, d10_at, simprocAttr, RL, SE, h1, e_h2, h3', e_h4, e_h5, h6', h9k, h9f, h9a0, h9a1, h9a2, h9a3, h9a4, e_h10]
      refine J.jmp (t := ()) hj2 ?_ ?_
      ·exact Ze
      ·exact Zh
    ·have h6' := decide_eq_false h6
     refine J.some ?_
     simp (maxSteps := 20000000) (disch := first | exact Zd | fail) only [ZZ, d10_at, simprocAttr, RL, SE, h1, e_h2, h3', e_h4, e_h5, h6', FN]
   ·refine J.hd jn_at ?_
    conv => arg 1; simp (maxSteps := 4000000) (disch := first | exact Zd | fail) only [ZZ, d10_at, simprocAttr, RL, SE, h1, e_h2, h3']
    unfold moves_Do.W1
    refine J.loop (fun (s : (List T_Tensor) × Int) => ([(0, .v (.int .i64 63)), (2, .arr x3.length (fm c_T_Tensor x3)), (3, .v (.int .i64 x4)), (5, .ptr (0, 5, 0) 0 0), (10, .ptr (0, 24, 0) 0 0), (25, .arr x3.length (fm c_T_Tensor x3)), (26, .v (.int .i64 (x3.length : Int))), (27, .v (.int .i64 s.2))], [((0, 5, 0), .bx true ([.v (.int .i64 x2.fAxis), .arr x2.fAxes.length (lm (ik .i64) x2.fAxes), .v (.bool x2.fHasAxes), .v (.bool x2.fKeep), .v (.bool x2.fNoop), .v (.bool x2.fLast), .v (.bool x2.fZero), .arr x2.fPerm.length (lm (ik .i64) x2.fPerm), .v (.bool x2.fHasPerm), .v (.int .u32 x2.fAlpha), .v (.int .u32 x2.fBeta), .v (.int .u32 x2.fEpsilon), .v (.bool x2.fLow), .v (.bool x2.fHigh), .v (.bool x2.fFmod), .v (.int .i64 x2.fTo), .v (.int .i64 x2.fMode), .v (.bool x2.fTransA), .v (.bool x2.fTransB), .v (.int .i64 x2.fGroup), .arr x2.fKernel.length (lm (ik .i64) x2.fKernel), .arr x2.fStrides.length (lm (ik .i64) x2.fStrides), .arr x2.fPads.length (lm (ik .i64) x2.fPads), .arr x2.fDilations.length (lm (ik .i64) x2.fDilations), .v (.int .i64 x2.fAuto), .v (.bool x2.fCeil), .v (.bool x2.fCount), .v (.int .i64 x2.fBlock), .v (.int .i64 x2.fStart), .v (.int .i64 x2.fEnd), .v (.bool x2.fHasEnd), .v (.int .i64 x2.fValue.fType), .arr x2.fValue.fDims.length (lm (ik .i64) x2.fValue.fDims), .arr x2.fValue.fF.length (lm (ik .u32) x2.fValue.fF), .arr x2.fValue.fI.length (lm (ik .i64) x2.fValue.fI), .arr x2.fValue.fB.length (lm (bk) x2.fValue.fB)])), ((0, 24, 0), .bx true ([.v (.int .i64 63), .v (.int .i64 x2.fAxis), .arr x2.fAxes.length (lm (ik .i64) x2.fAxes), .v (.bool x2.fHasAxes), .v (.bool x2.fKeep), .v (.bool x2.fNoop), .v (.bool x2.fLast), .v (.bool x2.fZero), .arr x2.fPerm.length (lm (ik .i64) x2.fPerm), .v (.bool x2.fHasPerm), .v (.int .u32 x2.fAlpha), .v (.int .u32 x2.fBeta), .v (.int .u32 x2.fEpsilon), .v (.bool x2.fLow), .v (.bool x2.fHigh), .v (.bool x2.fFmod), .v (.int .i64 x2.fTo), .v (.int .i64 x2.fMode), .v (.bool x2.fTransA), .v (.bool x2.fTransB), .v (.int .i64 x2.fGroup), .arr x2.fKernel.length (lm (ik .i64) x2.fKernel), .arr x2.fStrides.length (lm (ik .i64) x2.fStrides), .arr x2.fPads.length (lm (ik .i64) x2.fPads), .arr x2.fDilations.length (lm (ik .i64) x2.fDilations), .v (.int .i64 x2.fAuto), .v (.bool x2.fCeil), .v (.bool x2.fCount), .v (.int .i64 x2.fBlock), .v (.int .i64 x2.fStart), .v (.int .i64 x2.fEnd), .v (.bool x2.fHasEnd), .v (.int .i64 x2.fValue.fType), .arr x2.fValue.fDims.length (lm (ik .i64) x2.fValue.fDims), .arr x2.fValue.fF.length (lm (ik .u32) x2.fValue.fF), .arr x2.fValue.fI.length (lm (ik .i64) x2.fValue.fI), .arr x2.fValue.fB.length (lm (bk) x2.fValue.fB), .own (0, 10, 115) 0 s.1.length s.1.length, .v (.int .i64 0), .v (.slice none 0 0), .v (.slice none 0 0), .v (.slice none 0 0), .v (.slice none 0 0), .v (.int .i64 0)])), ((0, 10, 115), .sl true true 5 s.1.length (fm c_T_Tensor s.1))])) (fun next s => moves_Do.L1 fu x2 x3 x4 (fun x17 x18 => next (x17, x18)) s.1 s.2) (s0 := (([] : List T_Tensor), 0)) ?_ ?_ ?_
    ·exact Ze
    ·exact Zh
    rintro next k1 hn1 ⟨x17, x18⟩
    let nx1 : (List T_Tensor) → Int → Option ((List T_Tensor) × Int) := (fun x17 x18 => next (x17, x18))
    show J _ (moves_Do.L1 fu x2 x3 x4 nx1 x17 x18) _
    unfold moves_Do.L1
    conv => arg 1; simp (maxSteps := 4000000) (disch := first | exact Zd | fail) only [ZZ, d10_at, simprocAttr, RL, SE, h1, e_h2, h3']
    refine J.eq go_seq ?_
    conv => arg 1; simp (maxSteps := 4000000) (disch := first | exact Zd | fail) only [ZZ, d10_at, simprocAttr, RL, SE, h1, e_h2, h3']
    refine J.ite (fun h15 => ?_) (fun h15 => ?_)
    ·have h15' := decide_eq_true h15
     have h15'' : decide ((x3.length : Int) ≤ x18) = false := decide_eq_false (by omega)
     conv => arg 1; simp (maxSteps := 4000000) (disch := first | exact Zd | fail) only [ZZ, d10_at, simprocAttr, RL, SE, h1, e_h2, h3', h15'', h15']
     refine J.eq ret_seq ?_
     refine J.eq go_seq ?_
     refine J.at fun x23 h16 h17 h18 => ?_
     conv => arg 1; simp (maxSteps := 4000000) (disch := first | exact Zd | fail) only [ZZ, d10_at, simprocAttr, RL, SE, h1, e_h2, h3', h15'', h15', fm_cut c_T_Tensor_len h18, fm_fit c_T_Tensor_len h18, fm_at c_T_Tensor_len h18, fm_at0 c_T_Tensor_len h18]
     refine J.eq go_seq ?_
     conv => arg 1; simp (maxSteps := 4000000) (disch := first | exact Zd | fail) only [ZZ, d10_at, simprocAttr, RL, SE, h1, e_h2, h3', h15'', h15', fm_cut c_T_Tensor_len h18, fm_fit c_T_Tensor_len h18, fm_at c_T_Tensor_len h18, fm_at0 c_T_Tensor_len h18]
     refine J.ite (fun h19 => ?_) (fun h19 => ?_)
     ·have h19' := decide_eq_true h19
      conv => arg 1; simp (maxSteps := 4000000) (disch := first | exact Zd | fail) only [ZZ, d10_at, simprocAttr, RL, SE, h1, e_h2, h3', h15'', h15', fm_cut c_T_Tensor_len h18, fm_fit c_T_Tensor_len h18, fm_at c_T_Tensor_len h18, fm_at0 c_T_Tensor_len h18, h19']
      refine J.eq ret_seq ?_
      refine J.bind fun x24 h20 => ?_
      have e_h20 := H19_0 _ _ h20
      try simp only [NN, NT, LN, simprocAttr, DT] at e_h20
      refine J.chk fun h21 => ?_
      conv => arg 1; simp (maxSteps := 4000000) (disch := first | exact Zd | fail) only [ZZ, d10_at, simprocAttr, RL, SE, h1, e_h2, h3', h15'', h15', fm_cut c_T_Tensor_len h18, fm_fit c_T_Tensor_len h18, fm_at c_T_Tensor_len h18, fm_at0 c_T_Tensor_len h18, h19', e_h20]
      refine J.eq ret_seq ?_
      conv => arg 1; simp (maxSteps := 4000000) (disch := first | exact Zd | fail) only [ZZ, d10_at, simprocAttr, RL, SE, h1, e_h2, h3', h15'', h15', fm_cut c_T_Tensor_len h18, fm_fit c_T_Tensor_len h18, fm_at c_T_Tensor_len h18, fm_at0 c_T_Tensor_len h18, h19', e_h20]
      refine J.next (s := (x17 ++ ([x24]), wk .i64 (x18 + 1))) hn1 ?_ ?_
      ·exact Ze
      ·exact Zh
     ·have h19' := decide_eq_false h19
      refine J.bind fun x25 h22 => ?_
      have e_h22 := H18_0 _ _ h22
      try simp only [NN, NT, LN, simprocAttr, DT] at e_h22
      conv => arg 1; simp (maxSteps := 4000000) (disch := first | exact Zd | fail) only [ZZ, d10_at, simprocAttr, RL, SE, h1, e_h2, h3', h15'', h15', fm_cut c_T_Tensor_len h18, fm_fit c_T_Tensor_len h18, fm_at c_T_Tensor_len h18, fm_at0 c_T_Tensor_len h18, h19', e_h22]
      refine J.ite (fun h23 => ?_) (fun h23 => ?_)
      ·have h23' := decide_eq_true h23
       conv => arg 1; simp (maxSteps := 4000000) (disch := first | exact Zd | fail) only [ZZ, d10_at, simprocAttr, RL, SE, h1, e_h2, h3', h15'', h15', fm_cut c_T_Tensor_len h18, fm_fit c_T_Tensor_len h18, fm_at c_T_Tensor_len h18, fm_at0 c_T_Tensor_len h18, h19', e_h22, h23']
       refine J.eq ret_seq ?_
       refine J.bind fun x26 h24 => ?_
       have e_h24 := H19_0 _ _ h24
       try simp only [NN, NT, LN, simprocAttr, DT] at e_h24
       refine J.chk fun h25 => ?_
       conv => arg 1; simp (maxSteps := 4000000) (disch := first | exact Zd | fail) only [ZZ, d10_at, simprocAttr, RL, SE, h1, e_h2, h3', h15'', h15', fm_cut c_T_Tensor_len h18, fm_fit c_T_Tensor_len h18, fm_at c_T_Tensor_len h18, fm_at0 c_T_Tensor_len h18, h19', e_h22, h23', e_h24]
       refine J.eq ret_seq ?_
       conv => arg 1; simp (maxSteps := 4000000) (disch := first | exact Zd | fail) only [ZZ, d10_at, simprocAttr, RL, SE, h1, e_h2, h3', h15'', h15', fm_cut c_T_Tensor_len h18, fm_fit c_T_Tensor_len h18, fm_at c_T_Tensor_len h18, fm_at0 c_T_Tensor_len h18, h19', e_h22, h23', e_h24]
       refine J.next (s := (x17 ++ ([x26]), wk .i64 (x18 + 1))) hn1 ?_ ?_
       ·exact Ze
       ·exact Zh
      ·have h23' := decide_eq_false h23
       refine J.some ?_
       simp (maxSteps := 20000000) (disch := first | exact Zd | fail) only [ZZ, d10_at, simprocAttr, RL, SE, h1, e_h2, h3', h15'', h15', fm_cut c_T_Tensor_len h18, fm_fit c_T_Tensor_len h18, fm_at c_T_Tensor_len h18, fm_at0 c_T_Tensor_len h18, h19', e_h22, h23', FN]
    ·have h15' := decide_eq_false h15
     have h15'' : decide ((x3.length : Int) ≤ x18) = true := decide_eq_true (by omega)
     conv => arg 1; simp (maxSteps := 4000000) (disch := first | exact Zd | fail) only [ZZ, d10_at, simprocAttr, RL, SE, h1, e_h2, h3', h15'', h15']
     refine J.jmp (t := x17) hj1 ?_ ?_
     ·exact Ze
     ·exact Zh
  ·have h3' : x5 = false := Bool.eq_false_iff.2 h3
   refine J.some ?_
   simp (maxSteps := 20000000) (disch := first | exact Zd | fail) only [ZZ, d10_at, simprocAttr, RL, SE, h1, e_h2, h3', FN]
 ·refine J.chk fun h26 => ?_
  conv => arg 1; simp (maxSteps := 4000000) (disch := first | exact Zd | fail) only [bodyOf, Tryz.f10, ZZ, d10_at, simprocAttr, RL, SE, h26]
  refine J.eq go_seq ?_
  refine J.bind fun x27 h27 => ?_
  have e_h27 := H17_0 _ _ h27
  try simp only [NN, NT, LN, simprocAttr, DT] at e_h27
  conv => arg 1; simp (maxSteps := 4000000) (disch := first | exact Zd | fail) only [ZZ, d10_at, simprocAttr, RL, SE, h26, e_h27]
  refine J.ite (fun h28 => ?_) (fun h28 => ?_)
  ·have h28' : x27 = true := h28
   conv => arg 1; simp (maxSteps := 4000000) (disch := first | exact Zd | fail) only [ZZ, d10_at, simprocAttr, RL, SE, h26, e_h27, h28']
   refine J.eq ret_seq ?_
   conv => arg 1; simp (maxSteps := 4000000) (disch := first | exact Zd | fail) only [ZZ, d10_at, simprocAttr, RL, SE, h26, e_h27, h28']
   refine J.joinS (fun (t : List T_Tensor) => ([(0, .v (.int .i64 64)), (2, .arr x3.length (fm c_T_Tensor x3)), (3, .v (.int .i64 x4)), (5, .ptr (0, 5, 0) 0 0), (10, .ptr (0, 24, 0) 0 0)], [((0, 5, 0), .bx true ([.v (.int .i64 x2.fAxis), .arr x2.fAxes.length (lm (ik .i64) x2.fAxes), .v (.bool x2.fHasAxes), .v (.bool x2.fKeep), .v (.bool x2.fNoop), .v (.bool x2.fLast), .v (.bool x2.fZero), .arr x2.fPerm.length (lm (ik .i64) x2.fPerm), .v (.bool x2.fHasPerm), .v (.int .u32 x2.fAlpha), .v (.int .u32 x2.fBeta), .v (.int .u32 x2.fEpsilon), .v (.bool x2.fLow), .v (.bool x2.fHigh), .v (.bool x2.fFmod), .v (.int .i64 x2.fTo), .v (.int .i64 x2.fMode), .v (.bool x2.fTransA), .v (.bool x2.fTransB), .v (.int .i64 x2.fGroup), .arr x2.fKernel.length (lm (ik .i64) x2.fKernel), .arr x2.fStrides.length (lm (ik .i64) x2.fStrides), .arr x2.fPads.length (lm (ik .i64) x2.fPads), .arr x2.fDilations.length (lm (ik .i64) x2.fDilations), .v (.int .i64 x2.fAuto), .v (.bool x2.fCeil), .v (.bool x2.fCount), .v (.int .i64 x2.fBlock), .v (.int .i64 x2.fStart), .v (.int .i64 x2.fEnd), .v (.bool x2.fHasEnd), .v (.int .i64 x2.fValue.fType), .arr x2.fValue.fDims.length (lm (ik .i64) x2.fValue.fDims), .arr x2.fValue.fF.length (lm (ik .u32) x2.fValue.fF), .arr x2.fValue.fI.length (lm (ik .i64) x2.fValue.fI), .arr x2.fValue.fB.length (lm (bk) x2.fValue.fB)])), ((0, 24, 0), .bx true ([.v (.int .i64 64), .v (.int .i64 x2.fAxis), .arr x2.fAxes.length (lm (ik .i64) x2.fAxes), .v (.bool x2.fHasAxes), .v (.bool x2.fKeep), .v (.bool x2.fNoop), .v (.bool x2.fLast), .v (.bool x2.fZero), .arr x2.fPerm.length (lm (ik .i64) x2.fPerm), .v (.bool x2.fHasPerm), .v (.int .u32 x2.fAlpha), .v (.int .u32 x2.fBeta), .v (.int .u32 x2.fEpsilon), .v (.bool x2.fLow), .v (.bool x2.fHigh), .v (.bool x2.fFmod), .v (.int .i64 x2.fTo), .v (.int .i64 x2.fMode), .v (.bool x2.fTransA), .v (.bool x2.fTransB), .v (.int .i64 x2.fGroup), .arr x2.fKernel.length (lm (ik .i64) x2.fKernel), .arr x2.fStrides.length (lm (ik .i64) x2.fStrides), .arr x2.fPads.length (lm (ik .i64) x2.fPads), .arr x2.fDilations.length (lm (ik .i64) x2.fDilations), .v (.int .i64 x2.fAuto), .v (.bool x2.fCeil), .v (.bool x2.fCount), .v (.int .i64 x2.fBlock), .v (.int .i64 x2.fStart), .v (.int .i64 x2.fEnd), .v (.bool x2.fHasEnd), .v (.int .i64 x2.fValue.fType), .arr x2.fValue.fDims.length (lm (ik .i64) x2.fValue.fDims), .arr x2.fValue.fF.length (lm (ik .u32) x2.fValue.fF), .arr x2.fValue.fI.length (lm (ik .i64) x2.fValue.fI), .arr x2.fValue.fB.length (lm (bk) x2.fValue.fB), .own (0, 10, 115) 0 t.length t.length, .v (.int .i64 0), .v (.slice none 0 0), .v (.slice none 0 0), .v (.slice none 0 0), .v (.slice none 0 0), .v (.int .i64 0)])), ((0, 10, 115), .sl true true 5 t.length (fm c_T_Tensor t))])) (fun t => moves_Do.k3 fu x2 x3 x4 t) ?_ (fun hj3 => ?_)
   ·rintro x28
    show J _ (moves_Do.k3 fu x2 x3 x4 x28) _
    unfold moves_Do.k3
    refine J.bind fun x29 h29 => ?_
    have e_h29 := H21_0 _ _ h29
    try simp only [NN, NT, LN, simprocAttr, DT] at e_h29
    refine J.bind fun x30 h30 => ?_
    have e_h30 := H20_0 _ _ _ _ _ h30
    try simp only [NN, NT, LN, simprocAttr, DT] at e_h30
    conv => arg 1; simp (maxSteps := 4000000) (disch := first | exact Zd | fail) only [ZZ, d10_at, simprocAttr, RL, SE, h26, e_h27, h28', e_h29, e_h30]
    refine J.eq go_seq ?_
    conv => arg 1; simp (maxSteps := 4000000) (disch := first | exact Zd | fail) only [ZZ, d10_at, simprocAttr, RL, SE, h26, e_h27, h28', e_h29, e_h30]
    refine J.ite (fun h31 => ?_) (fun h31 => ?_)
    ·have h31' := decide_eq_true h31
     conv => arg 1; simp (maxSteps := 4000000) (disch := first | exact Zd | fail) only [ZZ, d10_at, simprocAttr, RL, SE, h26, e_h27, h28', e_h29, e_h30, h31']
     refine J.eq ret_seq ?_
     refine J.at fun x31 h32 h33 h34 => ?_
     replace h34 : x28[0]? = some x31 := h34
     have h34k := fm_cut c_T_Tensor_len h34
     have h34f := fm_fit c_T_Tensor_len h34
     have h34a0 := fm_at (j := 0) c_T_Tensor_len h34 (by decide)
     have h34a1 := fm_at (j := 1) c_T_Tensor_len h34 (by decide)
     have h34a2 := fm_at (j := 2) c_T_Tensor_len h34 (by decide)
     have h34a3 := fm_at (j := 3) c_T_Tensor_len h34 (by decide)
     have h34a4 := fm_at (j := 4) c_T_Tensor_len h34 (by decide)
     simp only [simprocAttr, Nat.zero_mul, Nat.zero_add, Nat.add_zero, List.drop_zero] at h34k h34f h34a0 h34a1 h34a2 h34a3 h34a4
     refine J.bind fun x32 h35 => ?_
     have e_h35 := H22_0 _ _ _ h35
     try simp only [NN, NT, LN, simprocAttr, DT] at e_h35
     conv => arg 1; simp (maxSteps := 4000000) (disch := first | exact Zd | fail) only [ZZ, d10_at, simprocAttr, RL, SE, h26, e_h27, h28', e_h29, e_h30, h31', h34k, h34f, h34a0, h34a1, h34a2, h34a3, h34a4, e_h35]
     refine J.joinS (fun (t : Unit) => ([(0, .v (.int .i64 64)), (10, .ptr (0, 24, 0) 0 0), (14, .arr x30.1.length (fm c_T_Val x30.1)), (16, .v (.slice none 0 0))], [((0, 24, 0), .bx true ([.v (.int .i64 64), .v (.int .i64 x2.fAxis), .arr x2.fAxes.length (lm (ik .i64) x2.fAxes), .v (.bool x2.fHasAxes), .v (.bool x2.fKeep), .v (.bool x2.fNoop), .v (.bool x2.fLast), .v (.bool x2.fZero), .arr x2.fPerm.length (lm (ik .i64) x2.fPerm), .v (.bool x2.fHasPerm), .v (.int .u32 x2.fAlpha), .v (.int .u32 x2.fBeta), .v (.int .u32 x2.fEpsilon), .v (.bool x2.fLow), .v (.bool x2.fHigh), .v (.bool x2.fFmod), .v (.int .i64 x2.fTo), .v (.int .i64 x2.fMode), .v (.bool x2.fTransA), .v (.bool x2.fTransB), .v (.int .i64 x2.fGroup), .arr x2.fKernel.length (lm (ik .i64) x2.fKernel), .arr x2.fStrides.length (lm (ik .i64) x2.fStrides), .arr x2.fPads.length (lm (ik .i64) x2.fPads), .arr x2.fDilations.length (lm (ik .i64) x2.fDilations), .v (.int .i64 x2.fAuto), .v (.bool x2.fCeil), .v (.bool x2.fCount), .v (.int .i64 x2.fBlock), .v (.int .i64 x2.fStart), .v (.int .i64 x2.fEnd), .v (.bool x2.fHasEnd), .v (.int .i64 x2.fValue.fType), .arr x2.fValue.fDims.length (lm (ik .i64) x2.fValue.fDims), .arr x2.fValue.fF.length (lm (ik .u32) x2.fValue.fF), .arr x2.fValue.fI.length (lm (ik .i64) x2.fValue.fI), .arr x2.fValue.fB.length (lm (bk) x2.fValue.fB), .own (0, 10, 115) 0 x28.length x28.length, .v (.int .i64 x31.fType), .arr x31.fDims.length (lm (ik .i64) x31.fDims), .arr x31.fF.length (lm (ik .u32) x31.fF), .arr x31.fI.length (lm (ik .i64) x31.fI), .arr x31.fB.length (lm (bk) x31.fB), .v (.int .i64 x32.1)])), ((0, 10, 115), .sl true true 5 x28.length (fm c_T_Tensor x28))])) (fun t => moves_Do.k4 fu x2 x28 x30 x31 x32) ?_ (fun hj4 => ?_)
     ·rintro ⟨⟩
      show J _ (moves_Do.k4 fu x2 x28 x30 x31 x32) _
      unfold moves_Do.k4
      refine J.eq go_seq ?_
      conv => arg 1; simp (maxSteps := 4000000) (disch := first | exact Zd | fail) only [ZZ, d10_at, simprocAttr, RL, SE, h26, e_h27, h28', e_h29, e_h30, h31', h34k, h34f, h34a0, h34a1, h34a2, h34a3, h34a4, e_h35]
      refine J.eq ret_seq ?_
      refine J.at fun x33 h36 h37 h38 => ?_
      replace h38 : x30.1[0]? = some x33 := h38
      have h38k := fm_cut c_T_Val_len h38
      have h38f := fm_fit c_T_Val_len h38
      have h38a0 := fm_at (j := 0) c_T_Val_len h38 (by decide)
      have h38a1 := fm_at (j := 1) c_T_Val_len h38 (by decide)
      have h38a2 := fm_at (j := 2) c_T_Val_len h38 (by decide)
      have h38a3 := fm_at (j := 3) c_T_Val_len h38 (by decide)
      have h38a4 := fm_at (j := 4) c_T_Val_len h38 (by decide)
      have h38a5 := fm_at (j := 5) c_T_Val_len h38 (by decide)
      have h38a6 := fm_at (j := 6) c_T_Val_len h38 (by decide)
      have h38a7 := fm_at (j := 7) c_T_Val_len h38 (by decide)
      simp only [simprocAttr, Nat.zero_mul, Nat.zero_add, Nat.add_zero, List.drop_zero] at h38k h38f h38a0 h38a1 h38a2 h38a3 h38a4 h38a5 h38a6 h38a7
      refine J.bind fun x34 h39 => ?_
      have e_h39 := H25_0 _ _ _ _ h39
      try simp only [NN, NT, LN, simprocAttr, DT] at e_h39
      refine J.some ?_
      simp (maxSteps := 20000000) (disch := first | exact Zd | fail) only [ZZ, d10_at, simprocAttr, RL, SE, h26, e_h27, h28', e_h29, e_h30, h31', h34k, h34f, h34a0, h34a1, h34a2, h34a3, h34a4, e_h35, h38k, h38f, h38a0, h38a1, h38a2, h38a3, h38a4, h38a5, h38a6, h38a7, e_h39, FN]
     ·refine J.hd jn_at ?_
      refine J.eq go_seq ?_
      conv => arg 1; simp (maxSteps := 4000000) (disch := first | exact Zd | fail) only [ZZ, d10_at, simprocAttr, RL, SE, h26, e_h27, h28', e_h29, e_h30, h31', h34k, h34f, h34a0, h34a1, h34a2, h34a3, h34a4, e_h35]
      refine J.eq ret_seq ?_
      conv => arg 1; simp (maxSteps := 4000000) (disch := first | exact Zd | fail) only [ZZ, d10_at, simprocAttr, RL, SE, h26, e_h27, h28', e_h29, e_h30, h31', h34k, h34f, h34a0, h34a1, h34a2, h34a3, h34a4, e_h35]
      refine J.jmp (t := ()) hj4 ?_ ?_
      ·exact Ze
      ·exact Zh
    ·have h31' := decide_eq_false h31
     refine J.some ?_
     simp (maxSteps := 20000000) (disch := first | exact Zd | fail) only [ZZ, d10_at, simprocAttr, RL, SE, h26, e_h27, h28', e_h29, e_h30, h31', FN]
   ·refine J.hd jn_at ?_
    conv => arg 1; simp (maxSteps := 4000000) (disch := first | exact Zd | fail) only [ZZ, d10_at, simprocAttr, RL, SE, h26, e_h27, h28']
    unfold moves_Do.W2
    refine J.loop (fun (s : (List T_Tensor) × Int) => ([(0, .v (.int .i64 64)), (2, .arr x3.length (fm c_T_Tensor x3)), (3, .v (.int .i64 x4)), (5, .ptr (0, 5, 0) 0 0), (10, .ptr (0, 24, 0) 0 0), (25, .arr x3.length (fm c_T_Tensor x3)), (26, .v (.int .i64 (x3.length : Int))), (27, .v (.int .i64 s.2))], [((0, 5, 0), .bx true ([.v (.int .i64 x2.fAxis), .arr x2.fAxes.length (lm (ik .i64) x2.fAxes), .v (.bool x2.fHasAxes), .v (.bool x2.fKeep), .v (.bool x2.fNoop), .v (.bool x2.fLast), .v (.bool x2.fZero), .arr x2.fPerm.length (lm (ik .i64) x2.fPerm), .v (.bool x2.fHasPerm), .v (.int .u32 x2.fAlpha), .v (.int .u32 x2.fBeta), .v (.int .u32 x2.fEpsilon), .v (.bool x2.fLow), .v (.bool x2.fHigh), .v (.bool x2.fFmod), .v (.int .i64 x2.fTo), .v (.int .i64 x2.fMode), .v (.bool x2.fTransA), .v (.bool x2.fTransB), .v (.int .i64 x2.fGroup), .arr x2.fKernel.length (lm (ik .i64) x2.fKernel), .arr x2.fStrides.length (lm (ik .i64) x2.fStrides), .arr x2.fPads.length (lm (ik .i64) x2.fPads), .arr x2.fDilations.length (lm (ik .i64) x2.fDilations), .v (.int .i64 x2.fAuto), .v (.bool x2.fCeil), .v (.bool x2.fCount), .v (.int .i64 x2.fBlock), .v (.int .i64 x2.fStart), .v (.int .i64 x2.fEnd), .v (.bool x2.fHasEnd), .v (.int .i64 x2.fValue.fType), .arr x2.fValue.fDims.length (lm (ik .i64) x2.fValue.fDims), .arr x2.fValue.fF.length (lm (ik .u32) x2.fValue.fF), .arr x2.fValue.fI.length (lm (ik .i64) x2.fValue.fI), .arr x2.fValue.fB.length (lm (bk) x2.fValue.fB)])), ((0, 24, 0), .bx true ([.v (.int .i64 64), .v (.int .i64 x2.fAxis), .arr x2.fAxes.length (lm (ik .i64) x2.fAxes), .v (.bool x2.fHasAxes), .v (.bool x2.fKeep), .v (.bool x2.fNoop), .v (.bool x2.fLast), .v (.bool x2.fZero), .arr x2.fPerm.length (lm (ik .i64) x2.fPerm), .v (.bool x2.fHasPerm), .v (.int .u32 x2.fAlpha), .v (.int .u32 x2.fBeta), .v (.int .u32 x2.fEpsilon), .v (.bool x2.fLow), .v (.bool x2.fHigh), .v (.bool x2.fFmod), .v (.int .i64 x2.fTo), .v (.int .i64 x2.fMode), .v (.bool x2.fTransA), .v (.bool x2.fTransB), .v (.int .i64 x2.fGroup), .arr x2.fKernel.length (lm (ik .i64) x2.fKernel), .arr x2.fStrides.length (lm (ik .i64) x2.fStrides), .arr x2.fPads.length (lm (ik .i64) x2.fPads), .arr x2.fDilations.length (lm (ik .i64) x2.fDilations), .v (.int .i64 x2.fAuto), .v (.bool x2.fCeil), .v (.bool x2.fCount), .v (.int .i64 x2.fBlock), .v (.int .i64 x2.fStart), .v (.int .i64 x2.fEnd), .v (.bool x2.fHasEnd), .v (.int .i64 x2.fValue.fType), .arr x2.fValue.fDims.length (lm (ik .i64) x2.fValue.fDims), .arr x2.fValue.fF.length (lm (ik .u32) x2.fValue.fF), .arr x2.fValue.fI.length (lm (ik .i64) x2.fValue.fI), .arr x2.fValue.fB.length (lm (bk) x2.fValue.fB), .own (0, 10, 115) 0 s.1.length s.1.length, .v (.int .i64 0), .v (.slice none 0 0), .v (.slice none 0 0), .v (.slice none 0 0), .v (.slice none 0 0), .v (.int .i64 0)])), ((0, 10, 115), .sl true true 5 s.1.length (fm c_T_Tensor s.1))])) (fun next s => moves_Do.L2 fu x2 x3 x4 (fun x39 x40 => next (x39, x40)) s.1 s.2) (s0 := (([] : List T_Tensor), 0)) ?_ ?_ ?_
    ·exact Ze
    ·exact Zh
    rintro next k2 hn2 ⟨x39, x40⟩
    let nx2 : (List T_Tensor) → Int → Option ((List T_Tensor) × Int) := (fun x39 x40 => next (x39, x40))
    show J _ (moves_Do.L2 fu x2 x3 x4 nx2 x39 x40) _
    unfold moves_Do.L2
    conv => arg 1; simp (maxSteps := 4000000) (disch := first | exact Zd | fail) only [ZZ, d10_at, simprocAttr, RL, SE, h26, e_h27, h28']
    refine J.eq go_seq ?_
    conv => arg 1; simp (maxSteps := 4000000) (disch := first | exact Zd | fail) only [ZZ, d10_at, simprocAttr, RL, SE, h26, e_h27, h28']
    refine J.ite (fun h40 => ?_) (fun h40 => ?_)
    ·have h40' := decide_eq_true h40
     have h40'' : decide ((x3.length : Int) ≤ x40) = false := decide_eq_false (by omega)
     conv => arg 1; simp (maxSteps := 4000000) (disch := first | exact Zd | fail) only [ZZ, d10_at, simprocAttr, RL, SE, h26, e_h27, h28', h40'', h40']
     refine J.eq ret_seq ?_
     refine J.eq go_seq ?_
     refine J.at fun x45 h41 h42 h43 => ?_
     conv => arg 1; simp (maxSteps := 4000000) (disch := first | exact Zd | fail) only [ZZ, d10_at, simprocAttr, RL, SE, h26, e_h27, h28', h40'', h40', fm_cut c_T_Tensor_len h43, fm_fit c_T_Tensor_len h43, fm_at c_T_Tensor_len h43, fm_at0 c_T_Tensor_len h43]
     refine J.eq go_seq ?_
     conv => arg 1; simp (maxSteps := 4000000) (disch := first | exact Zd | fail) only [ZZ, d10_at, simprocAttr, RL, SE, h26, e_h27, h28', h40'', h40', fm_cut c_T_Tensor_len h43, fm_fit c_T_Tensor_len h43, fm_at c_T_Tensor_len h43, fm_at0 c_T_Tensor_len h43]
     refine J.ite (fun h44 => ?_) (fun h44 => ?_)
     ·have h44' := decide_eq_true h44
      conv => arg 1; simp (maxSteps := 4000000) (disch := first | exact Zd | fail) only [ZZ, d10_at, simprocAttr, RL, SE, h26, e_h27, h28', h40'', h40', fm_cut c_T_Tensor_len h43, fm_fit c_T_Tensor_len h43, fm_at c_T_Tensor_len h43, fm_at0 c_T_Tensor_len h43, h44']
      refine J.eq ret_seq ?_
      refine J.bind fun x46 h45 => ?_
      have e_h45 := H19_0 _ _ h45
      try simp only [NN, NT, LN, simprocAttr, DT] at e_h45
      refine J.chk fun h46 => ?_
      conv => arg 1; simp (maxSteps := 4000000) (disch := first | exact Zd | fail) only [ZZ, d10_at, simprocAttr, RL, SE, h26, e_h27, h28', h40'', h40', fm_cut c_T_Tensor_len h43, fm_fit c_T_Tensor_len h43, fm_at c_T_Tensor_len h43, fm_at0 c_T_Tensor_len h43, h44', e_h45]
      refine J.eq ret_seq ?_
      conv => arg 1; simp (maxSteps := 4000000) (disch := first | exact Zd | fail) only [ZZ, d10_at, simprocAttr, RL, SE, h26, e_h27, h28', h40'', h40', fm_cut c_T_Tensor_len h43, fm_fit c_T_Tensor_len h43, fm_at c_T_Tensor_len h43, fm_at0 c_T_Tensor_len h43, h44', e_h45]
      refine J.next (s := (x39 ++ ([x46]), wk .i64 (x40 + 1))) hn2 ?_ ?_
      ·exact Ze
      ·exact Zh
     ·have h44' := decide_eq_false h44
      refine J.bind fun x47 h47 => ?_
      have e_h47 := H18_0 _ _ h47
      try simp only [NN, NT, LN, simprocAttr, DT] at e_h47
      conv => arg 1; simp (maxSteps := 4000000) (disch := first | exact Zd | fail) only [ZZ, d10_at, simprocAttr, RL, SE, h26, e_h27, h28', h40'', h40', fm_cut c_T_Tensor_len h43, fm_fit c_T_Tensor_len h43, fm_at c_T_Tensor_len h43, fm_at0 c_T_Tensor_len h43, h44', e_h47]
      refine J.ite (fun h48 => ?_) (fun h48 => ?_)
      ·have h48' := decide_eq_true h48
       conv => arg 1; simp (maxSteps := 4000000) (disch := first | exact Zd | fail) only [ZZ, d10_at, simprocAttr, RL, SE, h26, e_h27, h28', h40'', h40', fm_cut c_T_Tensor_len h43, fm_fit c_T_Tensor_len h43, fm_at c_T_Tensor_len h43, fm_at0 c_T_Tensor_len h43, h44', e_h47, h48']
       refine J.eq ret_seq ?_
       refine J.bind fun x48 h49 => ?_
       have e_h49 := H19_0 _ _ h49
       try simp only [NN, NT, LN, simprocAttr, DT] at e_h49
       refine J.chk fun h50 => ?_
       conv => arg 1; simp (maxSteps := 4000000) (disch := first | exact Zd | fail) only [ZZ, d10_at, simprocAttr, RL, SE, h26, e_h27, h28', h40'', h40', fm_cut c_T_Tensor_len h43, fm_fit c_T_Tensor_len h43, fm_at c_T_Tensor_len h43, fm_at0 c_T_Tensor_len h43, h44', e_h47, h48', e_h49]
       refine J.eq ret_seq ?_
       conv => arg 1; simp (maxSteps := 4000000) (disch := first | exact Zd | fail) only [ZZ, d10_at, simprocAttr, RL, SE, h26, e_h27, h28', h40'', h40', fm_cut c_T_Tensor_len h43, fm_fit c_T_Tensor_len h43, fm_at c_T_Tensor_len h43, fm_at0 c_T_Tensor_len h43, h44', e_h47, h48', e_h49]
       refine J.next (s := (x39 ++ ([x48]), wk .i64 (x40 + 1))) hn2 ?_ ?_
       ·exact Ze
       ·exact Zh
      ·have h48' := decide_eq_false h48
       refine J.some ?_
       simp (maxSteps := 20000000) (disch := first | exact Zd | fail) only [ZZ, d10_at, simprocAttr, RL, SE, h26, e_h27, h28', h40'', h40', fm_cut c_T_Tensor_len h43, fm_fit c_T_Tensor_len h43, fm_at c_T_Tensor_len h43, fm_at0 c_T_Tensor_len h43, h44', e_h47, h48', FN]
    ·have h40' := decide_eq_false h40
     have h40'' : decide ((x3.length : Int) ≤ x40) = true := decide_eq_true (by omega)
     conv => arg 1; simp (maxSteps := 4000000) (disch := first | exact Zd | fail) only [ZZ, d10_at, simprocAttr, RL, SE, h26, e_h27, h28', h40'', h40']
     refine J.jmp (t := x39) hj3 ?_ ?_
     ·exact Ze
     ·exact Zh
  ·have h28' : x27 = false := Bool.eq_false_iff.2 h28
   refine J.some ?_
   simp (maxSteps := 20000000) (disch := first | exact Zd | fail) only [ZZ, d10_at, simprocAttr, RL, SE, h26, e_h27, h28', FN]
noncomputable def t10 (fu : Nat) : CallP := orE 17 (mkC (fun (t : Int) => ([.v (.int .i64 t)] : List AV)) (fun t => moves_Has fu t) e17) (orE 18 (mkC (fun (t : T_Tensor) => ([.agg (c_T_Tensor t)] : List AV)) (fun t => tens_Check fu t) e18) (orE 19 (mkC (fun (t : T_Tensor) => ([.agg (c_T_Tensor t)] : List AV)) (fun t => tens_Canon fu t) e19) (orE 21 (mkC (fun (t : List T_Tensor) => ([.arr t.length (fm c_T_Tensor t)] : List AV)) (fun t => ewise_Vals fu t) e21) (orE 20 (mkC (fun (t : Int × T_Setting × (List T_Val) × Int) => ([.v (.int .i64 t.1), .agg (c_T_Setting t.2.1), .arr t.2.2.1.length (fm c_T_Val t.2.2.1), .v (.int .i64 t.2.2.2)] : List AV)) (fun t => infer_Node fu t.1 t.2.1 t.2.2.1 t.2.2.2) e20) (orE 22 (mkC (fun (t : Int × Int) => ([.v (.int .i64 t.1), .v (.int .i64 t.2)] : List AV)) (fun t => shape_Axis fu t.1 t.2) e22) (orE 25 (mkC (fun (t : T_moves_move × (List Int) × (List Int)) => ([.ref (c_T_moves_move t.1) 0, .arr t.2.1.length (lm (ik .i64) t.2.1), .arr t.2.2.length (lm (ik .i64) t.2.2)] : List AV)) (fun t => moves_move_one fu t.1 t.2.1 t.2.2) e25) (noP)))))))
theorem t10_ok (fu : Nat) : CpOK Tryz.prog (t10 fu ) := orE_ok (orE_ok (orE_ok (orE_ok (orE_ok (orE_ok (orE_ok (noP_ok) (mkC_ok (fun t b h => ok25 fu t.1 t.2.1 t.2.2  b h))) (mkC_ok (fun t b h => ok22 fu t.1 t.2  b h))) (mkC_ok (fun t b h => ok20 fu t.1 t.2.1 t.2.2.1 t.2.2.2  b h))) (mkC_ok (fun t b h => ok21 fu t  b h))) (mkC_ok (fun t b h => ok19 fu t  b h))) (mkC_ok (fun t b h => ok18 fu t  b h))) (mkC_ok (fun t b h => ok17 fu t  b h))
theorem ok10 (fu : Nat) (x1 : Int) (x2 : T_Setting) (x3 : List T_Tensor) (x4 : Int) (r) (h : moves_Do fu x1 x2 x3 x4 = some r) : PureOK Tryz.prog 10 [.v (.int .i64 x1), .agg (c_T_Setting x2), .arr x3.length (fm c_T_Tensor x3), .v (.int .i64 x4)] (e10 r) :=
  pureS_J mixed (cp := t10 fu ) (t10_ok fu  ) noI_ok i10 (w10 _ fu x1 x2 x3 x4  (fun a0 r h => orE_hit (mkC_at (a := a0) (by intro a b h; first | (exact rfl) | (simp only [INJ, IJ] at h; first | exact h | (simp_all [Prod.ext_iff]) )) h)) (fun a0 r h => orE_miss (by decide) (orE_hit (mkC_at (a := a0) (by intro a b h; first | (exact rfl) | (simp only [INJ, IJ] at h; first | exact h | (simp_all [Prod.ext_iff]) )) h))) (fun a0 r h => orE_miss (by decide) (orE_miss (by decide) (orE_hit (mkC_at (a := a0) (by intro a b h; first | (exact rfl) | (simp only [INJ, IJ] at h; first | exact h | (simp_all [Prod.ext_iff]) )) h)))) (fun a0 r h => orE_miss (by decide) (orE_miss (by decide) (orE_miss (by decide) (orE_hit (mkC_at (a := a0) (by intro a b h; first | (exact rfl) | (simp only [INJ, IJ] at h; first | exact h | (simp_all [Prod.ext_iff]) )) h))))) (fun a0 a1 a2 a3 r h => orE_miss (by decide) (orE_miss (by decide) (orE_miss (by decide) (orE_miss (by decide) (orE_hit (mkC_at (a := (a0, a1, a2, a3)) (by intro a b h; first | (exact rfl) | (simp only [INJ, IJ] at h; first | exact h | (simp_all [Prod.ext_iff]) )) h)))))) (fun a0 a1 r h => orE_miss (by decide) (orE_miss (by decide) (orE_miss (by decide) (orE_miss (by decide) (orE_miss (by decide) (orE_hit (mkC_at (a := (a0, a1)) (by intro a b h; first | (exact rfl) | (simp only [INJ, IJ] at h; first | exact h | (simp_all [Prod.ext_iff]) )) h))))))) (fun a0 a1 a2 r h => orE_miss (by decide) (orE_miss (by decide) (orE_miss (by decide) (orE_miss (by decide) (orE_miss (by decide) (orE_miss (by decide) (orE_hit (mkC_at (a := (a0, a1, a2)) (by intro a b h; first | (exact rfl) | (simp only [INJ, IJ] at h; first | exact h | (simp_all [Prod.ext_iff]) )) h))))))))) h
/-! 27: lattice/latticeref05.Copy -/
def d27 : List (Nat × List Nat) := [(0, [0]), (0, []), (0, [4, 5, 6]), (0, []), (0, [7, 8, 9, 10, 11, 12]), (0, []), (0, [13, 14, 15, 16, 17, 18]), (0, []), (0, [19, 20, 21, 22, 23, 24]), (0, []), (0, [1, 25, 26, 27, 28, 29, 30]), (0, []), (0, [3, 31])]
def d27_at := by have h := tabL d27.eq_1; simp only [AllAt, Nat.zero_add, Nat.reduceAdd] at h; exact h
theorem i27 : finfo Tryz.prog 27 d27 = some ⟨bodyOf Tryz.f27, [.cell 2 27], [27]⟩ := finfo_at Tryz.func27 rfl (by kernel_rfl) (by kernel_rfl)
def e27 : T_Tensor → AV := fun r => .agg [.v (.int .i64 r.fType), .fresh 1 r.fDims.length (lm (ik .i64) r.fDims), .fresh 1 r.fF.length (lm (ik .u32) r.fF), .fresh 1 r.fI.length (lm (ik .i64) r.fI), .fresh 1 r.fB.length (lm (bk) r.fB)]
set_option maxHeartbeats 20000000 in
theorem w27 (cp : CallP) (fu : Nat) (x1 : T_Tensor) : J (go Tryz.prog noC cp noI 0 [] d27 fu (fin Tryz.prog [.cell 2 27] [27]) (bodyOf Tryz.f27) (initE 0 [.agg (c_T_Tensor x1)]) [] []) (ref05_Copy fu x1) e27 := by
 unfold ref05_Copy e27
 have da := d27_at
 refine J.chk fun h1 => ?_
 refine J.chk fun h2 => ?_
 refine J.chk fun h3 => ?_
 refine J.chk fun h4 => ?_
 refine J.some ?_
 simp (maxSteps := 20000000) (disch := first | exact Zd | fail) only [bodyOf, Tryz.f27, ZZ, d27_at, simprocAttr, FN]
noncomputable def t27 (fu : Nat) : CallP := noP
theorem t27_ok (fu : Nat) : CpOK Tryz.prog (t27 fu ) := noP_ok
theorem ok27 (fu : Nat) (x1 : T_Tensor) (r) (h : ref05_Copy fu x1 = some r) : PureOK Tryz.prog 27 [.agg (c_T_Tensor x1)] (e27 r) :=
  pure_J mixed (cp := t27 fu ) (t27_ok fu  ) noI_ok i27 (w27 _ fu x1  ) h
/-! 111: lattice/latticeref01.Abs -/
def d111 : List (Nat × List Nat) := [(0, [2]), (0, []), (0, [0, 3, 4])]
def d111_at := by have h := tabL d111.eq_1; simp only [AllAt, Nat.zero_add, Nat.reduceAdd] at h; exact h
theorem i111 : finfo Tryz.prog 111 d111 = some ⟨bodyOf Tryz.f111, [.tmp 2], [33]⟩ := finfo_at Tryz.func111 rfl (by kernel_rfl) (by kernel_rfl)
def e111 : Int → AV := fun r => .v (.int .u32 r)
set_option maxHeartbeats 20000000 in
theorem w111 (cp : CallP) (fu : Nat) (x1 : Int) : J (go Tryz.prog noC cp noI 0 [] d111 fu (fin Tryz.prog [.tmp 2] [33]) (bodyOf Tryz.f111) (initE 0 [.v (.int .u32 x1)]) [] []) (ref01_Abs fu x1) e111 := by
 unfold ref01_Abs e111
 have da := d111_at
 refine J.some ?_
 simp (maxSteps := 20000000) (disch := first | exact Zd | fail) only [bodyOf, Tryz.f111, ZZ, d111_at, simprocAttr, FN]
noncomputable def t111 (fu : Nat) : CallP := noP
theorem t111_ok (fu : Nat) : CpOK Tryz.prog (t111 fu ) := noP_ok
theorem ok111 (fu : Nat) (x1 : Int) (r) (h : ref01_Abs fu x1 = some r) : PureOK Tryz.prog 111 [.v (.int .u32 x1)] (e111 r) :=
  pure_J mixed (cp := t111 fu ) (t111_ok fu  ) noI_ok i111 (w111 _ fu x1  ) h
/-! 56: lattice/latticeref01.IsNone -/
def d56 : List (Nat × List Nat) := [(0, [2]), (0, []), (0, [0, 3, 4, 5])]
def d56_at := by have h := tabL d56.eq_1; simp only [AllAt, Nat.zero_add, Nat.reduceAdd] at h; exact h
theorem i56 : finfo Tryz.prog 56 d56 = some ⟨bodyOf Tryz.f56, [.tmp 2], [4]⟩ := finfo_at Tryz.func56 rfl (by kernel_rfl) (by kernel_rfl)
def e56 : Bool → AV := fun r => .v (.bool r)
set_option maxHeartbeats 20000000 in
theorem w56 (cp : CallP) (fu : Nat) (x1 : Int) (H111_0 : ∀ (a0 : Int) r, ref01_Abs fu a0 = some r → cp 111 [.v (.int .u32 a0)] = some (.v (.int .u32 r))) : J (go Tryz.prog noC cp noI 0 [] d56 fu (fin Tryz.prog [.tmp 2] [4]) (bodyOf Tryz.f56) (initE 0 [.v (.int .u32 x1)]) [] []) (ref01_IsNone fu x1) e56 := by
 unfold ref01_IsNone e56
 have da := d56_at
 refine J.bind fun x2 h1 => ?_
 have e_h1 := H111_0 _ _ h1
 try simp only [NN, NT, LN, simprocAttr, DT] at e_h1
 refine J.some ?_
 simp (maxSteps := 20000000) (disch := first | exact Zd | fail) only [bodyOf, Tryz.f56, ZZ, d56_at, simprocAttr, e_h1, FN]
noncomputable def t56 (fu : Nat) : CallP := orE 111 (mkC (fun (t : Int) => ([.v (.int .u32 t)] : List AV)) (fun t => ref01_Abs fu t) e111) (noP)
theorem t56_ok (fu : Nat) : CpOK Tryz.prog (t56 fu ) := orE_ok (noP_ok) (mkC_ok (fun t b h => ok111 fu t  b h))
theorem ok56 (fu : Nat) (x1 : Int) (r) (h : ref01_IsNone fu x1 = some r) : PureOK Tryz.prog 56 [.v (.int .u32 x1)] (e56 r) :=
  pure_J mixed (cp := t56 fu ) (t56_ok fu  ) noI_ok i56 (w56 _ fu x1  (fun a0 r h => orE_hit (mkC_at (a := a0) (by intro a b h; first | (exact rfl) | (simp only [INJ, IJ] at h; first | exact h | (simp_all [Prod.ext_iff]) )) h))) h
/-! 28: lattice/latticeref01.Canon -/
def d28 : List (Nat × List Nat) := [(0, [2]), (0, []), (0, [3]), (0, []), (0, []), (0, []), (0, [0, 5])]
def d28_at := by have h := tabL d28.eq_1; simp only [AllAt, Nat.zero_add, Nat.reduceAdd] at h; exact h
theorem i28 : finfo Tryz.prog 28 d28 = some ⟨bodyOf Tryz.f28, [.tmp 2], [33]⟩ := finfo_at Tryz.func28 rfl (by kernel_rfl) (by kernel_rfl)
def e28 : Int → AV := fun r => .v (.int .u32 r)
set_option maxHeartbeats 20000000 in
theorem w28 (cp : CallP) (fu : Nat) (x1 : Int) (H56_0 : ∀ (a0 : Int) r, ref01_IsNone fu a0 = some r → cp 56 [.v (.int .u32 a0)] = some (.v (.bool r))) : J (go Tryz.prog noC cp noI 0 [] d28 fu (fin Tryz.prog [.tmp 2] [33]) (bodyOf Tryz.f28) (initE 0 [.v (.int .u32 x1)]) [] []) (ref01_Canon fu x1) e28 := by
 unfold ref01_Canon e28
 have da := d28_at
 conv => arg 1; simp (disch := first | exact Zd | fail) only [bodyOf, Tryz.f28, ZZ, d28_at, simprocAttr]
 refine J.eq go_seq ?_
 refine J.bind fun x2 h1 => ?_
 have e_h1 := H56_0 _ _ h1
 try simp only [NN, NT, LN, simprocAttr, DT] at e_h1
 refine Jc ?_
 refine J.ite (fun h2 => ?_) (fun h2 => ?_)
 ·have h2' : x2 = true := h2
  refine J.some ?_
  exact Js
 ·have h2' : x2 = false := Bool.eq_false_iff.2 h2
  refine Jc ?_
  refine J.eq ret_seq ?_
  refine J.some ?_
  exact Js
noncomputable def t28 (fu : Nat) : CallP := orE 56 (mkC (fun (t : Int) => ([.v (.int .u32 t)] : List AV)) (fun t => ref01_IsNone fu t) e56) (noP)
theorem t28_ok (fu : Nat) : CpOK Tryz.prog (t28 fu ) := orE_ok (noP_ok) (mkC_ok (fun t b h => ok56 fu t  b h))
theorem ok28 (fu : Nat) (x1 : Int) (r) (h : ref01_Canon fu x1 = some r) : PureOK Tryz.prog 28 [.v (.int .u32 x1)] (e28 r) :=
  pure_J mixed (cp := t28 fu ) (t28_ok fu  ) noI_ok i28 (w28 _ fu x1  (fun a0 r h => orE_hit (mkC_at (a := a0) (by intro a b h; first | (exact rfl) | (simp only [INJ, IJ] at h; first | exact h | (simp_all [Prod.ext_iff]) )) h))) h
/-! 12: lattice/latticeref05.Canon -/
def d12 : List (Nat × List Nat) := [(0, [0]), (0, [4]), (0, [1, 5, 6]), (0, []), (0, []), (0, []), (0, [7, 8, 9, 10]), (0, []), (0, [12, 13]), (0, []), (10, [14, 15, 16, 17, 18, 19, 20, 21, 22, 23]), (0, []), (0, [3, 24])]
def d12_at := by have h := tabL d12.eq_1; simp only [AllAt, Nat.zero_add, Nat.reduceAdd] at h; exact h
theorem i12 : finfo Tryz.prog 12 d12 = some ⟨bodyOf Tryz.f12, [.cell 2 27], [27]⟩ := finfo_at Tryz.func12 rfl (by kernel_rfl) (by kernel_rfl)
def e12 : T_Tensor → AV := fun r => .agg [.v (.int .i64 r.fType), .fresh 1 r.fDims.length (lm (ik .i64) r.fDims), .fresh 1 r.fF.length (lm (ik .u32) r.fF), .fresh 1 r.fI.length (lm (ik .i64) r.fI), .fresh 1 r.fB.length (lm (bk) r.fB)]
set_option maxHeartbeats 20000000 in
theorem w12 (cp : CallP) (fu : Nat) (x1 : T_Tensor) (H27_0 : ∀ (a0 : T_Tensor) r, ref05_Copy fu a0 = some r → cp 27 [.agg (c_T_Tensor a0)] = some (.agg [.v (.int .i64 r.fType), .fresh 1 r.fDims.length (lm (ik .i64) r.fDims), .fresh 1 r.fF.length (lm (ik .u32) r.fF), .fresh 1 r.fI.length (lm (ik .i64) r.fI), .fresh 1 r.fB.length (lm (bk) r.fB)])) (H28_0 : ∀ (a0 : Int) r, ref01_Canon fu a0 = some r → cp 28 [.v (.int .u32 a0)] = some (.v (.int .u32 r))) : J (go Tryz.prog noC cp noI 0 [] d12 fu (fin Tryz.prog [.cell 2 27] [27]) (bodyOf Tryz.f12) (initE 0 [.agg (c_T_Tensor x1)]) [] []) (ref05_Canon fu x1) e12 := by
 unfold ref05_Canon e12
 have da := d12_at
 refine J.bind fun x2 h1 => ?_
 have e_h1 := H27_0 _ _ h1
 try simp only [NN, NT, LN, simprocAttr, DT] at e_h1
 conv => arg 1; simp (disch := first | exact Zd | fail) only [bodyOf, Tryz.f12, ZZ, d12_at, simprocAttr, e_h1]
 refine J.eq go_seq ?_
 refine Jc ?_
 unfold ref05_Canon.W1
 refine J.loop (fun (s : (List Int) × Int) => ([(2, .ptr (0, 2, 0) 0 0), (3, .ptr (0, 3, 0) 0 0), (4, .v (.int .i64 s.2))], [((0, 2, 0), .bx true ([.v (.int .i64 0), .v (.slice none 0 0), .v (.slice none 0 0), .v (.slice none 0 0), .v (.slice none 0 0)])), ((0, 6, 0), .sl true true 1 x2.fDims.length (lm (ik .i64) x2.fDims)), ((0, 6, 1), .sl true true 1 s.1.length (lm (ik .u32) s.1)), ((0, 6, 2), .sl true true 1 x2.fI.length (lm (ik .i64) x2.fI)), ((0, 6, 3), .sl true true 1 x2.fB.length (lm (bk) x2.fB)), ((0, 3, 0), .bx true ([.v (.int .i64 x2.fType), .own (0, 6, 0) 0 x2.fDims.length x2.fDims.length, .own (0, 6, 1) 0 s.1.length s.1.length, .own (0, 6, 2) 0 x2.fI.length x2.fI.length, .own (0, 6, 3) 0 x2.fB.length x2.fB.length]))])) (fun next s => ref05_Canon.L1 fu x2 (fun x5 x6 => next (x5, x6)) s.1 s.2) (s0 := (x2.fF, 0)) ?_ ?_ ?_
 ·exact Ze
 ·exact Zh
 rintro next k1 hn1 ⟨x5, x6⟩
 let nx1 : (List Int) → Int → Option T_Tensor := (fun x5 x6 => next (x5, x6))
 show J _ (ref05_Canon.L1 fu x2 nx1 x5 x6) _
 unfold ref05_Canon.L1
 refine J.eq go_seq ?_
 refine Jc ?_
 refine J.ite (fun h2 => ?_) (fun h2 => ?_)
 ·have h2' := decide_eq_true h2
  have h2'' : decide ((x5.length : Int) ≤ x6) = false := decide_eq_false (by omega)
  refine Jc ?_
  refine J.eq ret_seq ?_
  refine J.eq go_seq ?_
  refine J.at fun x9 h3 h4 h5 => ?_
  refine J.bind fun x10 h6 => ?_
  have e_h6 := H28_0 _ _ h6
  try simp only [NN, NT, LN, simprocAttr, DT] at e_h6
  refine J.chk fun h7 => ?_
  conv => arg 1; simp (disch := first | exact Zd | fail) only [ZZ, d12_at, simprocAttr, e_h1, h2'', h2', lm_ik h5, e_h6]
  refine J.eq ret_seq ?_
  conv => arg 1; simp (disch := first | exact Zd | fail) only [ZZ, d12_at, simprocAttr, e_h1, h2'', h2', lm_ik h5, e_h6]
  refine J.next (s := (x5.set x6.toNat x10, wk .i64 (x6 + 1))) hn1 ?_ ?_
  ·exact Ze
  ·exact Zh
 ·have h2' := decide_eq_false h2
  have h2'' : decide ((x5.length : Int) ≤ x6) = true := decide_eq_true (by omega)
  refine Jc ?_
  refine J.eq ret_seq ?_
  refine J.some ?_
  exact Js
noncomputable def t12 (fu : Nat) : CallP := orE 27 (mkC (fun (t : T_Tensor) => ([.agg (c_T_Tensor t)] : List AV)) (fun t => ref05_Copy fu t) e27) (orE 28 (mkC (fun (t : Int) => ([.v (.int .u32 t)] : List AV)) (fun t => ref01_Canon fu t) e28) (noP))
theorem t12_ok (fu : Nat) : CpOK Tryz.prog (t12 fu ) := orE_ok (orE_ok (noP_ok) (mkC_ok (fun t b h => ok28 fu t  b h))) (mkC_ok (fun t b h => ok27 fu t  b h))
theorem ok12 (fu : Nat) (x1 : T_Tensor) (r) (h : ref05_Canon fu x1 = some r) : PureOK Tryz.prog 12 [.agg (c_T_Tensor x1)] (e12 r) :=
  pure_J mixed (cp := t12 fu ) (t12_ok fu  ) noI_ok i12 (w12 _ fu x1  (fun a0 r h => orE_hit (mkC_at (a := a0) (by intro a b h; first | (exact rfl) | (simp only [INJ, IJ] at h; first | exact h | (simp_all [Prod.ext_iff]) )) h)) (fun a0 r h => orE_miss (by decide) (orE_hit (mkC_at (a := a0) (by intro a b h; first | (exact rfl) | (simp only [INJ, IJ] at h; first | exact h | (simp_all [Prod.ext_iff]) )) h)))) h
/-! 26: lattice/latticeref04.SameInts -/
def d26 : List (Nat × List Nat) := [(0, [4]), (0, [0, 1, 5]), (0, [6, 7, 8, 9]), (0, []), (0, []), (0, []), (0, []), (0, []), (0, [11, 12, 13]), (0, []), (0, [15, 16]), (0, []), (9, [17, 18, 19, 20, 21, 22, 23, 24]), (0, []), (0, []), (0, []), (0, [])]
def d26_at := by have h := tabL d26.eq_1; simp only [AllAt, Nat.zero_add, Nat.reduceAdd] at h; exact h
theorem i26 : finfo Tryz.prog 26 d26 = some ⟨bodyOf Tryz.f26, [.tmp 4], [4]⟩ := finfo_at Tryz.func26 rfl (by kernel_rfl) (by kernel_rfl)
def e26 : Bool → AV := fun r => .v (.bool r)
set_option maxHeartbeats 20000000 in
theorem w26 (cp : CallP) (fu : Nat) (x1 : List Int) (x2 : List Int) : J (go Tryz.prog noC cp noI 0 [] d26 fu (fin Tryz.prog [.tmp 4] [4]) (bodyOf Tryz.f26) (initE 0 [.arr x1.length (lm (ik .i64) x1), .arr x2.length (lm (ik .i64) x2)]) [] []) (ref04_SameInts fu x1 x2) e26 := by
 unfold ref04_SameInts e26
 conv => arg 1; simp (disch := first | exact Zd | fail) only [bodyOf, Tryz.f26, ZZ, d26_at, simprocAttr]
 refine J.eq go_seq ?_
 conv => arg 1; simp (disch := first | exact Zd | fail) only [ZZ, d26_at, simprocAttr]
 refine J.ite (fun h1 => ?_) (fun h1 => ?_)
 ·have h1' := decide_eq_true h1
  conv => arg 1; simp (disch := first | exact Zd | fail) only [ZZ, d26_at, simprocAttr, h1']
  refine J.eq ret_seq ?_
  refine J.eq go_seq ?_
  conv => arg 1; simp (disch := first | exact Zd | fail) only [ZZ, d26_at, simprocAttr, h1']
  unfold ref04_SameInts.W1
  refine J.loop (fun (s : Int) => ([(0, .arr x1.length (lm (ik .i64) x1)), (1, .arr x2.length (lm (ik .i64) x2)), (5, .v (.int .i64 s))], [])) (fun next s => ref04_SameInts.L1 fu x1 x2 next s) (s0 := 0) ?_ ?_ ?_
  ·exact Ze
  ·exact Zh
  rintro nx1 k1 hn1 x5
  show J _ (ref04_SameInts.L1 fu x1 x2 nx1 x5) _
  unfold ref04_SameInts.L1
  refine J.eq go_seq ?_
  conv => arg 1; simp (disch := first | exact Zd | fail) only [ZZ, d26_at, simprocAttr, h1']
  refine J.ite (fun h2 => ?_) (fun h2 => ?_)
  ·have h2' := decide_eq_true h2
   have h2'' : decide ((x1.length : Int) ≤ x5) = false := decide_eq_false (by omega)
   conv => arg 1; simp (disch := first | exact Zd | fail) only [ZZ, d26_at, simprocAttr, h1', h2'', h2']
   refine J.eq ret_seq ?_
   refine J.eq go_seq ?_
   refine J.at fun x8 h3 h4 h5 => ?_
   refine J.at fun x9 h6 h7 h8 => ?_
   conv => arg 1; simp (disch := first | exact Zd | fail) only [ZZ, d26_at, simprocAttr, h1', h2'', h2', lm_ik h5, lm_ik h8]
   refine J.ite (fun h9 => ?_) (fun h9 => ?_)
   ·have h9' := decide_eq_true h9
    conv => arg 1; simp (disch := first | exact Zd | fail) only [ZZ, d26_at, simprocAttr, h1', h2'', h2', lm_ik h5, lm_ik h8, h9']
    refine J.eq ret_seq ?_
    conv => arg 1; simp (disch := first | exact Zd | fail) only [ZZ, d26_at, simprocAttr, h1', h2'', h2', lm_ik h5, lm_ik h8, h9']
    refine J.next (s := wk .i64 (x5 + 1)) hn1 ?_ ?_
    ·exact Ze
    ·exact Zh
   ·have h9' := decide_eq_false h9
    refine J.some ?_
    simp (maxSteps := 20000000) (disch := first | exact Zd | fail) only [ZZ, d26_at, simprocAttr, h1', h2'', h2', lm_ik h5, lm_ik h8, h9', FN]
  ·have h2' := decide_eq_false h2
   have h2'' : decide ((x1.length : Int) ≤ x5) = true := decide_eq_true (by omega)
   conv => arg 1; simp (disch := first | exact Zd | fail) only [ZZ, d26_at, simprocAttr, h1', h2'', h2']
   refine J.eq ret_seq ?_
   refine J.some ?_
   simp (maxSteps := 20000000) (disch := first | exact Zd | fail) only [ZZ, d26_at, simprocAttr, h1', h2'', h2', FN]
 ·have h1' := decide_eq_false h1
  refine J.some ?_
  simp (maxSteps := 20000000) (disch := first | exact Zd | fail) only [ZZ, d26_at, simprocAttr, h1', FN]
noncomputable def t26 (fu : Nat) : CallP := noP
theorem t26_ok (fu : Nat) : CpOK Tryz.prog (t26 fu ) := noP_ok
theorem ok26 (fu : Nat) (x1 : List Int) (x2 : List Int) (r) (h : ref04_SameInts fu x1 x2 = some r) : PureOK Tryz.prog 26 [.arr x1.length (lm (ik .i64) x1), .arr x2.length (lm (ik .i64) x2)] (e26 r) :=
  pure_J mixed (cp := t26 fu ) (t26_ok fu  ) noI_ok i26 (w26 _ fu x1 x2  ) h
/-! 11: lattice/latticeref05.Same -/
def d11 : List (Nat × List Nat) := [(0, [0, 1, 4]), (0, [5]), (0, [8, 9, 10, 11, 12, 13, 14, 15, 16, 17, 18, 19, 20, 21, 22, 23, 24, 25, 26, 27, 28, 29, 30, 31, 32, 33, 34, 35, 36, 37, 38, 39, 40, 41, 42, 43, 44, 45, 46]), (0, []), (0, []), (0, [6]), (0, []), (0, []), (0, [48, 49, 50, 51]), (0, [2, 3, 7]), (0, [53, 54]), (0, []), (11, [55, 56, 57, 58, 59, 60, 61, 62, 63, 64]), (0, []), (0, []), (0, []), (0, []), (0, []), (0, [66, 67, 68, 69]), (0, []), (0, [71, 72]), (0, []), (11, [73, 74, 75, 76, 77, 78, 79, 80, 81, 82]), (0, []), (0, []), (0, []), (0, []), (0, []), (0, [84, 85, 86, 87]), (0, []), (0, [89, 90]), (0, []), (11, [91, 92, 93, 94, 95, 96, 97, 98, 99, 100]), (0, []), (0, []), (0, []), (0, [])]
def d11_at := by have h := tabL d11.eq_1; simp only [AllAt, Nat.zero_add, Nat.reduceAdd] at h; exact h
theorem i11 : finfo Tryz.prog 11 d11 = some ⟨bodyOf Tryz.f11, [.tmp 4], [4]⟩ := finfo_at Tryz.func11 rfl (by kernel_rfl) (by kernel_rfl)
def e11 : Bool → AV := fun r => .v (.bool r)
set_option maxHeartbeats 20000000 in
theorem w11 (cp : CallP) (fu : Nat) (x1 : T_Tensor) (x2 : T_Tensor) (H26_0 : ∀ (a0 : List Int) (a1 : List Int) r, ref04_SameInts fu a0 a1 = some r → cp 26 [.arr a0.length (lm (ik .i64) a0), .arr a1.length (lm (ik .i64) a1)] = some (.v (.bool r))) : J (go Tryz.prog noC cp noI 0 [] d11 fu (fin Tryz.prog [.tmp 4] [4]) (bodyOf Tryz.f11) (initE 0 [.agg (c_T_Tensor x1), .agg (c_T_Tensor x2)]) [] []) (ref05_Same fu x1 x2) e11 := by
 unfold ref05_Same e11
 conv => arg 1; simp (disch := first | exact Zd | fail) only [bodyOf, Tryz.f11, ZZ, d11_at, simprocAttr]
 refine J.joinS (fun (t : Unit) => ([(2, .ptr (0, 2, 0) 0 0), (3, .ptr (0, 3, 0) 0 0)], [((0, 2, 0), .bx true ([.v (.int .i64 x1.fType), .arr x1.fDims.length (lm (ik .i64) x1.fDims), .arr x1.fF.length (lm (ik .u32) x1.fF), .arr x1.fI.length (lm (ik .i64) x1.fI), .arr x1.fB.length (lm (bk) x1.fB)])), ((0, 3, 0), .bx true ([.v (.int .i64 x2.fType), .arr x2.fDims.length (lm (ik .i64) x2.fDims), .arr x2.fF.length (lm (ik .u32) x2.fF), .arr x2.fI.length (lm (ik .i64) x2.fI), .arr x2.fB.length (lm (bk) x2.fB)]))])) (fun t => ref05_Same.k1 fu x1 x2) ?_ (fun hj1 => ?_)
 ·rintro ⟨⟩
  show J _ (ref05_Same.k1 fu x1 x2) _
  unfold ref05_Same.k1
  refine J.joinS (fun (t : Unit) => ([(2, .ptr (0, 2, 0) 0 0), (3, .ptr (0, 3, 0) 0 0)], [((0, 2, 0), .bx true ([.v (.int .i64 x1.fType), .arr x1.fDims.length (lm (ik .i64) x1.fDims), .arr x1.fF.length (lm (ik .u32) x1.fF), .arr x1.fI.length (lm (ik .i64) x1.fI), .arr x1.fB.length (lm (bk) x1.fB)])), ((0, 3, 0), .bx true ([.v (.int .i64 x2.fType), .arr x2.fDims.length (lm (ik .i64) x2.fDims), .arr x2.fF.length (lm (ik .u32) x2.fF), .arr x2.fI.length (lm (ik .i64) x2.fI), .arr x2.fB.length (lm (bk) x2.fB)]))])) (fun t => ref05_Same.k2 fu x1 x2) ?_ (fun hj2 => ?_)
  ·rintro ⟨⟩
   show J _ (ref05_Same.k2 fu x1 x2) _
   unfold ref05_Same.k2
   refine J.joinS (fun (t : Unit) => ([(2, .ptr (0, 2, 0) 0 0), (3, .ptr (0, 3, 0) 0 0)], [((0, 2, 0), .bx true ([.v (.int .i64 x1.fType), .arr x1.fDims.length (lm (ik .i64) x1.fDims), .arr x1.fF.length (lm (ik .u32) x1.fF), .arr x1.fI.length (lm (ik .i64) x1.fI), .arr x1.fB.length (lm (bk) x1.fB)])), ((0, 3, 0), .bx true ([.v (.int .i64 x2.fType), .arr x2.fDims.length (lm (ik .i64) x2.fDims), .arr x2.fF.length (lm (ik .u32) x2.fF), .arr x2.fI.length (lm (ik .i64) x2.fI), .arr x2.fB.length (lm (bk) x2.fB)]))])) (fun t => ref05_Same.k3 fu x1 x2) ?_ (fun hj3 => ?_)
   ·rintro ⟨⟩
    show J _ (ref05_Same.k3 fu x1 x2) _
    unfold ref05_Same.k3
    refine J.eq go_seq ?_
    conv => arg 1; simp (disch := first | exact Zd | fail) only [ZZ, d11_at, simprocAttr]
    unfold ref05_Same.W1
    refine J.loop (fun (s : Int) => ([(2, .ptr (0, 2, 0) 0 0), (3, .ptr (0, 3, 0) 0 0), (7, .v (.int .i64 s))], [((0, 2, 0), .bx true ([.v (.int .i64 x1.fType), .arr x1.fDims.length (lm (ik .i64) x1.fDims), .arr x1.fF.length (lm (ik .u32) x1.fF), .arr x1.fI.length (lm (ik .i64) x1.fI), .arr x1.fB.length (lm (bk) x1.fB)])), ((0, 3, 0), .bx true ([.v (.int .i64 x2.fType), .arr x2.fDims.length (lm (ik .i64) x2.fDims), .arr x2.fF.length (lm (ik .u32) x2.fF), .arr x2.fI.length (lm (ik .i64) x2.fI), .arr x2.fB.length (lm (bk) x2.fB)]))])) (fun next s => ref05_Same.L1 fu x1 x2 next s) (s0 := 0) ?_ ?_ ?_
    ·exact Ze
    ·exact Zh
    rintro nx1 k1 hn1 x5
    show J _ (ref05_Same.L1 fu x1 x2 nx1 x5) _
    unfold ref05_Same.L1
    refine J.eq go_seq ?_
    conv => arg 1; simp (disch := first | exact Zd | fail) only [ZZ, d11_at, simprocAttr]
    refine J.ite (fun h1 => ?_) (fun h1 => ?_)
    ·have h1' := decide_eq_true h1
     have h1'' : decide ((x1.fB.length : Int) ≤ x5) = false := decide_eq_false (by omega)
     conv => arg 1; simp (disch := first | exact Zd | fail) only [ZZ, d11_at, simprocAttr, h1'', h1']
     refine J.eq ret_seq ?_
     refine J.eq go_seq ?_
     refine J.at fun x8 h2 h3 h4 => ?_
     refine J.at fun x9 h5 h6 h7 => ?_
     conv => arg 1; simp (disch := first | exact Zd | fail) only [ZZ, d11_at, simprocAttr, h1'', h1', lm_bk h4, lm_bk h7]
     refine J.ite (fun h8 => ?_) (fun h8 => ?_)
     ·have h8' : (x8 == x9) = true := h8
      conv => arg 1; simp (disch := first | exact Zd | fail) only [ZZ, d11_at, simprocAttr, h1'', h1', lm_bk h4, lm_bk h7, h8']
      refine J.eq ret_seq ?_
      conv => arg 1; simp (disch := first | exact Zd | fail) only [ZZ, d11_at, simprocAttr, h1'', h1', lm_bk h4, lm_bk h7, h8']
      refine J.next (s := wk .i64 (x5 + 1)) hn1 ?_ ?_
      ·exact Ze
      ·exact Zh
     ·have h8' : (x8 == x9) = false := Bool.eq_false_iff.2 h8
      refine J.some ?_
      simp (maxSteps := 20000000) (disch := first | exact Zd | fail) only [ZZ, d11_at, simprocAttr, h1'', h1', lm_bk h4, lm_bk h7, h8', FN]
    ·have h1' := decide_eq_false h1
     have h1'' : decide ((x1.fB.length : Int) ≤ x5) = true := decide_eq_true (by omega)
     conv => arg 1; simp (disch := first | exact Zd | fail) only [ZZ, d11_at, simprocAttr, h1'', h1']
     refine J.eq ret_seq ?_
     refine J.some ?_
     simp (maxSteps := 20000000) (disch := first | exact Zd | fail) only [ZZ, d11_at, simprocAttr, h1'', h1', FN]
   ·refine J.hd jn_at ?_
    conv => arg 1; simp (disch := first | exact Zd | fail) only [ZZ, d11_at, simprocAttr]
    unfold ref05_Same.W2
    refine J.loop (fun (s : Int) => ([(2, .ptr (0, 2, 0) 0 0), (3, .ptr (0, 3, 0) 0 0), (6, .v (.int .i64 s))], [((0, 2, 0), .bx true ([.v (.int .i64 x1.fType), .arr x1.fDims.length (lm (ik .i64) x1.fDims), .arr x1.fF.length (lm (ik .u32) x1.fF), .arr x1.fI.length (lm (ik .i64) x1.fI), .arr x1.fB.length (lm (bk) x1.fB)])), ((0, 3, 0), .bx true ([.v (.int .i64 x2.fType), .arr x2.fDims.length (lm (ik .i64) x2.fDims), .arr x2.fF.length (lm (ik .u32) x2.fF), .arr x2.fI.length (lm (ik .i64) x2.fI), .arr x2.fB.length (lm (bk) x2.fB)]))])) (fun next s => ref05_Same.L2 fu x1 x2 next s) (s0 := 0) ?_ ?_ ?_
    ·exact Ze
    ·exact Zh
    rintro nx2 k2 hn2 x12
    show J _ (ref05_Same.L2 fu x1 x2 nx2 x12) _
    unfold ref05_Same.L2
    refine J.eq go_seq ?_
    conv => arg 1; simp (disch := first | exact Zd | fail) only [ZZ, d11_at, simprocAttr]
    refine J.ite (fun h9 => ?_) (fun h9 => ?_)
    ·have h9' := decide_eq_true h9
     have h9'' : decide ((x1.fI.length : Int) ≤ x12) = false := decide_eq_false (by omega)
     conv => arg 1; simp (disch := first | exact Zd | fail) only [ZZ, d11_at, simprocAttr, h9'', h9']
     refine J.eq ret_seq ?_
     refine J.eq go_seq ?_
     refine J.at fun x15 h10 h11 h12 => ?_
     refine J.at fun x16 h13 h14 h15 => ?_
     conv => arg 1; simp (disch := first | exact Zd | fail) only [ZZ, d11_at, simprocAttr, h9'', h9', lm_ik h12, lm_ik h15]
     refine J.ite (fun h16 => ?_) (fun h16 => ?_)
     ·have h16' := decide_eq_true h16
      conv => arg 1; simp (disch := first | exact Zd | fail) only [ZZ, d11_at, simprocAttr, h9'', h9', lm_ik h12, lm_ik h15, h16']
      refine J.eq ret_seq ?_
      conv => arg 1; simp (disch := first | exact Zd | fail) only [ZZ, d11_at, simprocAttr, h9'', h9', lm_ik h12, lm_ik h15, h16']
      refine J.next (s := wk .i64 (x12 + 1)) hn2 ?_ ?_
      ·exact Ze
      ·exact Zh
     ·have h16' := decide_eq_false h16
      refine J.some ?_
      simp (maxSteps := 20000000) (disch := first | exact Zd | fail) only [ZZ, d11_at, simprocAttr, h9'', h9', lm_ik h12, lm_ik h15, h16', FN]
    ·have h9' := decide_eq_false h9
     have h9'' : decide ((x1.fI.length : Int) ≤ x12) = true := decide_eq_true (by omega)
     conv => arg 1; simp (disch := first | exact Zd | fail) only [ZZ, d11_at, simprocAttr, h9'', h9']
     refine J.jmp (t := ()) hj3 ?_ ?_
     ·exact Ze
     ·exact Zh
  ·refine J.hd jn_at ?_
   conv => arg 1; simp (disch := first | exact Zd | fail) only [ZZ, d11_at, simprocAttr]
   unfold ref05_Same.W3
   refine J.loop (fun (s : Int) => ([(2, .ptr (0, 2, 0) 0 0), (3, .ptr (0, 3, 0) 0 0), (5, .v (.int .i64 s))], [((0, 2, 0), .bx true ([.v (.int .i64 x1.fType), .arr x1.fDims.length (lm (ik .i64) x1.fDims), .arr x1.fF.length (lm (ik .u32) x1.fF), .arr x1.fI.length (lm (ik .i64) x1.fI), .arr x1.fB.length (lm (bk) x1.fB)])), ((0, 3, 0), .bx true ([.v (.int .i64 x2.fType), .arr x2.fDims.length (lm (ik .i64) x2.fDims), .arr x2.fF.length (lm (ik .u32) x2.fF), .arr x2.fI.length (lm (ik .i64) x2.fI), .arr x2.fB.length (lm (bk) x2.fB)]))])) (fun next s => ref05_Same.L3 fu x1 x2 next s) (s0 := 0) ?_ ?_ ?_
   ·exact Ze
   ·exact Zh
   rintro nx3 k3 hn3 x19
   show J _ (ref05_Same.L3 fu x1 x2 nx3 x19) _
   unfold ref05_Same.L3
   refine J.eq go_seq ?_
   conv => arg 1; simp (disch := first | exact Zd | fail) only [ZZ, d11_at, simprocAttr]
   refine J.ite (fun h17 => ?_) (fun h17 => ?_)
   ·have h17' := decide_eq_true h17
    have h17'' : decide ((x1.fF.length : Int) ≤ x19) = false := decide_eq_false (by omega)
    conv => arg 1; simp (disch := first | exact Zd | fail) only [ZZ, d11_at, simprocAttr, h17'', h17']
    refine J.eq ret_seq ?_
    refine J.eq go_seq ?_
    refine J.at fun x22 h18 h19 h20 => ?_
    refine J.at fun x23 h21 h22 h23 => ?_
    conv => arg 1; simp (disch := first | exact Zd | fail) only [ZZ, d11_at, simprocAttr, h17'', h17', lm_ik h20, lm_ik h23]
    refine J.ite (fun h24 => ?_) (fun h24 => ?_)
    ·have h24' := decide_eq_true h24
     conv => arg 1; simp (disch := first | exact Zd | fail) only [ZZ, d11_at, simprocAttr, h17'', h17', lm_ik h20, lm_ik h23, h24']
     refine J.eq ret_seq ?_
     conv => arg 1; simp (disch := first | exact Zd | fail) only [ZZ, d11_at, simprocAttr, h17'', h17', lm_ik h20, lm_ik h23, h24']
     refine J.next (s := wk .i64 (x19 + 1)) hn3 ?_ ?_
     ·exact Ze
     ·exact Zh
    ·have h24' := decide_eq_false h24
     refine J.some ?_
     simp (maxSteps := 20000000) (disch := first | exact Zd | fail) only [ZZ, d11_at, simprocAttr, h17'', h17', lm_ik h20, lm_ik h23, h24', FN]
   ·have h17' := decide_eq_false h17
    have h17'' : decide ((x1.fF.length : Int) ≤ x19) = true := decide_eq_true (by omega)
    conv => arg 1; simp (disch := first | exact Zd | fail) only [ZZ, d11_at, simprocAttr, h17'', h17']
    refine J.jmp (t := ()) hj2 ?_ ?_
    ·exact Ze
    ·exact Zh
 ·refine J.hd jn_at ?_
  refine J.eq go_seq ?_
  conv => arg 1; simp (disch := first | exact Zd | fail) only [ZZ, d11_at, simprocAttr]
  refine J.ite (fun h25 => ?_) (fun h25 => ?_)
  ·have h25' := decide_eq_true h25
   refine J.bind fun x24 h26 => ?_
   have e_h26 := H26_0 _ _ _ h26
   try simp only [NN, NT, LN, simprocAttr, DT] at e_h26
   conv => arg 1; simp (disch := first | exact Zd | fail) only [ZZ, d11_at, simprocAttr, h25', e_h26]
   refine J.ite (fun h27 => ?_) (fun h27 => ?_)
   ·have h27' : x24 = true := h27
    conv => arg 1; simp (disch := first | exact Zd | fail) only [ZZ, d11_at, simprocAttr, h25', e_h26, h27']
    refine J.ite (fun h28 => ?_) (fun h28 => ?_)
    ·have h28' := decide_eq_true h28
     conv => arg 1; simp (disch := first | exact Zd | fail) only [ZZ, d11_at, simprocAttr, h25', e_h26, h27', h28']
     refine J.ite (fun h29 => ?_) (fun h29 => ?_)
     ·have h29' := decide_eq_true h29
      conv => arg 1; simp (disch := first | exact Zd | fail) only [ZZ, d11_at, simprocAttr, h25', e_h26, h27', h28', h29']
      refine J.eq ret_seq ?_
      conv => arg 1; simp (disch := first | exact Zd | fail) only [ZZ, d11_at, simprocAttr, h25', e_h26, h27', h28', h29']
      refine J.ite (fun h30 => ?_) (fun h30 => ?_)
      ·have h30' := decide_eq_true h30
       conv => arg 1; simp (disch := first | exact Zd | fail) only [ZZ, d11_at, simprocAttr, h25', e_h26, h27', h28', h29', h30']
       refine J.jmp (t := ()) hj1 ?_ ?_
       ·exact Ze
       ·exact Zh
      ·have h30' := decide_eq_false h30
       refine J.some ?_
       simp (maxSteps := 20000000) (disch := first | exact Zd | fail) only [ZZ, d11_at, simprocAttr, h25', e_h26, h27', h28', h29', h30', FN]
     ·have h29' := decide_eq_false h29
      conv => arg 1; simp (disch := first | exact Zd | fail) only [ZZ, d11_at, simprocAttr, h25', e_h26, h27', h28', h29']
      refine J.eq ret_seq ?_
      refine J.some ?_
      simp (maxSteps := 20000000) (disch := first | exact Zd | fail) only [ZZ, d11_at, simprocAttr, h25', e_h26, h27', h28', h29', FN]
    ·have h28' := decide_eq_false h28
     conv => arg 1; simp (disch := first | exact Zd | fail) only [ZZ, d11_at, simprocAttr, h25', e_h26, h27', h28']
     refine J.eq ret_seq ?_
     refine J.some ?_
     simp (maxSteps := 20000000) (disch := first | exact Zd | fail) only [ZZ, d11_at, simprocAttr, h25', e_h26, h27', h28', FN]
   ·have h27' : x24 = false := Bool.eq_false_iff.2 h27
    conv => arg 1; simp (disch := first | exact Zd | fail) only [ZZ, d11_at, simprocAttr, h25', e_h26, h27']
    refine J.eq ret_seq ?_
    refine J.some ?_
    simp (maxSteps := 20000000) (disch := first | exact Zd | fail) only [ZZ, d11_at, simprocAttr, h25', e_h26, h27', FN]
  ·have h25' := decide_eq_false h25
   conv => arg 1; simp (disch := first | exact Zd | fail) only [ZZ, d11_at, simprocAttr, h25']
   refine J.eq ret_seq ?_
   refine J.some ?_
   simp (maxSteps := 20000000) (disch := first | exact Zd | fail) only [ZZ, d11_at, simprocAttr, h25', FN]
noncomputable def t11 (fu : Nat) : CallP := orE 26 (mkC (fun (t : (List Int) × (List Int)) => ([.arr t.1.length (lm (ik .i64) t.1), .arr t.2.length (lm (ik .i64) t.2)] : List AV)) (fun t => ref04_SameInts fu t.1 t.2) e26) (noP)
theorem t11_ok (fu : Nat) : CpOK Tryz.prog (t11 fu ) := orE_ok (noP_ok) (mkC_ok (fun t b h => ok26 fu t.1 t.2  b h))
theorem ok11 (fu : Nat) (x1 : T_Tensor) (x2 : T_Tensor) (r) (h : ref05_Same fu x1 x2 = some r) : PureOK Tryz.prog 11 [.agg (c_T_Tensor x1), .agg (c_T_Tensor x2)] (e11 r) :=
  pure_J mixed (cp := t11 fu ) (t11_ok fu  ) noI_ok i11 (w11 _ fu x1 x2  (fun a0 a1 r h => orE_hit (mkC_at (a := (a0, a1)) (by intro a b h; first | (exact rfl) | (simp only [INJ, IJ] at h; first | exact h | (simp_all [Prod.ext_iff]) )) h))) h
end Go.Av
