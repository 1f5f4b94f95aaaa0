/- The walks of the plain functions, part 2. Made by a program of mine. Conditions: none. -/
import Derived.Test.YtoobokgbmjbofaaGreatQ5W1
set_option linter.unusedVariables false
set_option linter.unusedSimpArgs false
set_option linter.defProp false
set_option maxRecDepth 20000
open Go Go.Proofs
namespace Go.Av
open Aw (d16 d18 d23 d24 d26 d27 d37 d38 d39 d40 d45 d46 d47 d48 d78 d79 d80 d81 d82 d83 d85 d86 d87 d89 d101 d102 d103 d104 d133 d135 d136 d137 d143 d144 d207)
/-! 148: (lattice/infer.ask).told$3 -/
def d148 : List (Nat × List Nat) := [(0, [0, 2]), (0, []), (0, [1, 3, 4, 5, 6])]
def d148_at := by have h := tabL d148.eq_1; simp only [AllAt, Nat.zero_add, Nat.reduceAdd] at h; exact h
theorem i148 : finfo Tryz.prog 148 d148 = some ⟨bodyOf Tryz.f148, [.tmp 2], [4]⟩ := finfo_at Tryz.func148 rfl (by kernel_rfl) (by kernel_rfl)
def e148 : Bool → AV := fun r => .v (.bool r)
set_option maxHeartbeats 20000000 in
theorem w148 (cp : CallP) (fu : Nat) (x1 : T_Val) (H149_0 : ∀ (a0 : List Int) r, slices_ContainsFunc_int64 fu a0 (fun y0 => infer_ask_told_3_1 fu y0) = some r → cp 149 [.arr a0.length (lm (ik .i64) a0), .fn 150 [] []] = some (.v (.bool r))) : J (go Tryz.prog noC cp noI 0 [] d148 fu (fin Tryz.prog [.tmp 2] [4]) (bodyOf Tryz.f148) (initE 0 [.agg (c_T_Val x1)]) [] []) (infer_ask_told_3 fu x1) e148 := by
 unfold infer_ask_told_3 e148
 refine J.bind fun x2 h1 => ?_
 have e_h1 := H149_0 _ _ h1
 try simp only [NN, NT, LN, simprocAttr, DT] at e_h1
 refine J.some ?_
 simp (maxSteps := 20000000) (disch := first | exact Zd | fail) only [bodyOf, Tryz.f148, ZZ, d148_at, simprocAttr, e_h1, FF, LN, NN, NT]
noncomputable def t148 (fu : Nat) : CallP := orE 149 (mkC (fun (t : List Int) => ([.arr t.length (lm (ik .i64) t), .fn 150 [] []] : List AV)) (fun t => slices_ContainsFunc_int64 fu t (fun y0 => infer_ask_told_3_1 fu y0)) e149) (noP)
theorem t148_ok (fu : Nat) : CpOK Tryz.prog (t148 fu ) := orE_ok (noP_ok) (mkC_ok (fun t b h => ok149 fu t (fun y0 => infer_ask_told_3_1 fu y0) 150 [] Capt.nil (fun y0 r h => ok150 fu y0  r h) b h))
theorem ok148 (fu : Nat) (x1 : T_Val) (r) (h : infer_ask_told_3 fu x1 = some r) : PureOK Tryz.prog 148 [.agg (c_T_Val x1)] (e148 r) :=
  pure_J mixed (cp := t148 fu ) (t148_ok fu  ) noI_ok i148 (w148 _ fu x1  (fun a0 r h => orE_hit (mkC_at (a := a0) (by intro a b h; first | (exact rfl) | (simp only [INJ, IJ] at h; first | exact h | (simp_all [Prod.ext_iff]) )) h))) h
/-! 88: (lattice/infer.ask).told -/
open Aw (d88)
def d88_at := by have h := tabL Aw.d88.eq_1; simp only [AllAt, Nat.zero_add, Nat.reduceAdd] at h; exact h
theorem i88 : finfo Tryz.prog 88 d88 = some ⟨bodyOf Tryz.f88, [.tmp 2], [35]⟩ := finfo_at Tryz.func88 rfl (by kernel_rfl) (by kernel_rfl)
def e88 : Int → AV := fun r => .v (.int .i64 r)
set_option maxHeartbeats 20000000 in
theorem w88 (cp : CallP) (fu : Nat) (x1 : T_infer_ask) (H143_0 : ∀ (a0 : T_infer_ask) r, infer_ask_lists fu a0 = some r → cp 143 [.agg (c_T_infer_ask a0)] = some (.fresh 8 r.length (fm c_T_Val r))) (H144_0 : ∀ (a0 : List T_Val) r, slices_ContainsFunc_api_Val_api_Val fu a0 (fun y0 => infer_ask_told_1 fu y0) = some r → cp 144 [.arr a0.length (fm c_T_Val a0), .fn 145 [] []] = some (.v (.bool r))) (H144_1 : ∀ (a0 : List T_Val) r, slices_ContainsFunc_api_Val_api_Val fu a0 (fun y0 => infer_ask_told_2 fu y0) = some r → cp 144 [.arr a0.length (fm c_T_Val a0), .fn 147 [] []] = some (.v (.bool r))) (H144_2 : ∀ (a0 : List T_Val) r, slices_ContainsFunc_api_Val_api_Val fu a0 (fun y0 => infer_ask_told_3 fu y0) = some r → cp 144 [.arr a0.length (fm c_T_Val a0), .fn 148 [] []] = some (.v (.bool r))) : J (go Tryz.prog noC cp noI 0 [] d88 fu (fin Tryz.prog [.tmp 2] [35]) (bodyOf Tryz.f88) (initE 0 [.agg (c_T_infer_ask x1)]) [] []) (infer_ask_told fu x1) e88 := by
 unfold infer_ask_told e88
 refine J.chk fun h1 => ?_
 refine J.bind fun x2 h2 => ?_
 have e_h2 := H143_0 _ _ h2
 try simp only [NN, NT, LN, simprocAttr, DT] at e_h2
 conv => arg 1; simp (disch := first | exact Zd | fail) only [bodyOf, Tryz.f88, ZZ, d88_at, simprocAttr, h1, e_h2]
 refine J.eq go_seq ?_
 refine J.bind fun x3 h3 => ?_
 have e_h3 := H144_0 _ _ h3
 try simp only [NN, NT, LN, simprocAttr, DT] at e_h3
 conv => arg 1; simp (disch := first | exact Zd | fail) only [ZZ, d88_at, simprocAttr, h1, e_h2, e_h3]
 refine J.ite (fun h4 => ?_) (fun h4 => ?_)
 ·have h4' : x3 = true := h4
  refine J.some ?_
  simp (maxSteps := 20000000) (disch := first | exact Zd | fail) only [ZZ, d88_at, simprocAttr, h1, e_h2, e_h3, h4', FF, LN, NN, NT]
 ·have h4' : x3 = false := Bool.eq_false_iff.2 h4
  refine J.bind fun x4 h5 => ?_
  have e_h5 := H144_1 _ _ h5
  try simp only [NN, NT, LN, simprocAttr, DT] at e_h5
  conv => arg 1; simp (disch := first | exact Zd | fail) only [ZZ, d88_at, simprocAttr, h1, e_h2, e_h3, h4', e_h5]
  refine J.ite (fun h6 => ?_) (fun h6 => ?_)
  ·have h6' : x4 = true := h6
   refine J.some ?_
   simp (maxSteps := 20000000) (disch := first | exact Zd | fail) only [ZZ, d88_at, simprocAttr, h1, e_h2, e_h3, h4', e_h5, h6', FF, LN, NN, NT]
  ·have h6' : x4 = false := Bool.eq_false_iff.2 h6
   conv => arg 1; simp (disch := first | exact Zd | fail) only [ZZ, d88_at, simprocAttr, h1, e_h2, e_h3, h4', e_h5, h6']
   refine J.eq go_seq ?_
   refine J.bind fun x5 h7 => ?_
   have e_h7 := H144_2 _ _ h7
   try simp only [NN, NT, LN, simprocAttr, DT] at e_h7
   conv => arg 1; simp (disch := first | exact Zd | fail) only [ZZ, d88_at, simprocAttr, h1, e_h2, e_h3, h4', e_h5, h6', e_h7]
   refine J.eq ret_seq ?_
   conv => arg 1; simp (disch := first | exact Zd | fail) only [ZZ, d88_at, simprocAttr, h1, e_h2, e_h3, h4', e_h5, h6', e_h7]
   refine J.ite (fun h8 => ?_) (fun h8 => ?_)
   ·have h8' : x5 = true := h8
    refine J.some ?_
    simp (maxSteps := 20000000) (disch := first | exact Zd | fail) only [ZZ, d88_at, simprocAttr, h1, e_h2, e_h3, h4', e_h5, h6', e_h7, h8', FF, LN, NN, NT]
   ·have h8' : x5 = false := Bool.eq_false_iff.2 h8
    conv => arg 1; simp (disch := first | exact Zd | fail) only [ZZ, d88_at, simprocAttr, h1, e_h2, e_h3, h4', e_h5, h6', e_h7, h8']
    refine J.eq ret_seq ?_
    refine J.some ?_
    simp (maxSteps := 20000000) (disch := first | exact Zd | fail) only [ZZ, d88_at, simprocAttr, h1, e_h2, e_h3, h4', e_h5, h6', e_h7, h8', FF, LN, NN, NT]
noncomputable def t88 (fu : Nat) : CallP := orE 143 (mkC (fun (t : T_infer_ask) => ([.agg (c_T_infer_ask t)] : List AV)) (fun t => infer_ask_lists fu t) e143) (orE 144 (mkC (fun (t : List T_Val) => ([.arr t.length (fm c_T_Val t), .fn 145 [] []] : List AV)) (fun t => slices_ContainsFunc_api_Val_api_Val fu t (fun y0 => infer_ask_told_1 fu y0)) e144) (orE 144 (mkC (fun (t : List T_Val) => ([.arr t.length (fm c_T_Val t), .fn 147 [] []] : List AV)) (fun t => slices_ContainsFunc_api_Val_api_Val fu t (fun y0 => infer_ask_told_2 fu y0)) e144) (orE 144 (mkC (fun (t : List T_Val) => ([.arr t.length (fm c_T_Val t), .fn 148 [] []] : List AV)) (fun t => slices_ContainsFunc_api_Val_api_Val fu t (fun y0 => infer_ask_told_3 fu y0)) e144) (noP))))
theorem t88_ok (fu : Nat) : CpOK Tryz.prog (t88 fu ) := orE_ok (orE_ok (orE_ok (orE_ok (noP_ok) (mkC_ok (fun t b h => ok144 fu t (fun y0 => infer_ask_told_3 fu y0) 148 [] Capt.nil (fun y0 r h => ok148 fu y0  r h) b h))) (mkC_ok (fun t b h => ok144 fu t (fun y0 => infer_ask_told_2 fu y0) 147 [] Capt.nil (fun y0 r h => ok147 fu y0  r h) b h))) (mkC_ok (fun t b h => ok144 fu t (fun y0 => infer_ask_told_1 fu y0) 145 [] Capt.nil (fun y0 r h => ok145 fu y0  r h) b h))) (mkC_ok (fun t b h => ok143 fu t  b h))
theorem ok88 (fu : Nat) (x1 : T_infer_ask) (r) (h : infer_ask_told fu x1 = some r) : PureOK Tryz.prog 88 [.agg (c_T_infer_ask x1)] (e88 r) :=
  pure_J mixed (cp := t88 fu ) (t88_ok fu  ) noI_ok i88 (w88 _ fu x1  (fun a0 r h => orE_hit (mkC_at (a := a0) (by intro a b h; first | (exact rfl) | (simp only [INJ, IJ] at h; first | exact h | (simp_all [Prod.ext_iff]) )) h)) (fun a0 r h => orE_miss (by decide) (orE_hit (mkC_at (a := a0) (by intro a b h; first | (exact rfl) | (simp only [INJ, IJ] at h; first | exact h | (simp_all [Prod.ext_iff]) )) h))) (fun a0 r h => orE_miss (by decide) (orE_next (mkC_none (by intro t h; simp at h)) (orE_hit (mkC_at (a := a0) (by intro a b h; first | (exact rfl) | (simp only [INJ, IJ] at h; first | exact h | (simp_all [Prod.ext_iff]) )) h)))) (fun a0 r h => orE_miss (by decide) (orE_next (mkC_none (by intro t h; simp at h)) (orE_next (mkC_none (by intro t h; simp at h)) (orE_hit (mkC_at (a := a0) (by intro a b h; first | (exact rfl) | (simp only [INJ, IJ] at h; first | exact h | (simp_all [Prod.ext_iff]) )) h)))))) h
/-! 41: (lattice/infer.ask).wrong -/
open Aw (d41)
def d41_at := by have h := tabL Aw.d41.eq_1; simp only [AllAt, Nat.zero_add, Nat.reduceAdd] at h; exact h
theorem i41 : finfo Tryz.prog 41 d41 = some ⟨bodyOf Tryz.f41, [.tmp 2], [35]⟩ := finfo_at Tryz.func41 rfl (by kernel_rfl) (by kernel_rfl)
def e41 : Int → AV := fun r => .v (.int .i64 r)
set_option maxHeartbeats 20000000 in
theorem w41 (cp : CallP) (fu : Nat) (x1 : T_infer_ask) (H27_0 : ∀ (a0 : List Int) r, shape_Size fu a0 = some r → cp 27 [.arr a0.length (lm (ik .i64) a0)] = some (.tuple [.v (.int .i64 r.1), .v (.int .i64 r.2)])) (H85_0 : ∀ (a0 : T_infer_ask) (a1 : Int) r, infer_ask_has fu a0 a1 = some r → cp 85 [.agg (c_T_infer_ask a0), .v (.int .i64 a1)] = some (.v (.bool r))) (H86_0 : ∀ (a0 : T_infer_ask) r, infer_ask_typed fu a0 = some r → cp 86 [.agg (c_T_infer_ask a0)] = some (.v (.bool r))) (H87_0 : ∀ (a0 : T_infer_ask) r, infer_ask_attributes fu a0 = some r → cp 87 [.agg (c_T_infer_ask a0)] = some (.v (.bool r))) (H88_0 : ∀ (a0 : T_infer_ask) r, infer_ask_told fu a0 = some r → cp 88 [.agg (c_T_infer_ask a0)] = some (.v (.int .i64 r))) : J (go Tryz.prog noC cp noI 0 [] d41 fu (fin Tryz.prog [.tmp 2] [35]) (bodyOf Tryz.f41) (initE 0 [.agg (c_T_infer_ask x1)]) [] []) (infer_ask_wrong fu x1) e41 := by
 unfold infer_ask_wrong e41
 refine J.chk fun h1 => ?_
 conv => arg 1; simp (disch := first | exact Zd | fail) only [bodyOf, Tryz.f41, ZZ, d41_at, simprocAttr, h1]
 refine J.joinS (fun (t : Unit) => ([(1, .ptr (0, 1, 0) 0 0)], [((0, 1, 0), .bx true ([.v (.int .i64 73), .v (.int .i64 x1.fs.fAxis), .arr x1.fs.fAxes.length (lm (ik .i64) x1.fs.fAxes), .v (.bool x1.fs.fHasAxes), .v (.bool x1.fs.fKeep), .v (.bool x1.fs.fNoop), .v (.bool x1.fs.fLast), .v (.bool x1.fs.fZero), .arr x1.fs.fPerm.length (lm (ik .i64) x1.fs.fPerm), .v (.bool x1.fs.fHasPerm), .v (.int .u32 x1.fs.fAlpha), .v (.int .u32 x1.fs.fBeta), .v (.int .u32 x1.fs.fEpsilon), .v (.bool x1.fs.fLow), .v (.bool x1.fs.fHigh), .v (.bool x1.fs.fFmod), .v (.int .i64 x1.fs.fTo), .v (.int .i64 x1.fs.fMode), .v (.bool x1.fs.fTransA), .v (.bool x1.fs.fTransB), .v (.int .i64 x1.fs.fGroup), .arr x1.fs.fKernel.length (lm (ik .i64) x1.fs.fKernel), .arr x1.fs.fStrides.length (lm (ik .i64) x1.fs.fStrides), .arr x1.fs.fPads.length (lm (ik .i64) x1.fs.fPads), .arr x1.fs.fDilations.length (lm (ik .i64) x1.fs.fDilations), .v (.int .i64 x1.fs.fAuto), .v (.bool x1.fs.fCeil), .v (.bool x1.fs.fCount), .v (.int .i64 x1.fs.fBlock), .v (.int .i64 x1.fs.fStart), .v (.int .i64 x1.fs.fEnd), .v (.bool x1.fs.fHasEnd), .v (.int .i64 x1.fs.fValue.fType), .arr x1.fs.fValue.fDims.length (lm (ik .i64) x1.fs.fValue.fDims), .arr x1.fs.fValue.fF.length (lm (ik .u32) x1.fs.fValue.fF), .arr x1.fs.fValue.fI.length (lm (ik .i64) x1.fs.fValue.fI), .arr x1.fs.fValue.fB.length (lm (bk) x1.fs.fValue.fB), .arr x1.fin.length (fm c_T_Val x1.fin), .v (.int .i64 x1.fouts)]))])) (fun t => infer_ask_wrong_k1 fu x1) ?_ (fun hj1 => ?_)
 ·rintro ⟨⟩
  show J _ (infer_ask_wrong_k1 fu x1) _
  unfold infer_ask_wrong_k1
  refine J.eq go_seq ?_
  refine J.bind fun x2 h2 => ?_
  have e_h2 := H86_0 _ _ h2
  try simp only [NN, NT, LN, simprocAttr, DT] at e_h2
  conv => arg 1; simp (disch := first | exact Zd | fail) only [ZZ, d41_at, simprocAttr, h1, e_h2]
  refine J.ite (fun h3 => ?_) (fun h3 => ?_)
  ·have h3' : x2 = true := h3
   refine J.bind fun x3 h4 => ?_
   have e_h4 := H87_0 _ _ h4
   try simp only [NN, NT, LN, simprocAttr, DT] at e_h4
   conv => arg 1; simp (disch := first | exact Zd | fail) only [ZZ, d41_at, simprocAttr, h1, e_h2, h3', e_h4]
   refine J.ite (fun h5 => ?_) (fun h5 => ?_)
   ·have h5' : x3 = true := h5
    conv => arg 1; simp (disch := first | exact Zd | fail) only [ZZ, d41_at, simprocAttr, h1, e_h2, h3', e_h4, h5']
    refine J.eq ret_seq ?_
    refine J.bind fun x4 h6 => ?_
    have e_h6 := H88_0 _ _ h6
    try simp only [NN, NT, LN, simprocAttr, DT] at e_h6
    refine J.some ?_
    simp (maxSteps := 20000000) (disch := first | exact Zd | fail) only [ZZ, d41_at, simprocAttr, h1, e_h2, h3', e_h4, h5', e_h6, FF, LN, NN, NT]
   ·have h5' : x3 = false := Bool.eq_false_iff.2 h5
    refine J.some ?_
    simp (maxSteps := 20000000) (disch := first | exact Zd | fail) only [ZZ, d41_at, simprocAttr, h1, e_h2, h3', e_h4, h5', FF, LN, NN, NT]
  ·have h3' : x2 = false := Bool.eq_false_iff.2 h3
   refine J.some ?_
   simp (maxSteps := 20000000) (disch := first | exact Zd | fail) only [ZZ, d41_at, simprocAttr, h1, e_h2, h3', FF, LN, NN, NT]
 ·conv => arg 1; simp (disch := first | exact Zd | fail) only [ZZ, d41_at, simprocAttr, h1]
  unfold infer_ask_wrong_W1
  refine J.loop (fun (s : Int) => ([(1, .ptr (0, 1, 0) 0 0), (8, .arr x1.fin.length (fm c_T_Val x1.fin)), (9, .v (.int .i64 (x1.fin.length : Int))), (10, .v (.int .i64 s))], [((0, 1, 0), .bx true ([.v (.int .i64 73), .v (.int .i64 x1.fs.fAxis), .arr x1.fs.fAxes.length (lm (ik .i64) x1.fs.fAxes), .v (.bool x1.fs.fHasAxes), .v (.bool x1.fs.fKeep), .v (.bool x1.fs.fNoop), .v (.bool x1.fs.fLast), .v (.bool x1.fs.fZero), .arr x1.fs.fPerm.length (lm (ik .i64) x1.fs.fPerm), .v (.bool x1.fs.fHasPerm), .v (.int .u32 x1.fs.fAlpha), .v (.int .u32 x1.fs.fBeta), .v (.int .u32 x1.fs.fEpsilon), .v (.bool x1.fs.fLow), .v (.bool x1.fs.fHigh), .v (.bool x1.fs.fFmod), .v (.int .i64 x1.fs.fTo), .v (.int .i64 x1.fs.fMode), .v (.bool x1.fs.fTransA), .v (.bool x1.fs.fTransB), .v (.int .i64 x1.fs.fGroup), .arr x1.fs.fKernel.length (lm (ik .i64) x1.fs.fKernel), .arr x1.fs.fStrides.length (lm (ik .i64) x1.fs.fStrides), .arr x1.fs.fPads.length (lm (ik .i64) x1.fs.fPads), .arr x1.fs.fDilations.length (lm (ik .i64) x1.fs.fDilations), .v (.int .i64 x1.fs.fAuto), .v (.bool x1.fs.fCeil), .v (.bool x1.fs.fCount), .v (.int .i64 x1.fs.fBlock), .v (.int .i64 x1.fs.fStart), .v (.int .i64 x1.fs.fEnd), .v (.bool x1.fs.fHasEnd), .v (.int .i64 x1.fs.fValue.fType), .arr x1.fs.fValue.fDims.length (lm (ik .i64) x1.fs.fValue.fDims), .arr x1.fs.fValue.fF.length (lm (ik .u32) x1.fs.fValue.fF), .arr x1.fs.fValue.fI.length (lm (ik .i64) x1.fs.fValue.fI), .arr x1.fs.fValue.fB.length (lm (bk) x1.fs.fValue.fB), .arr x1.fin.length (fm c_T_Val x1.fin), .v (.int .i64 x1.fouts)]))])) (fun next s => infer_ask_wrong_L1 fu x1 next s) (s0 := 0) ?_ ?_ ?_
  ·first | rfl | (simp only [LN, NN, NT])
  ·first | (simp (disch := first | exact Zd | fail) only [RR, simprocAttr, LN, NN, NT]; done) | (simp (disch := first | exact Zd | fail) only [RR, simprocAttr, LN, fm_app, NN, NT]; done) | rfl
  rintro nx1 k1 hn1 x8
  show J _ (infer_ask_wrong_L1 fu x1 nx1 x8) _
  unfold infer_ask_wrong_L1
  conv => arg 1; simp (disch := first | exact Zd | fail) only [ZZ, d41_at, simprocAttr, h1]
  refine J.eq go_seq ?_
  conv => arg 1; simp (disch := first | exact Zd | fail) only [ZZ, d41_at, simprocAttr, h1]
  refine J.ite (fun h7 => ?_) (fun h7 => ?_)
  ·have h7' := decide_eq_true h7
   have h7'' : decide ((x1.fin.length : Int) ≤ x8) = false := decide_eq_false (by omega)
   conv => arg 1; simp (disch := first | exact Zd | fail) only [ZZ, d41_at, simprocAttr, h1, h7'', h7']
   refine J.eq ret_seq ?_
   refine J.eq go_seq ?_
   refine J.at fun x12 h8 h9 h10 => ?_
   refine J.bind fun x13 h11 => ?_
   have e_h11 := H27_0 _ _ h11
   try simp only [NN, NT, LN, simprocAttr, DT] at e_h11
   conv => arg 1; simp (disch := first | exact Zd | fail) only [ZZ, d41_at, simprocAttr, h1, h7'', h7', fm_cut c_T_Val_len h10, fm_fit c_T_Val_len h10, fm_at c_T_Val_len h10, fm_at0 c_T_Val_len h10, e_h11]
   refine J.eq go_seq ?_
   refine J.bind fun x14 h12 => ?_
   have e_h12 := H85_0 _ _ _ h12
   try simp only [NN, NT, LN, simprocAttr, DT] at e_h12
   conv => arg 1; simp (disch := first | exact Zd | fail) only [ZZ, d41_at, simprocAttr, h1, h7'', h7', fm_cut c_T_Val_len h10, fm_fit c_T_Val_len h10, fm_at c_T_Val_len h10, fm_at0 c_T_Val_len h10, e_h11, e_h12]
   refine J.ite (fun h13 => ?_) (fun h13 => ?_)
   ·have h13' : x14 = true := h13
    conv => arg 1; simp (disch := first | exact Zd | fail) only [ZZ, d41_at, simprocAttr, h1, h7'', h7', fm_cut c_T_Val_len h10, fm_fit c_T_Val_len h10, fm_at c_T_Val_len h10, fm_at0 c_T_Val_len h10, e_h11, e_h12, h13']
    refine J.eq ret_seq ?_
    conv => arg 1; simp (disch := first | exact Zd | fail) only [ZZ, d41_at, simprocAttr, h1, h7'', h7', fm_cut c_T_Val_len h10, fm_fit c_T_Val_len h10, fm_at c_T_Val_len h10, fm_at0 c_T_Val_len h10, e_h11, e_h12, h13']
    refine J.ite (fun h14 => ?_) (fun h14 => ?_)
    ·have h14' := decide_eq_true h14
     conv => arg 1; simp (disch := first | exact Zd | fail) only [ZZ, d41_at, simprocAttr, h1, h7'', h7', fm_cut c_T_Val_len h10, fm_fit c_T_Val_len h10, fm_at c_T_Val_len h10, fm_at0 c_T_Val_len h10, e_h11, e_h12, h13', h14']
     refine J.eq ret_seq ?_
     conv => arg 1; simp (disch := first | exact Zd | fail) only [ZZ, d41_at, simprocAttr, h1, h7'', h7', fm_cut c_T_Val_len h10, fm_fit c_T_Val_len h10, fm_at c_T_Val_len h10, fm_at0 c_T_Val_len h10, e_h11, e_h12, h13', h14']
     refine J.next (s := wk .i64 (x8 + 1)) hn1 ?_ ?_
     ·first | rfl | (simp only [LN, NN, NT])
     ·first | (simp (disch := first | exact Zd | fail) only [RR, simprocAttr, LN, NN, NT]; done) | (simp (disch := first | exact Zd | fail) only [RR, simprocAttr, LN, fm_app, NN, NT]; done) | rfl
    ·have h14' := decide_eq_false h14
     refine J.some ?_
     simp (maxSteps := 20000000) (disch := first | exact Zd | fail) only [ZZ, d41_at, simprocAttr, h1, h7'', h7', fm_cut c_T_Val_len h10, fm_fit c_T_Val_len h10, fm_at c_T_Val_len h10, fm_at0 c_T_Val_len h10, e_h11, e_h12, h13', h14', FF, LN, NN, NT]
   ·have h13' : x14 = false := Bool.eq_false_iff.2 h13
    conv => arg 1; simp (disch := first | exact Zd | fail) only [ZZ, d41_at, simprocAttr, h1, h7'', h7', fm_cut c_T_Val_len h10, fm_fit c_T_Val_len h10, fm_at c_T_Val_len h10, fm_at0 c_T_Val_len h10, e_h11, e_h12, h13']
    refine J.eq ret_seq ?_
    conv => arg 1; simp (disch := first | exact Zd | fail) only [ZZ, d41_at, simprocAttr, h1, h7'', h7', fm_cut c_T_Val_len h10, fm_fit c_T_Val_len h10, fm_at c_T_Val_len h10, fm_at0 c_T_Val_len h10, e_h11, e_h12, h13']
    refine J.eq ret_seq ?_
    conv => arg 1; simp (disch := first | exact Zd | fail) only [ZZ, d41_at, simprocAttr, h1, h7'', h7', fm_cut c_T_Val_len h10, fm_fit c_T_Val_len h10, fm_at c_T_Val_len h10, fm_at0 c_T_Val_len h10, e_h11, e_h12, h13']
    refine J.next (s := wk .i64 (x8 + 1)) hn1 ?_ ?_
    ·first | rfl | (simp only [LN, NN, NT])
    ·first | (simp (disch := first | exact Zd | fail) only [RR, simprocAttr, LN, NN, NT]; done) | (simp (disch := first | exact Zd | fail) only [RR, simprocAttr, LN, fm_app, NN, NT]; done) | rfl
  ·have h7' := decide_eq_false h7
   have h7'' : decide ((x1.fin.length : Int) ≤ x8) = true := decide_eq_true (by omega)
   conv => arg 1; simp (disch := first | exact Zd | fail) only [ZZ, d41_at, simprocAttr, h1, h7'', h7']
   refine J.jmp (t := ()) hj1 ?_ ?_
   ·first | rfl | (simp only [LN, NN, NT])
   ·first | (simp (disch := first | exact Zd | fail) only [RR, simprocAttr, LN, NN, NT]; done) | (simp (disch := first | exact Zd | fail) only [RR, simprocAttr, LN, fm_app, NN, NT]; done) | rfl
noncomputable def t41 (fu : Nat) : CallP := orE 27 (mkC (fun (t : List Int) => ([.arr t.length (lm (ik .i64) t)] : List AV)) (fun t => shape_Size fu t) e27) (orE 85 (mkC (fun (t : T_infer_ask × Int) => ([.agg (c_T_infer_ask t.1), .v (.int .i64 t.2)] : List AV)) (fun t => infer_ask_has fu t.1 t.2) e85) (orE 86 (mkC (fun (t : T_infer_ask) => ([.agg (c_T_infer_ask t)] : List AV)) (fun t => infer_ask_typed fu t) e86) (orE 87 (mkC (fun (t : T_infer_ask) => ([.agg (c_T_infer_ask t)] : List AV)) (fun t => infer_ask_attributes fu t) e87) (orE 88 (mkC (fun (t : T_infer_ask) => ([.agg (c_T_infer_ask t)] : List AV)) (fun t => infer_ask_told fu t) e88) (noP)))))
theorem t41_ok (fu : Nat) : CpOK Tryz.prog (t41 fu ) := orE_ok (orE_ok (orE_ok (orE_ok (orE_ok (noP_ok) (mkC_ok (fun t b h => ok88 fu t  b h))) (mkC_ok (fun t b h => ok87 fu t  b h))) (mkC_ok (fun t b h => ok86 fu t  b h))) (mkC_ok (fun t b h => ok85 fu t.1 t.2  b h))) (mkC_ok (fun t b h => ok27 fu t  b h))
theorem ok41 (fu : Nat) (x1 : T_infer_ask) (r) (h : infer_ask_wrong fu x1 = some r) : PureOK Tryz.prog 41 [.agg (c_T_infer_ask x1)] (e41 r) :=
  pure_J mixed (cp := t41 fu ) (t41_ok fu  ) noI_ok i41 (w41 _ fu x1  (fun a0 r h => orE_hit (mkC_at (a := a0) (by intro a b h; first | (exact rfl) | (simp only [INJ, IJ] at h; first | exact h | (simp_all [Prod.ext_iff]) )) h)) (fun a0 a1 r h => orE_miss (by decide) (orE_hit (mkC_at (a := (a0, a1)) (by intro a b h; first | (exact rfl) | (simp only [INJ, IJ] at h; first | exact h | (simp_all [Prod.ext_iff]) )) h))) (fun a0 r h => orE_miss (by decide) (orE_miss (by decide) (orE_hit (mkC_at (a := a0) (by intro a b h; first | (exact rfl) | (simp only [INJ, IJ] at h; first | exact h | (simp_all [Prod.ext_iff]) )) h)))) (fun a0 r h => orE_miss (by decide) (orE_miss (by decide) (orE_miss (by decide) (orE_hit (mkC_at (a := a0) (by intro a b h; first | (exact rfl) | (simp only [INJ, IJ] at h; first | exact h | (simp_all [Prod.ext_iff]) )) h))))) (fun a0 r h => orE_miss (by decide) (orE_miss (by decide) (orE_miss (by decide) (orE_miss (by decide) (orE_hit (mkC_at (a := a0) (by intro a b h; first | (exact rfl) | (simp only [INJ, IJ] at h; first | exact h | (simp_all [Prod.ext_iff]) )) h))))))) h
/-! 92: lattice/infer.misfit -/
def d92 : List (Nat × List Nat) := [(0, [0, 1]), (0, []), (0, [])]
def d92_at := by have h := tabL d92.eq_1; simp only [AllAt, Nat.zero_add, Nat.reduceAdd] at h; exact h
theorem i92 : finfo Tryz.prog 92 d92 = some ⟨bodyOf Tryz.f92, [.tmp 0, .tmp 1], [67, 35]⟩ := finfo_at Tryz.func92 rfl (by kernel_rfl) (by kernel_rfl)
def e92 : ((List (List Int)) × Int) → AV := fun r => .tuple [.arr r.1.length (lm (avl (ik .i64)) r.1), .v (.int .i64 r.2)]
set_option maxHeartbeats 20000000 in
theorem w92 (cp : CallP) (fu : Nat) : J (go Tryz.prog noC cp noI 0 [] d92 fu (finS Tryz.prog [.tmp 0, .tmp 1] [67, 35]) (bodyOf Tryz.f92) (initE 0 []) [] []) (infer_misfit fu) e92 := by
 unfold infer_misfit e92
 refine J.some ?_
 simp (maxSteps := 20000000) (disch := first | exact Zd | fail) only [bodyOf, Tryz.f92, ZZ, d92_at, simprocAttr, SE, FF, LN, NN, NT]
noncomputable def t92 (fu : Nat) : CallP := noP
theorem t92_ok (fu : Nat) : CpOK Tryz.prog (t92 fu ) := noP_ok
theorem ok92 (fu : Nat) (r) (h : infer_misfit fu = some r) : PureOK Tryz.prog 92 [] (e92 r) :=
  pureS_J mixed (cp := t92 fu ) (t92_ok fu  ) noI_ok i92 (w92 _ fu   ) h
/-! 49: lattice/shape.Broadcast -/
open Aw (d49)
def d49_at := by have h := tabL Aw.d49.eq_1; simp only [AllAt, Nat.zero_add, Nat.reduceAdd] at h; exact h
theorem i49 : finfo Tryz.prog 49 d49 = some ⟨bodyOf Tryz.f49, [.tmp 4, .tmp 5], [27, 35]⟩ := finfo_at Tryz.func49 rfl (by kernel_rfl) (by kernel_rfl)
def e49 : ((List Int) × Int) → AV := fun r => .tuple [.fresh 1 r.1.length (lm (ik .i64) r.1), .v (.int .i64 r.2)]
set_option maxHeartbeats 20000000 in
theorem w49 (cp : CallP) (fu : Nat) (x1 : List Int) (x2 : List Int) (H27_0 : ∀ (a0 : List Int) r, shape_Size fu a0 = some r → cp 27 [.arr a0.length (lm (ik .i64) a0)] = some (.tuple [.v (.int .i64 r.1), .v (.int .i64 r.2)])) (H44_0 : ∀ (a0 : List Int) r, slices_Clone_int fu a0 = some r → cp 44 [.arr a0.length (lm (ik .i64) a0)] = some (.fresh 1 r.length (lm (ik .i64) r))) : J (go Tryz.prog noC cp noI 0 [] d49 fu (fin Tryz.prog [.tmp 4, .tmp 5] [27, 35]) (bodyOf Tryz.f49) (initE 0 [.arr x1.length (lm (ik .i64) x1), .arr x2.length (lm (ik .i64) x2)]) [] []) (shape_Broadcast fu x1 x2) e49 := by
 unfold shape_Broadcast e49
 conv => arg 1; simp (disch := first | exact Zd | fail) only [bodyOf, Tryz.f49, ZZ, d49_at, simprocAttr]
 refine J.joinS (fun (t : List (List Int)) => ([(0, .arr x1.length (lm (ik .i64) x1)), (1, .arr x2.length (lm (ik .i64) x2))], [((0, 19, 0), .sl true true 1 t.length (lm (avl (ik .i64)) t))])) (fun t => shape_Broadcast_k1 fu x1 x2 t) ?_ (fun hj1 => ?_)
 ·rintro x3
  show J _ (shape_Broadcast_k1 fu x1 x2 x3) _
  unfold shape_Broadcast_k1
  refine J.joinS (fun (t : (List Int) × (List Int)) => ([(0, .arr t.1.length (lm (ik .i64) t.1)), (1, .arr t.2.length (lm (ik .i64) t.2))], [])) (fun t => shape_Broadcast_k2 fu t.1 t.2) ?_ (fun hj2 => ?_)
  ·rintro ⟨x4, x5⟩
   show J _ (shape_Broadcast_k2 fu x4 x5) _
   unfold shape_Broadcast_k2
   refine J.bind fun x6 h1 => ?_
   have e_h1 := H44_0 _ _ h1
   try simp only [NN, NT, LN, simprocAttr, DT] at e_h1
   conv => arg 1; simp (disch := first | exact Zd | fail) only [ZZ, d49_at, simprocAttr, e_h1]
   refine J.joinS (fun (t : List Int) => ([(10, .own (0, 42, 0) 0 t.length t.length)], [((0, 42, 0), .sl true true 1 t.length (lm (ik .i64) t))])) (fun t => shape_Broadcast_k3 fu t) ?_ (fun hj3 => ?_)
   ·rintro x7
    show J _ (shape_Broadcast_k3 fu x7) _
    unfold shape_Broadcast_k3
    refine J.eq go_seq ?_
    refine J.bind fun x8 h2 => ?_
    have e_h2 := H27_0 _ _ h2
    try simp only [NN, NT, LN, simprocAttr, DT] at e_h2
    conv => arg 1; simp (disch := first | exact Zd | fail) only [ZZ, d49_at, simprocAttr, e_h1, e_h2]
    refine J.ite (fun h3 => ?_) (fun h3 => ?_)
    ·have h3' := decide_eq_true h3
     conv => arg 1; simp (disch := first | exact Zd | fail) only [ZZ, d49_at, simprocAttr, e_h1, e_h2, h3']
     refine J.eq ret_seq ?_
     refine J.some ?_
     simp (maxSteps := 20000000) (disch := first | exact Zd | fail) only [ZZ, d49_at, simprocAttr, e_h1, e_h2, h3', FF, LN, NN, NT]
    ·have h3' := decide_eq_false h3
     refine J.some ?_
     simp (maxSteps := 20000000) (disch := first | exact Zd | fail) only [ZZ, d49_at, simprocAttr, e_h1, e_h2, h3', FF, LN, NN, NT]
   ·conv => arg 1; simp (disch := first | exact Zd | fail) only [ZZ, d49_at, simprocAttr, e_h1]
    unfold shape_Broadcast_W1
    refine J.loop (fun (s : (List Int) × Int) => ([(10, .own (0, 42, 0) 0 s.1.length s.1.length), (11, .v (.int .i64 (wk .i64 ((x4.length : Int) - (x5.length : Int))))), (48, .arr x5.length (lm (ik .i64) x5)), (49, .v (.int .i64 (x5.length : Int))), (50, .v (.int .i64 s.2))], [((0, 42, 0), .sl true true 1 s.1.length (lm (ik .i64) s.1))])) (fun next s => shape_Broadcast_L1 fu x4 x5 (fun x11 x12 => next (x11, x12)) s.1 s.2) (s0 := (x6, 0)) ?_ ?_ ?_
    ·first | rfl | (simp only [LN, NN, NT])
    ·first | (simp (disch := first | exact Zd | fail) only [RR, simprocAttr, LN, NN, NT]; done) | (simp (disch := first | exact Zd | fail) only [RR, simprocAttr, LN, fm_app, NN, NT]; done) | rfl
    rintro next k1 hn1 ⟨x11, x12⟩
    let nx1 : (List Int) → Int → Option ((List Int) × Int) := (fun x11 x12 => next (x11, x12))
    show J _ (shape_Broadcast_L1 fu x4 x5 nx1 x11 x12) _
    unfold shape_Broadcast_L1
    conv => arg 1; simp (disch := first | exact Zd | fail) only [ZZ, d49_at, simprocAttr, e_h1]
    refine J.eq go_seq ?_
    conv => arg 1; simp (disch := first | exact Zd | fail) only [ZZ, d49_at, simprocAttr, e_h1]
    refine J.ite (fun h4 => ?_) (fun h4 => ?_)
    ·have h4' := decide_eq_true h4
     have h4'' : decide ((x5.length : Int) ≤ x12) = false := decide_eq_false (by omega)
     conv => arg 1; simp (disch := first | exact Zd | fail) only [ZZ, d49_at, simprocAttr, e_h1, h4'', h4']
     refine J.eq ret_seq ?_
     refine J.eq go_seq ?_
     refine J.at fun x15 h5 h6 h7 => ?_
     refine J.at fun x16 h8 h9 h10 => ?_
     conv => arg 1; simp (disch := first | exact Zd | fail) only [ZZ, d49_at, simprocAttr, e_h1, h4'', h4', lm_ik h7, lm_ik h10]
     refine J.ite (fun h11 => ?_) (fun h11 => ?_)
     ·have h11' := decide_eq_true h11
      refine J.chk fun h12 => ?_
      conv => arg 1; simp (disch := first | exact Zd | fail) only [ZZ, d49_at, simprocAttr, e_h1, h4'', h4', lm_ik h7, lm_ik h10, h11']
      refine J.eq ret_seq ?_
      conv => arg 1; simp (disch := first | exact Zd | fail) only [ZZ, d49_at, simprocAttr, e_h1, h4'', h4', lm_ik h7, lm_ik h10, h11']
      refine J.next (s := (x11.set (wk .i64 ((wk .i64 ((x4.length : Int) - (x5.length : Int))) + x12)).toNat x15, wk .i64 (x12 + 1))) hn1 ?_ ?_
      ·first | rfl | (simp only [LN, NN, NT])
      ·first | (simp (disch := first | exact Zd | fail) only [RR, simprocAttr, LN, NN, NT]; done) | (simp (disch := first | exact Zd | fail) only [RR, simprocAttr, LN, fm_app, NN, NT]; done) | rfl
     ·have h11' := decide_eq_false h11
      conv => arg 1; simp (disch := first | exact Zd | fail) only [ZZ, d49_at, simprocAttr, e_h1, h4'', h4', lm_ik h7, lm_ik h10, h11']
      refine J.eq go_seq ?_
      conv => arg 1; simp (disch := first | exact Zd | fail) only [ZZ, d49_at, simprocAttr, e_h1, h4'', h4', lm_ik h7, lm_ik h10, h11']
      refine J.ite (fun h13 => ?_) (fun h13 => ?_)
      ·have h13' := decide_eq_true h13
       conv => arg 1; simp (disch := first | exact Zd | fail) only [ZZ, d49_at, simprocAttr, e_h1, h4'', h4', lm_ik h7, lm_ik h10, h11', h13']
       refine J.eq ret_seq ?_
       conv => arg 1; simp (disch := first | exact Zd | fail) only [ZZ, d49_at, simprocAttr, e_h1, h4'', h4', lm_ik h7, lm_ik h10, h11', h13']
       refine J.eq ret_seq ?_
       conv => arg 1; simp (disch := first | exact Zd | fail) only [ZZ, d49_at, simprocAttr, e_h1, h4'', h4', lm_ik h7, lm_ik h10, h11', h13']
       refine J.next (s := (x11, wk .i64 (x12 + 1))) hn1 ?_ ?_
       ·first | rfl | (simp only [LN, NN, NT])
       ·first | (simp (disch := first | exact Zd | fail) only [RR, simprocAttr, LN, NN, NT]; done) | (simp (disch := first | exact Zd | fail) only [RR, simprocAttr, LN, fm_app, NN, NT]; done) | rfl
      ·have h13' := decide_eq_false h13
       conv => arg 1; simp (disch := first | exact Zd | fail) only [ZZ, d49_at, simprocAttr, e_h1, h4'', h4', lm_ik h7, lm_ik h10, h11', h13']
       refine J.eq ret_seq ?_
       conv => arg 1; simp (disch := first | exact Zd | fail) only [ZZ, d49_at, simprocAttr, e_h1, h4'', h4', lm_ik h7, lm_ik h10, h11', h13']
       refine J.ite (fun h14 => ?_) (fun h14 => ?_)
       ·have h14' := decide_eq_true h14
        conv => arg 1; simp (disch := first | exact Zd | fail) only [ZZ, d49_at, simprocAttr, e_h1, h4'', h4', lm_ik h7, lm_ik h10, h11', h13', h14']
        refine J.eq ret_seq ?_
        conv => arg 1; simp (disch := first | exact Zd | fail) only [ZZ, d49_at, simprocAttr, e_h1, h4'', h4', lm_ik h7, lm_ik h10, h11', h13', h14']
        refine J.next (s := (x11, wk .i64 (x12 + 1))) hn1 ?_ ?_
        ·first | rfl | (simp only [LN, NN, NT])
        ·first | (simp (disch := first | exact Zd | fail) only [RR, simprocAttr, LN, NN, NT]; done) | (simp (disch := first | exact Zd | fail) only [RR, simprocAttr, LN, fm_app, NN, NT]; done) | rfl
       ·have h14' := decide_eq_false h14
        refine J.some ?_
        simp (maxSteps := 20000000) (disch := first | exact Zd | fail) only [ZZ, d49_at, simprocAttr, e_h1, h4'', h4', lm_ik h7, lm_ik h10, h11', h13', h14', FF, LN, NN, NT]
    ·have h4' := decide_eq_false h4
     have h4'' : decide ((x5.length : Int) ≤ x12) = true := decide_eq_true (by omega)
     conv => arg 1; simp (disch := first | exact Zd | fail) only [ZZ, d49_at, simprocAttr, e_h1, h4'', h4']
     refine J.jmp (t := x11) hj3 ?_ ?_
     ·first | rfl | (simp only [LN, NN, NT])
     ·first | (simp (disch := first | exact Zd | fail) only [RR, simprocAttr, LN, NN, NT]; done) | (simp (disch := first | exact Zd | fail) only [RR, simprocAttr, LN, fm_app, NN, NT]; done) | rfl
  ·conv => arg 1; simp (disch := first | exact Zd | fail) only [ZZ, d49_at, simprocAttr]
   refine J.ite (fun h15 => ?_) (fun h15 => ?_)
   ·have h15' := decide_eq_true h15
    have h15'' : decide ((x2.length : Int) ≤ (x1.length : Int)) = false := decide_eq_false (by omega)
    conv => arg 1; simp (disch := first | exact Zd | fail) only [ZZ, d49_at, simprocAttr, h15'', h15']
    refine J.jmp (t := (x2, x1)) hj2 ?_ ?_
    ·first | rfl | (simp only [LN, NN, NT])
    ·first | (simp (disch := first | exact Zd | fail) only [RR, simprocAttr, LN, NN, NT]; done) | (simp (disch := first | exact Zd | fail) only [RR, simprocAttr, LN, fm_app, NN, NT]; done) | rfl
   ·have h15' := decide_eq_false h15
    have h15'' : decide ((x2.length : Int) ≤ (x1.length : Int)) = true := decide_eq_true (by omega)
    conv => arg 1; simp (disch := first | exact Zd | fail) only [ZZ, d49_at, simprocAttr, h15'', h15']
    refine J.jmp (t := (x1, x2)) hj2 ?_ ?_
    ·first | rfl | (simp only [LN, NN, NT])
    ·first | (simp (disch := first | exact Zd | fail) only [RR, simprocAttr, LN, NN, NT]; done) | (simp (disch := first | exact Zd | fail) only [RR, simprocAttr, LN, fm_app, NN, NT]; done) | rfl
 ·conv => arg 1; simp (disch := first | exact Zd | fail) only [ZZ, d49_at, simprocAttr]
  unfold shape_Broadcast_W2
  refine J.loop (fun (s : (List (List Int)) × Int) => ([(0, .arr x1.length (lm (ik .i64) x1)), (1, .arr x2.length (lm (ik .i64) x2)), (19, .own (0, 19, 0) 0 s.1.length s.1.length), (20, .v (.int .i64 2)), (21, .v (.int .i64 s.2))], [((0, 19, 0), .sl true true 1 s.1.length (lm (avl (ik .i64)) s.1))])) (fun next s => shape_Broadcast_L2 fu x1 x2 (fun x19 x20 => next (x19, x20)) s.1 s.2) (s0 := ([x1, x2], 0)) ?_ ?_ ?_
  ·first | rfl | (simp only [LN, NN, NT])
  ·first | (simp (disch := first | exact Zd | fail) only [RR, simprocAttr, LN, NN, NT]; done) | (simp (disch := first | exact Zd | fail) only [RR, simprocAttr, LN, fm_app, NN, NT]; done) | rfl
  rintro next k2 hn2 ⟨x19, x20⟩
  let nx2 : (List (List Int)) → Int → Option ((List Int) × Int) := (fun x19 x20 => next (x19, x20))
  show J _ (shape_Broadcast_L2 fu x1 x2 nx2 x19 x20) _
  unfold shape_Broadcast_L2
  conv => arg 1; simp (disch := first | exact Zd | fail) only [ZZ, d49_at, simprocAttr]
  refine J.eq go_seq ?_
  conv => arg 1; simp (disch := first | exact Zd | fail) only [ZZ, d49_at, simprocAttr]
  refine J.ite (fun h16 => ?_) (fun h16 => ?_)
  ·have h16' := decide_eq_true h16
   have h16'' : decide (2 ≤ x20) = false := decide_eq_false (by omega)
   conv => arg 1; simp (disch := first | exact Zd | fail) only [ZZ, d49_at, simprocAttr, h16'', h16']
   refine J.eq ret_seq ?_
   refine J.eq go_seq ?_
   refine J.at fun x23 h17 h18 h19 => ?_
   refine J.bind fun x24 h20 => ?_
   have e_h20 := H27_0 _ _ h20
   try simp only [NN, NT, LN, simprocAttr, DT] at e_h20
   conv => arg 1; simp (disch := first | exact Zd | fail) only [ZZ, d49_at, simprocAttr, h16'', h16', lm_avl h19, e_h20]
   refine J.ite (fun h21 => ?_) (fun h21 => ?_)
   ·have h21' := decide_eq_true h21
    conv => arg 1; simp (disch := first | exact Zd | fail) only [ZZ, d49_at, simprocAttr, h16'', h16', lm_avl h19, e_h20, h21']
    refine J.eq ret_seq ?_
    conv => arg 1; simp (disch := first | exact Zd | fail) only [ZZ, d49_at, simprocAttr, h16'', h16', lm_avl h19, e_h20, h21']
    refine J.next (s := (x19, wk .i64 (x20 + 1))) hn2 ?_ ?_
    ·first | rfl | (simp only [LN, NN, NT])
    ·first | (simp (disch := first | exact Zd | fail) only [RR, simprocAttr, LN, NN, NT]; done) | (simp (disch := first | exact Zd | fail) only [RR, simprocAttr, LN, fm_app, NN, NT]; done) | rfl
   ·have h21' := decide_eq_false h21
    refine J.some ?_
    simp (maxSteps := 20000000) (disch := first | exact Zd | fail) only [ZZ, d49_at, simprocAttr, h16'', h16', lm_avl h19, e_h20, h21', FF, LN, NN, NT]
  ·have h16' := decide_eq_false h16
   have h16'' : decide (2 ≤ x20) = true := decide_eq_true (by omega)
   conv => arg 1; simp (disch := first | exact Zd | fail) only [ZZ, d49_at, simprocAttr, h16'', h16']
   refine J.jmp (t := x19) hj1 ?_ ?_
   ·first | rfl | (simp only [LN, NN, NT])
   ·first | (simp (disch := first | exact Zd | fail) only [RR, simprocAttr, LN, NN, NT]; done) | (simp (disch := first | exact Zd | fail) only [RR, simprocAttr, LN, fm_app, NN, NT]; done) | rfl
noncomputable def t49 (fu : Nat) : CallP := orE 27 (mkC (fun (t : List Int) => ([.arr t.length (lm (ik .i64) t)] : List AV)) (fun t => shape_Size fu t) e27) (orE 44 (mkC (fun (t : List Int) => ([.arr t.length (lm (ik .i64) t)] : List AV)) (fun t => slices_Clone_int fu t) e44) (noP))
theorem t49_ok (fu : Nat) : CpOK Tryz.prog (t49 fu ) := orE_ok (orE_ok (noP_ok) (mkC_ok (fun t b h => ok44 fu t  b h))) (mkC_ok (fun t b h => ok27 fu t  b h))
theorem ok49 (fu : Nat) (x1 : List Int) (x2 : List Int) (r) (h : shape_Broadcast fu x1 x2 = some r) : PureOK Tryz.prog 49 [.arr x1.length (lm (ik .i64) x1), .arr x2.length (lm (ik .i64) x2)] (e49 r) :=
  pure_J mixed (cp := t49 fu ) (t49_ok fu  ) noI_ok i49 (w49 _ fu x1 x2  (fun a0 r h => orE_hit (mkC_at (a := a0) (by intro a b h; first | (exact rfl) | (simp only [INJ, IJ] at h; first | exact h | (simp_all [Prod.ext_iff]) )) h)) (fun a0 r h => orE_miss (by decide) (orE_hit (mkC_at (a := a0) (by intro a b h; first | (exact rfl) | (simp only [INJ, IJ] at h; first | exact h | (simp_all [Prod.ext_iff]) )) h)))) h
/-! 100: lattice/infer.one -/
open Aw (d100)
def d100_at := by have h := tabL Aw.d100.eq_1; simp only [AllAt, Nat.zero_add, Nat.reduceAdd] at h; exact h
theorem i100 : finfo Tryz.prog 100 d100 = some ⟨bodyOf Tryz.f100, [.tmp 2, .tmp 3], [67, 35]⟩ := finfo_at Tryz.func100 rfl (by kernel_rfl) (by kernel_rfl)
def e100 : ((List (List Int)) × Int) → AV := fun r => .tuple [.arr r.1.length (lm (avl (ik .i64)) r.1), .v (.int .i64 r.2)]
set_option maxHeartbeats 20000000 in
theorem w100 (cp : CallP) (fu : Nat) (x1 : List Int) : J (go Tryz.prog noC cp noI 0 [] d100 fu (finS Tryz.prog [.tmp 2, .tmp 3] [67, 35]) (bodyOf Tryz.f100) (initE 0 [.arr x1.length (lm (ik .i64) x1)]) [] []) (infer_one fu x1) e100 := by
 unfold infer_one e100
 refine J.some ?_
 simp (maxSteps := 20000000) (disch := first | exact Zd | fail) only [bodyOf, Tryz.f100, ZZ, d100_at, simprocAttr, SE, FF, LN, NN, NT]
noncomputable def t100 (fu : Nat) : CallP := noP
theorem t100_ok (fu : Nat) : CpOK Tryz.prog (t100 fu ) := noP_ok
theorem ok100 (fu : Nat) (x1 : List Int) (r) (h : infer_one fu x1 = some r) : PureOK Tryz.prog 100 [.arr x1.length (lm (ik .i64) x1)] (e100 r) :=
  pureS_J mixed (cp := t100 fu ) (t100_ok fu  ) noI_ok i100 (w100 _ fu x1  ) h
/-! 95: (lattice/infer.ask).product -/
open Aw (d95)
def d95_at := by have h := tabL Aw.d95.eq_1; simp only [AllAt, Nat.zero_add, Nat.reduceAdd] at h; exact h
theorem i95 : finfo Tryz.prog 95 d95 = some ⟨bodyOf Tryz.f95, [.tmp 2, .tmp 3], [67, 35]⟩ := finfo_at Tryz.func95 rfl (by kernel_rfl) (by kernel_rfl)
def e95 : ((List (List Int)) × Int) → AV := fun r => .tuple [.arr r.1.length (lm (avl (ik .i64)) r.1), .v (.int .i64 r.2)]
set_option maxHeartbeats 20000000 in
theorem w95 (cp : CallP) (fu : Nat) (x1 : T_infer_ask) (H89_0 : ∀ (a0 : T_infer_ask) (a1 : Int) r, infer_ask_dims fu a0 a1 = some r → cp 89 [.agg (c_T_infer_ask a0), .v (.int .i64 a1)] = some (.arr r.length (lm (ik .i64) r))) (H92_0 : ∀ r, infer_misfit fu = some r → cp 92 [] = some (.tuple [.arr r.1.length (lm (avl (ik .i64)) r.1), .v (.int .i64 r.2)])) (H49_0 : ∀ (a0 : List Int) (a1 : List Int) r, shape_Broadcast fu a0 a1 = some r → cp 49 [.arr a0.length (lm (ik .i64) a0), .arr a1.length (lm (ik .i64) a1)] = some (.tuple [.fresh 1 r.1.length (lm (ik .i64) r.1), .v (.int .i64 r.2)])) (H100_0 : ∀ (a0 : List Int) r, infer_one fu a0 = some r → cp 100 [.arr a0.length (lm (ik .i64) a0)] = some (.tuple [.arr r.1.length (lm (avl (ik .i64)) r.1), .v (.int .i64 r.2)])) : J (go Tryz.prog noC cp noI 0 [] d95 fu (finS Tryz.prog [.tmp 2, .tmp 3] [67, 35]) (bodyOf Tryz.f95) (initE 0 [.agg (c_T_infer_ask x1)]) [] []) (infer_ask_product fu x1) e95 := by
 unfold infer_ask_product e95
 refine J.chk fun h1 => ?_
 refine J.bind fun x2 h2 => ?_
 have e_h2 := H89_0 _ _ _ h2
 try simp only [NN, NT, LN, simprocAttr, DT] at e_h2
 refine J.bind fun x3 h3 => ?_
 have e_h3 := H89_0 _ _ _ h3
 try simp only [NN, NT, LN, simprocAttr, DT] at e_h3
 conv => arg 1; simp (disch := first | exact Zd | fail) only [bodyOf, Tryz.f95, ZZ, d95_at, simprocAttr, SE, h1, e_h2, e_h3]
 refine J.joinS (fun (t : Unit) => ([(4, .arr x2.length (lm (ik .i64) x2)), (5, .arr x3.length (lm (ik .i64) x3))], [])) (fun t => infer_ask_product_k1 fu x2 x3) ?_ (fun hj1 => ?_)
 ·rintro ⟨⟩
  show J _ (infer_ask_product_k1 fu x2 x3) _
  unfold infer_ask_product_k1
  conv => arg 1; simp (disch := first | exact Zd | fail) only [ZZ, d95_at, simprocAttr, SE, h1, e_h2, e_h3]
  refine J.joinS (fun (t : (List Int) × Bool) => ([(4, .arr t.1.length (lm (ik .i64) t.1)), (5, .arr x3.length (lm (ik .i64) x3)), (6, .v (.bool t.2)), (7, .v (.bool (decide ((x3.length : Int) = 1))))], [])) (fun t => infer_ask_product_k2 fu x3 t.1 t.2) ?_ (fun hj2 => ?_)
  ·rintro ⟨x4, x5⟩
   show J _ (infer_ask_product_k2 fu x3 x4 x5) _
   unfold infer_ask_product_k2
   refine J.joinS (fun (t : (List Int) × Bool) => ([(4, .arr x4.length (lm (ik .i64) x4)), (5, .arr t.1.length (lm (ik .i64) t.1)), (6, .v (.bool x5)), (7, .v (.bool t.2))], [])) (fun t => infer_ask_product_k3 fu x4 x5 t.1 t.2) ?_ (fun hj3 => ?_)
   ·rintro ⟨x6, x7⟩
    show J _ (infer_ask_product_k3 fu x4 x5 x6 x7) _
    unfold infer_ask_product_k3
    conv => arg 1; simp (disch := first | exact Zd | fail) only [ZZ, d95_at, simprocAttr, SE, h1, e_h2, e_h3]
    refine J.eq go_seq ?_
    refine J.at fun x8 h4 h5 h6 => ?_
    refine J.at fun x9 h7 h8 h9 => ?_
    conv => arg 1; simp (disch := first | exact Zd | fail) only [ZZ, d95_at, simprocAttr, SE, h1, e_h2, e_h3, lm_ik h6, lm_ik h9]
    refine J.ite (fun h10 => ?_) (fun h10 => ?_)
    ·have h10' := decide_eq_true h10
     conv => arg 1; simp (disch := first | exact Zd | fail) only [ZZ, d95_at, simprocAttr, SE, h1, e_h2, e_h3, lm_ik h6, lm_ik h9, h10']
     refine J.eq ret_seq ?_
     refine J.chk fun h11 => ?_
     refine J.chk fun h12 => ?_
     refine J.bind fun x10 h13 => ?_
     have e_h13 := H49_0 _ _ _ h13
     try simp only [NN, NT, LN, simprocAttr, DT] at e_h13
     conv => arg 1; simp (disch := first | exact Zd | fail) only [ZZ, d95_at, simprocAttr, SE, h1, e_h2, e_h3, lm_ik h6, lm_ik h9, h10', e_h13]
     refine J.eq go_seq ?_
     conv => arg 1; simp (disch := first | exact Zd | fail) only [ZZ, d95_at, simprocAttr, SE, h1, e_h2, e_h3, lm_ik h6, lm_ik h9, h10', e_h13]
     refine J.ite (fun h14 => ?_) (fun h14 => ?_)
     ·have h14' := decide_eq_true h14
      conv => arg 1; simp (disch := first | exact Zd | fail) only [ZZ, d95_at, simprocAttr, SE, h1, e_h2, e_h3, lm_ik h6, lm_ik h9, h10', e_h13, h14']
      refine J.eq ret_seq ?_
      refine J.joinS (fun (t : List Int) => ([(4, .arr x4.length (lm (ik .i64) x4)), (5, .arr x6.length (lm (ik .i64) x6)), (7, .v (.bool x7)), (8, .v (.int .i64 (wk .i64 ((x4.length : Int) - 2)))), (9, .v (.int .i64 (wk .i64 ((x6.length : Int) - 2)))), (10, .own (0, 69, 0) 0 t.length t.length)], [((0, 69, 0), .sl true true 1 t.length (lm (ik .i64) t))])) (fun t => infer_ask_product_k4 fu x6 x7 t) ?_ (fun hj4 => ?_)
      ·rintro x11
       show J _ (infer_ask_product_k4 fu x6 x7 x11) _
       unfold infer_ask_product_k4
       refine J.joinS (fun (t : List Int) => ([(5, .arr x6.length (lm (ik .i64) x6)), (9, .v (.int .i64 (wk .i64 ((x6.length : Int) - 2)))), (10, .own (0, 69, 0) 0 t.length t.length)], [((0, 69, 0), .sl true true 1 t.length (lm (ik .i64) t))])) (fun t => infer_ask_product_k5 fu t) ?_ (fun hj5 => ?_)
       ·rintro x12
        show J _ (infer_ask_product_k5 fu x12) _
        unfold infer_ask_product_k5
        refine J.bind fun x13 h15 => ?_
        have e_h15 := H100_0 _ _ h15
        try simp only [NN, NT, LN, simprocAttr, DT] at e_h15
        refine J.some ?_
        simp (maxSteps := 20000000) (disch := first | exact Zd | fail) only [ZZ, d95_at, simprocAttr, SE, h1, e_h2, e_h3, lm_ik h6, lm_ik h9, h10', e_h13, h14', e_h15, FF, LN, NN, NT]
       ·conv => arg 1; simp (disch := first | exact Zd | fail) only [ZZ, d95_at, simprocAttr, SE, h1, e_h2, e_h3, lm_ik h6, lm_ik h9, h10', e_h13, h14']
        refine J.ite (fun h16 => ?_) (fun h16 => ?_)
        ·have h16' : x7 = true := h16
         conv => arg 1; simp (disch := first | exact Zd | fail) only [ZZ, d95_at, simprocAttr, SE, h1, e_h2, e_h3, lm_ik h6, lm_ik h9, h10', e_h13, h14', h16']
         refine J.jmp (t := x11) hj5 ?_ ?_
         ·first | rfl | (simp only [LN, NN, NT])
         ·first | (simp (disch := first | exact Zd | fail) only [RR, simprocAttr, LN, NN, NT]; done) | (simp (disch := first | exact Zd | fail) only [RR, simprocAttr, LN, fm_app, NN, NT]; done) | rfl
        ·have h16' : x7 = false := Bool.eq_false_iff.2 h16
         refine J.at fun x14 h17 h18 h19 => ?_
         refine J.chk fun h20 => ?_
         conv => arg 1; simp (disch := first | exact Zd | fail) only [ZZ, d95_at, simprocAttr, SE, h1, e_h2, e_h3, lm_ik h6, lm_ik h9, h10', e_h13, h14', h16', lm_ik h19]
         refine J.jmp (t := x11 ++ ([x14])) hj5 ?_ ?_
         ·first | rfl | (simp only [LN, NN, NT])
         ·first | (simp (disch := first | exact Zd | fail) only [RR, simprocAttr, LN, NN, NT]; done) | (simp (disch := first | exact Zd | fail) only [RR, simprocAttr, LN, fm_app, NN, NT]; done) | rfl
      ·conv => arg 1; simp (disch := first | exact Zd | fail) only [ZZ, d95_at, simprocAttr, SE, h1, e_h2, e_h3, lm_ik h6, lm_ik h9, h10', e_h13, h14']
       refine J.ite (fun h21 => ?_) (fun h21 => ?_)
       ·have h21' : x5 = true := h21
        conv => arg 1; simp (disch := first | exact Zd | fail) only [ZZ, d95_at, simprocAttr, SE, h1, e_h2, e_h3, lm_ik h6, lm_ik h9, h10', e_h13, h14', h21']
        refine J.jmp (t := x10.1) hj4 ?_ ?_
        ·first | rfl | (simp only [LN, NN, NT])
        ·first | (simp (disch := first | exact Zd | fail) only [RR, simprocAttr, LN, NN, NT]; done) | (simp (disch := first | exact Zd | fail) only [RR, simprocAttr, LN, fm_app, NN, NT]; done) | rfl
       ·have h21' : x5 = false := Bool.eq_false_iff.2 h21
        refine J.at fun x15 h22 h23 h24 => ?_
        refine J.chk fun h25 => ?_
        conv => arg 1; simp (disch := first | exact Zd | fail) only [ZZ, d95_at, simprocAttr, SE, h1, e_h2, e_h3, lm_ik h6, lm_ik h9, h10', e_h13, h14', h21', lm_ik h24]
        refine J.jmp (t := x10.1 ++ ([x15])) hj4 ?_ ?_
        ·first | rfl | (simp only [LN, NN, NT])
        ·first | (simp (disch := first | exact Zd | fail) only [RR, simprocAttr, LN, NN, NT]; done) | (simp (disch := first | exact Zd | fail) only [RR, simprocAttr, LN, fm_app, NN, NT]; done) | rfl
     ·have h14' := decide_eq_false h14
      refine J.some ?_
      simp (maxSteps := 20000000) (disch := first | exact Zd | fail) only [ZZ, d95_at, simprocAttr, SE, h1, e_h2, e_h3, lm_ik h6, lm_ik h9, h10', e_h13, h14', FF, LN, NN, NT]
    ·have h10' := decide_eq_false h10
     refine J.bind fun x16 h26 => ?_
     have e_h26 := H92_0  _ h26
     try simp only [NN, NT, LN, simprocAttr, DT] at e_h26
     refine J.some ?_
     simp (maxSteps := 20000000) (disch := first | exact Zd | fail) only [ZZ, d95_at, simprocAttr, SE, h1, e_h2, e_h3, lm_ik h6, lm_ik h9, h10', e_h26, FF, LN, NN, NT]
   ·conv => arg 1; simp (disch := first | exact Zd | fail) only [ZZ, d95_at, simprocAttr, SE, h1, e_h2, e_h3]
    refine J.ite (fun h27 => ?_) (fun h27 => ?_)
    ·have h27' := decide_eq_true h27
     refine J.at fun x17 h28 h29 h30 => ?_
     replace h30 : x3[0]? = some x17 := h30
     conv => arg 1; simp (disch := first | exact Zd | fail) only [ZZ, d95_at, simprocAttr, SE, h1, e_h2, e_h3, h27', lm_ik h30]
     refine J.jmp (t := ([x17, 1], true)) hj3 ?_ ?_
     ·first | rfl | (simp only [LN, NN, NT])
     ·first | (simp (disch := first | exact Zd | fail) only [RR, simprocAttr, LN, NN, NT]; done) | (simp (disch := first | exact Zd | fail) only [RR, simprocAttr, LN, fm_app, NN, NT]; done) | rfl
    ·have h27' := decide_eq_false h27
     conv => arg 1; simp (disch := first | exact Zd | fail) only [ZZ, d95_at, simprocAttr, SE, h1, e_h2, e_h3, h27']
     refine J.jmp (t := (x3, false)) hj3 ?_ ?_
     ·first | rfl | (simp only [LN, NN, NT])
     ·first | (simp (disch := first | exact Zd | fail) only [RR, simprocAttr, LN, NN, NT]; done) | (simp (disch := first | exact Zd | fail) only [RR, simprocAttr, LN, fm_app, NN, NT]; done) | rfl
  ·conv => arg 1; simp (disch := first | exact Zd | fail) only [ZZ, d95_at, simprocAttr, SE, h1, e_h2, e_h3]
   refine J.ite (fun h31 => ?_) (fun h31 => ?_)
   ·have h31' := decide_eq_true h31
    refine J.at fun x18 h32 h33 h34 => ?_
    replace h34 : x2[0]? = some x18 := h34
    conv => arg 1; simp (disch := first | exact Zd | fail) only [ZZ, d95_at, simprocAttr, SE, h1, e_h2, e_h3, h31', lm_ik h34]
    refine J.jmp (t := ([1, x18], true)) hj2 ?_ ?_
    ·first | rfl | (simp only [LN, NN, NT])
    ·first | (simp (disch := first | exact Zd | fail) only [RR, simprocAttr, LN, NN, NT]; done) | (simp (disch := first | exact Zd | fail) only [RR, simprocAttr, LN, fm_app, NN, NT]; done) | rfl
   ·have h31' := decide_eq_false h31
    conv => arg 1; simp (disch := first | exact Zd | fail) only [ZZ, d95_at, simprocAttr, SE, h1, e_h2, e_h3, h31']
    refine J.jmp (t := (x2, false)) hj2 ?_ ?_
    ·first | rfl | (simp only [LN, NN, NT])
    ·first | (simp (disch := first | exact Zd | fail) only [RR, simprocAttr, LN, NN, NT]; done) | (simp (disch := first | exact Zd | fail) only [RR, simprocAttr, LN, fm_app, NN, NT]; done) | rfl
 ·refine J.eq go_seq ?_
  conv => arg 1; simp (disch := first | exact Zd | fail) only [ZZ, d95_at, simprocAttr, SE, h1, e_h2, e_h3]
  refine J.ite (fun h35 => ?_) (fun h35 => ?_)
  ·have h35' := decide_eq_true h35
   conv => arg 1; simp (disch := first | exact Zd | fail) only [ZZ, d95_at, simprocAttr, SE, h1, e_h2, e_h3, h35']
   refine J.eq ret_seq ?_
   refine J.bind fun x19 h36 => ?_
   have e_h36 := H92_0  _ h36
   try simp only [NN, NT, LN, simprocAttr, DT] at e_h36
   refine J.some ?_
   simp (maxSteps := 20000000) (disch := first | exact Zd | fail) only [ZZ, d95_at, simprocAttr, SE, h1, e_h2, e_h3, h35', e_h36, FF, LN, NN, NT]
  ·have h35' := decide_eq_false h35
   conv => arg 1; simp (disch := first | exact Zd | fail) only [ZZ, d95_at, simprocAttr, SE, h1, e_h2, e_h3, h35']
   refine J.eq ret_seq ?_
   conv => arg 1; simp (disch := first | exact Zd | fail) only [ZZ, d95_at, simprocAttr, SE, h1, e_h2, e_h3, h35']
   refine J.ite (fun h37 => ?_) (fun h37 => ?_)
   ·have h37' := decide_eq_true h37
    refine J.bind fun x20 h38 => ?_
    have e_h38 := H92_0  _ h38
    try simp only [NN, NT, LN, simprocAttr, DT] at e_h38
    refine J.some ?_
    simp (maxSteps := 20000000) (disch := first | exact Zd | fail) only [ZZ, d95_at, simprocAttr, SE, h1, e_h2, e_h3, h35', h37', e_h38, FF, LN, NN, NT]
   ·have h37' := decide_eq_false h37
    conv => arg 1; simp (disch := first | exact Zd | fail) only [ZZ, d95_at, simprocAttr, SE, h1, e_h2, e_h3, h35', h37']
    refine J.jmp (t := ()) hj1 ?_ ?_
    ·first | rfl | (simp only [LN, NN, NT])
    ·first | (simp (disch := first | exact Zd | fail) only [RR, simprocAttr, LN, NN, NT]; done) | (simp (disch := first | exact Zd | fail) only [RR, simprocAttr, LN, fm_app, NN, NT]; done) | rfl
noncomputable def t95 (fu : Nat) : CallP := orE 89 (mkC (fun (t : T_infer_ask × Int) => ([.agg (c_T_infer_ask t.1), .v (.int .i64 t.2)] : List AV)) (fun t => infer_ask_dims fu t.1 t.2) e89) (orE 92 (mkC (fun (t : Unit) => ([] : List AV)) (fun t => infer_misfit fu ) e92) (orE 49 (mkC (fun (t : (List Int) × (List Int)) => ([.arr t.1.length (lm (ik .i64) t.1), .arr t.2.length (lm (ik .i64) t.2)] : List AV)) (fun t => shape_Broadcast fu t.1 t.2) e49) (orE 100 (mkC (fun (t : List Int) => ([.arr t.length (lm (ik .i64) t)] : List AV)) (fun t => infer_one fu t) e100) (noP))))
theorem t95_ok (fu : Nat) : CpOK Tryz.prog (t95 fu ) := orE_ok (orE_ok (orE_ok (orE_ok (noP_ok) (mkC_ok (fun t b h => ok100 fu t  b h))) (mkC_ok (fun t b h => ok49 fu t.1 t.2  b h))) (mkC_ok (fun t b h => ok92 fu   b h))) (mkC_ok (fun t b h => ok89 fu t.1 t.2  b h))
theorem ok95 (fu : Nat) (x1 : T_infer_ask) (r) (h : infer_ask_product fu x1 = some r) : PureOK Tryz.prog 95 [.agg (c_T_infer_ask x1)] (e95 r) :=
  pureS_J mixed (cp := t95 fu ) (t95_ok fu  ) noI_ok i95 (w95 _ fu x1  (fun a0 a1 r h => orE_hit (mkC_at (a := (a0, a1)) (by intro a b h; first | (exact rfl) | (simp only [INJ, IJ] at h; first | exact h | (simp_all [Prod.ext_iff]) )) h)) (fun  r h => orE_miss (by decide) (orE_hit (mkC_at (a := ()) (by intro a b h; first | (exact rfl) | (simp only [INJ, IJ] at h; first | exact h | (simp_all [Prod.ext_iff]) )) h))) (fun a0 a1 r h => orE_miss (by decide) (orE_miss (by decide) (orE_hit (mkC_at (a := (a0, a1)) (by intro a b h; first | (exact rfl) | (simp only [INJ, IJ] at h; first | exact h | (simp_all [Prod.ext_iff]) )) h)))) (fun a0 r h => orE_miss (by decide) (orE_miss (by decide) (orE_miss (by decide) (orE_hit (mkC_at (a := a0) (by intro a b h; first | (exact rfl) | (simp only [INJ, IJ] at h; first | exact h | (simp_all [Prod.ext_iff]) )) h)))))) h
/-! 42: (lattice/infer.ask).shapes -/
open Aw (d42)
def d42_at := by have h := tabL Aw.d42.eq_1; simp only [AllAt, Nat.zero_add, Nat.reduceAdd] at h; exact h
theorem i42 : finfo Tryz.prog 42 d42 = some ⟨bodyOf Tryz.f42, [.tmp 2, .tmp 3], [67, 35]⟩ := finfo_at Tryz.func42 rfl (by kernel_rfl) (by kernel_rfl)
def e42 : ((List (List Int)) × Int) → AV := fun r => .tuple [.arr r.1.length (lm (avl (ik .i64)) r.1), .v (.int .i64 r.2)]
set_option maxHeartbeats 20000000 in
theorem w42 (cp : CallP) (fu : Nat) (x1 : T_infer_ask) (H89_0 : ∀ (a0 : T_infer_ask) (a1 : Int) r, infer_ask_dims fu a0 a1 = some r → cp 89 [.agg (c_T_infer_ask a0), .v (.int .i64 a1)] = some (.arr r.length (lm (ik .i64) r))) (H95_0 : ∀ (a0 : T_infer_ask) r, infer_ask_product fu a0 = some r → cp 95 [.agg (c_T_infer_ask a0)] = some (.tuple [.arr r.1.length (lm (avl (ik .i64)) r.1), .v (.int .i64 r.2)])) : J (go Tryz.prog noC cp noI 0 [] d42 fu (finS Tryz.prog [.tmp 2, .tmp 3] [67, 35]) (bodyOf Tryz.f42) (initE 0 [.agg (c_T_infer_ask x1)]) [] []) (infer_ask_shapes fu x1) e42 := by
 unfold infer_ask_shapes e42
 refine J.chk fun h1 => ?_
 refine J.bind fun x2 h2 => ?_
 have e_h2 := H89_0 _ _ _ h2
 try simp only [NN, NT, LN, simprocAttr, DT] at e_h2
 conv => arg 1; simp (disch := first | exact Zd | fail) only [bodyOf, Tryz.f42, ZZ, d42_at, simprocAttr, SE, h1, e_h2]
 refine J.eq go_seq ?_
 conv => arg 1; simp (disch := first | exact Zd | fail) only [ZZ, d42_at, simprocAttr, SE, h1, e_h2]
 refine J.joinS (fun (t : Unit) => ([(1, .ptr (0, 1, 0) 0 0), (4, .arr x2.length (lm (ik .i64) x2)), (9, .v (.int .i64 73)), (10, .v (.bool (decide ((73 : Int) = 42))))], [((0, 1, 0), .bx true ([.v (.int .i64 73), .v (.int .i64 x1.fs.fAxis), .arr x1.fs.fAxes.length (lm (ik .i64) x1.fs.fAxes), .v (.bool x1.fs.fHasAxes), .v (.bool x1.fs.fKeep), .v (.bool x1.fs.fNoop), .v (.bool x1.fs.fLast), .v (.bool x1.fs.fZero), .arr x1.fs.fPerm.length (lm (ik .i64) x1.fs.fPerm), .v (.bool x1.fs.fHasPerm), .v (.int .u32 x1.fs.fAlpha), .v (.int .u32 x1.fs.fBeta), .v (.int .u32 x1.fs.fEpsilon), .v (.bool x1.fs.fLow), .v (.bool x1.fs.fHigh), .v (.bool x1.fs.fFmod), .v (.int .i64 x1.fs.fTo), .v (.int .i64 x1.fs.fMode), .v (.bool x1.fs.fTransA), .v (.bool x1.fs.fTransB), .v (.int .i64 x1.fs.fGroup), .arr x1.fs.fKernel.length (lm (ik .i64) x1.fs.fKernel), .arr x1.fs.fStrides.length (lm (ik .i64) x1.fs.fStrides), .arr x1.fs.fPads.length (lm (ik .i64) x1.fs.fPads), .arr x1.fs.fDilations.length (lm (ik .i64) x1.fs.fDilations), .v (.int .i64 x1.fs.fAuto), .v (.bool x1.fs.fCeil), .v (.bool x1.fs.fCount), .v (.int .i64 x1.fs.fBlock), .v (.int .i64 x1.fs.fStart), .v (.int .i64 x1.fs.fEnd), .v (.bool x1.fs.fHasEnd), .v (.int .i64 x1.fs.fValue.fType), .arr x1.fs.fValue.fDims.length (lm (ik .i64) x1.fs.fValue.fDims), .arr x1.fs.fValue.fF.length (lm (ik .u32) x1.fs.fValue.fF), .arr x1.fs.fValue.fI.length (lm (ik .i64) x1.fs.fValue.fI), .arr x1.fs.fValue.fB.length (lm (bk) x1.fs.fValue.fB), .arr x1.fin.length (fm c_T_Val x1.fin), .v (.int .i64 x1.fouts)]))])) (fun t => infer_ask_shapes_k1 fu x1) ?_ (fun hj1 => ?_)
 ·rintro ⟨⟩
  show J _ (infer_ask_shapes_k1 fu x1) _
  unfold infer_ask_shapes_k1
  conv => arg 1; simp (disch := first | exact Zd | fail) only [ZZ, d42_at, simprocAttr, SE, h1, e_h2]
  refine J.joinS (fun (t : Unit) => ([(1, .ptr (0, 1, 0) 0 0), (4, .arr x2.length (lm (ik .i64) x2)), (9, .v (.int .i64 73)), (10, .v (.bool (decide ((73 : Int) = 42)))), (54, .v (.bool (decide ((73 : Int) = 64))))], [((0, 1, 0), .bx true ([.v (.int .i64 73), .v (.int .i64 x1.fs.fAxis), .arr x1.fs.fAxes.length (lm (ik .i64) x1.fs.fAxes), .v (.bool x1.fs.fHasAxes), .v (.bool x1.fs.fKeep), .v (.bool x1.fs.fNoop), .v (.bool x1.fs.fLast), .v (.bool x1.fs.fZero), .arr x1.fs.fPerm.length (lm (ik .i64) x1.fs.fPerm), .v (.bool x1.fs.fHasPerm), .v (.int .u32 x1.fs.fAlpha), .v (.int .u32 x1.fs.fBeta), .v (.int .u32 x1.fs.fEpsilon), .v (.bool x1.fs.fLow), .v (.bool x1.fs.fHigh), .v (.bool x1.fs.fFmod), .v (.int .i64 x1.fs.fTo), .v (.int .i64 x1.fs.fMode), .v (.bool x1.fs.fTransA), .v (.bool x1.fs.fTransB), .v (.int .i64 x1.fs.fGroup), .arr x1.fs.fKernel.length (lm (ik .i64) x1.fs.fKernel), .arr x1.fs.fStrides.length (lm (ik .i64) x1.fs.fStrides), .arr x1.fs.fPads.length (lm (ik .i64) x1.fs.fPads), .arr x1.fs.fDilations.length (lm (ik .i64) x1.fs.fDilations), .v (.int .i64 x1.fs.fAuto), .v (.bool x1.fs.fCeil), .v (.bool x1.fs.fCount), .v (.int .i64 x1.fs.fBlock), .v (.int .i64 x1.fs.fStart), .v (.int .i64 x1.fs.fEnd), .v (.bool x1.fs.fHasEnd), .v (.int .i64 x1.fs.fValue.fType), .arr x1.fs.fValue.fDims.length (lm (ik .i64) x1.fs.fValue.fDims), .arr x1.fs.fValue.fF.length (lm (ik .u32) x1.fs.fValue.fF), .arr x1.fs.fValue.fI.length (lm (ik .i64) x1.fs.fValue.fI), .arr x1.fs.fValue.fB.length (lm (bk) x1.fs.fValue.fB), .arr x1.fin.length (fm c_T_Val x1.fin), .v (.int .i64 x1.fouts)]))])) (fun t => infer_ask_shapes_k2 fu x1) ?_ (fun hj2 => ?_)
  ·rintro ⟨⟩
   show J _ (infer_ask_shapes_k2 fu x1) _
   unfold infer_ask_shapes_k2
   conv => arg 1; simp (disch := first | exact Zd | fail) only [ZZ, d42_at, simprocAttr, SE, h1, e_h2]
   refine J.joinS (fun (t : Unit) => ([(1, .ptr (0, 1, 0) 0 0), (4, .arr x2.length (lm (ik .i64) x2)), (9, .v (.int .i64 73)), (10, .v (.bool (decide ((73 : Int) = 42)))), (54, .v (.bool (decide ((73 : Int) = 64)))), (78, .v (.bool (decide ((73 : Int) = 71))))], [((0, 1, 0), .bx true ([.v (.int .i64 73), .v (.int .i64 x1.fs.fAxis), .arr x1.fs.fAxes.length (lm (ik .i64) x1.fs.fAxes), .v (.bool x1.fs.fHasAxes), .v (.bool x1.fs.fKeep), .v (.bool x1.fs.fNoop), .v (.bool x1.fs.fLast), .v (.bool x1.fs.fZero), .arr x1.fs.fPerm.length (lm (ik .i64) x1.fs.fPerm), .v (.bool x1.fs.fHasPerm), .v (.int .u32 x1.fs.fAlpha), .v (.int .u32 x1.fs.fBeta), .v (.int .u32 x1.fs.fEpsilon), .v (.bool x1.fs.fLow), .v (.bool x1.fs.fHigh), .v (.bool x1.fs.fFmod), .v (.int .i64 x1.fs.fTo), .v (.int .i64 x1.fs.fMode), .v (.bool x1.fs.fTransA), .v (.bool x1.fs.fTransB), .v (.int .i64 x1.fs.fGroup), .arr x1.fs.fKernel.length (lm (ik .i64) x1.fs.fKernel), .arr x1.fs.fStrides.length (lm (ik .i64) x1.fs.fStrides), .arr x1.fs.fPads.length (lm (ik .i64) x1.fs.fPads), .arr x1.fs.fDilations.length (lm (ik .i64) x1.fs.fDilations), .v (.int .i64 x1.fs.fAuto), .v (.bool x1.fs.fCeil), .v (.bool x1.fs.fCount), .v (.int .i64 x1.fs.fBlock), .v (.int .i64 x1.fs.fStart), .v (.int .i64 x1.fs.fEnd), .v (.bool x1.fs.fHasEnd), .v (.int .i64 x1.fs.fValue.fType), .arr x1.fs.fValue.fDims.length (lm (ik .i64) x1.fs.fValue.fDims), .arr x1.fs.fValue.fF.length (lm (ik .u32) x1.fs.fValue.fF), .arr x1.fs.fValue.fI.length (lm (ik .i64) x1.fs.fValue.fI), .arr x1.fs.fValue.fB.length (lm (bk) x1.fs.fValue.fB), .arr x1.fin.length (fm c_T_Val x1.fin), .v (.int .i64 x1.fouts)]))])) (fun t => infer_ask_shapes_k3 fu x1) ?_ (fun hj3 => ?_)
   ·rintro ⟨⟩
    show J _ (infer_ask_shapes_k3 fu x1) _
    unfold infer_ask_shapes_k3
    refine J.bind fun x3 h3 => ?_
    have e_h3 := H95_0 _ _ h3
    try simp only [NN, NT, LN, simprocAttr, DT] at e_h3
    refine J.some ?_
    simp (maxSteps := 20000000) (disch := first | exact Zd | fail) only [ZZ, d42_at, simprocAttr, SE, h1, e_h2, e_h3, FF, LN, NN, NT]
   ·conv => arg 1; simp (disch := first | exact Zd | fail) only [ZZ, d42_at, simprocAttr, SE, h1, e_h2]
    refine J.jmp (t := ()) hj3 ?_ ?_
    ·first | rfl | (simp only [LN, NN, NT])
    ·first | (simp (disch := first | exact Zd | fail) only [RR, simprocAttr, LN, NN, NT]; done) | (simp (disch := first | exact Zd | fail) only [RR, simprocAttr, LN, fm_app, NN, NT]; done) | rfl
  ·conv => arg 1; simp (disch := first | exact Zd | fail) only [ZZ, d42_at, simprocAttr, SE, h1, e_h2]
   refine J.jmp (t := ()) hj2 ?_ ?_
   ·first | rfl | (simp only [LN, NN, NT])
   ·first | (simp (disch := first | exact Zd | fail) only [RR, simprocAttr, LN, NN, NT]; done) | (simp (disch := first | exact Zd | fail) only [RR, simprocAttr, LN, fm_app, NN, NT]; done) | rfl
 ·conv => arg 1; simp (disch := first | exact Zd | fail) only [ZZ, d42_at, simprocAttr, SE, h1, e_h2]
  refine J.jmp (t := ()) hj1 ?_ ?_
  ·first | rfl | (simp only [LN, NN, NT])
  ·first | (simp (disch := first | exact Zd | fail) only [RR, simprocAttr, LN, NN, NT]; done) | (simp (disch := first | exact Zd | fail) only [RR, simprocAttr, LN, fm_app, NN, NT]; done) | rfl
noncomputable def t42 (fu : Nat) : CallP := orE 89 (mkC (fun (t : T_infer_ask × Int) => ([.agg (c_T_infer_ask t.1), .v (.int .i64 t.2)] : List AV)) (fun t => infer_ask_dims fu t.1 t.2) e89) (orE 95 (mkC (fun (t : T_infer_ask) => ([.agg (c_T_infer_ask t)] : List AV)) (fun t => infer_ask_product fu t) e95) (noP))
theorem t42_ok (fu : Nat) : CpOK Tryz.prog (t42 fu ) := orE_ok (orE_ok (noP_ok) (mkC_ok (fun t b h => ok95 fu t  b h))) (mkC_ok (fun t b h => ok89 fu t.1 t.2  b h))
theorem ok42 (fu : Nat) (x1 : T_infer_ask) (r) (h : infer_ask_shapes fu x1 = some r) : PureOK Tryz.prog 42 [.agg (c_T_infer_ask x1)] (e42 r) :=
  pureS_J mixed (cp := t42 fu ) (t42_ok fu  ) noI_ok i42 (w42 _ fu x1  (fun a0 a1 r h => orE_hit (mkC_at (a := (a0, a1)) (by intro a b h; first | (exact rfl) | (simp only [INJ, IJ] at h; first | exact h | (simp_all [Prod.ext_iff]) )) h)) (fun a0 r h => orE_miss (by decide) (orE_hit (mkC_at (a := a0) (by intro a b h; first | (exact rfl) | (simp only [INJ, IJ] at h; first | exact h | (simp_all [Prod.ext_iff]) )) h)))) h
/-! 43: (lattice/infer.ask).out -/
open Aw (d43)
def d43_at := by have h := tabL Aw.d43.eq_1; simp only [AllAt, Nat.zero_add, Nat.reduceAdd] at h; exact h
theorem i43 : finfo Tryz.prog 43 d43 = some ⟨bodyOf Tryz.f43, [.tmp 2], [3]⟩ := finfo_at Tryz.func43 rfl (by kernel_rfl) (by kernel_rfl)
def e43 : Int → AV := fun r => .v (.int .i64 r)
set_option maxHeartbeats 20000000 in
theorem w43 (cp : CallP) (fu : Nat) (x1 : T_infer_ask) (H101_0 : ∀ (a0 : T_infer_ask) (a1 : Int) r, infer_ask_val fu a0 a1 = some r → cp 101 [.agg (c_T_infer_ask a0), .v (.int .i64 a1)] = some (.agg [.v (.int .i64 r.fType), .arr r.fDims.length (lm (ik .i64) r.fDims), .v (.bool r.fConst), .v (.int .i64 r.fT.fType), .arr r.fT.fDims.length (lm (ik .i64) r.fT.fDims), .arr r.fT.fF.length (lm (ik .u32) r.fT.fF), .arr r.fT.fI.length (lm (ik .i64) r.fT.fI), .arr r.fT.fB.length (lm (bk) r.fT.fB)])) : J (go Tryz.prog noC cp noI 0 [] d43 fu (fin Tryz.prog [.tmp 2] [3]) (bodyOf Tryz.f43) (initE 0 [.agg (c_T_infer_ask x1)]) [] []) (infer_ask_out fu x1) e43 := by
 unfold infer_ask_out e43
 refine J.chk fun h1 => ?_
 conv => arg 1; simp (disch := first | exact Zd | fail) only [bodyOf, Tryz.f43, ZZ, d43_at, simprocAttr, h1]
 refine J.joinS (fun (t : Unit) => ([(1, .ptr (0, 1, 0) 0 0)], [((0, 1, 0), .bx true ([.v (.int .i64 73), .v (.int .i64 x1.fs.fAxis), .arr x1.fs.fAxes.length (lm (ik .i64) x1.fs.fAxes), .v (.bool x1.fs.fHasAxes), .v (.bool x1.fs.fKeep), .v (.bool x1.fs.fNoop), .v (.bool x1.fs.fLast), .v (.bool x1.fs.fZero), .arr x1.fs.fPerm.length (lm (ik .i64) x1.fs.fPerm), .v (.bool x1.fs.fHasPerm), .v (.int .u32 x1.fs.fAlpha), .v (.int .u32 x1.fs.fBeta), .v (.int .u32 x1.fs.fEpsilon), .v (.bool x1.fs.fLow), .v (.bool x1.fs.fHigh), .v (.bool x1.fs.fFmod), .v (.int .i64 x1.fs.fTo), .v (.int .i64 x1.fs.fMode), .v (.bool x1.fs.fTransA), .v (.bool x1.fs.fTransB), .v (.int .i64 x1.fs.fGroup), .arr x1.fs.fKernel.length (lm (ik .i64) x1.fs.fKernel), .arr x1.fs.fStrides.length (lm (ik .i64) x1.fs.fStrides), .arr x1.fs.fPads.length (lm (ik .i64) x1.fs.fPads), .arr x1.fs.fDilations.length (lm (ik .i64) x1.fs.fDilations), .v (.int .i64 x1.fs.fAuto), .v (.bool x1.fs.fCeil), .v (.bool x1.fs.fCount), .v (.int .i64 x1.fs.fBlock), .v (.int .i64 x1.fs.fStart), .v (.int .i64 x1.fs.fEnd), .v (.bool x1.fs.fHasEnd), .v (.int .i64 x1.fs.fValue.fType), .arr x1.fs.fValue.fDims.length (lm (ik .i64) x1.fs.fValue.fDims), .arr x1.fs.fValue.fF.length (lm (ik .u32) x1.fs.fValue.fF), .arr x1.fs.fValue.fI.length (lm (ik .i64) x1.fs.fValue.fI), .arr x1.fs.fValue.fB.length (lm (bk) x1.fs.fValue.fB), .arr x1.fin.length (fm c_T_Val x1.fin), .v (.int .i64 x1.fouts)]))])) (fun t => infer_ask_out_k1 fu x1) ?_ (fun hj1 => ?_)
 ·rintro ⟨⟩
  show J _ (infer_ask_out_k1 fu x1) _
  unfold infer_ask_out_k1
  refine J.bind fun x2 h2 => ?_
  have e_h2 := H101_0 _ _ _ h2
  try simp only [NN, NT, LN, simprocAttr, DT] at e_h2
  refine J.some ?_
  simp (maxSteps := 20000000) (disch := first | exact Zd | fail) only [ZZ, d43_at, simprocAttr, h1, e_h2, FF, LN, NN, NT]
 ·conv => arg 1; simp (disch := first | exact Zd | fail) only [ZZ, d43_at, simprocAttr, h1]
  refine J.joinS (fun (t : Unit) => ([(1, .ptr (0, 1, 0) 0 0), (4, .v (.int .i64 73)), (5, .v (.bool (decide ((73 : Int) = 41))))], [((0, 1, 0), .bx true ([.v (.int .i64 73), .v (.int .i64 x1.fs.fAxis), .arr x1.fs.fAxes.length (lm (ik .i64) x1.fs.fAxes), .v (.bool x1.fs.fHasAxes), .v (.bool x1.fs.fKeep), .v (.bool x1.fs.fNoop), .v (.bool x1.fs.fLast), .v (.bool x1.fs.fZero), .arr x1.fs.fPerm.length (lm (ik .i64) x1.fs.fPerm), .v (.bool x1.fs.fHasPerm), .v (.int .u32 x1.fs.fAlpha), .v (.int .u32 x1.fs.fBeta), .v (.int .u32 x1.fs.fEpsilon), .v (.bool x1.fs.fLow), .v (.bool x1.fs.fHigh), .v (.bool x1.fs.fFmod), .v (.int .i64 x1.fs.fTo), .v (.int .i64 x1.fs.fMode), .v (.bool x1.fs.fTransA), .v (.bool x1.fs.fTransB), .v (.int .i64 x1.fs.fGroup), .arr x1.fs.fKernel.length (lm (ik .i64) x1.fs.fKernel), .arr x1.fs.fStrides.length (lm (ik .i64) x1.fs.fStrides), .arr x1.fs.fPads.length (lm (ik .i64) x1.fs.fPads), .arr x1.fs.fDilations.length (lm (ik .i64) x1.fs.fDilations), .v (.int .i64 x1.fs.fAuto), .v (.bool x1.fs.fCeil), .v (.bool x1.fs.fCount), .v (.int .i64 x1.fs.fBlock), .v (.int .i64 x1.fs.fStart), .v (.int .i64 x1.fs.fEnd), .v (.bool x1.fs.fHasEnd), .v (.int .i64 x1.fs.fValue.fType), .arr x1.fs.fValue.fDims.length (lm (ik .i64) x1.fs.fValue.fDims), .arr x1.fs.fValue.fF.length (lm (ik .u32) x1.fs.fValue.fF), .arr x1.fs.fValue.fI.length (lm (ik .i64) x1.fs.fValue.fI), .arr x1.fs.fValue.fB.length (lm (bk) x1.fs.fValue.fB), .arr x1.fin.length (fm c_T_Val x1.fin), .v (.int .i64 x1.fouts)]))])) (fun t => infer_ask_out_k2 fu x1) ?_ (fun hj2 => ?_)
  ·rintro ⟨⟩
   show J _ (infer_ask_out_k2 fu x1) _
   unfold infer_ask_out_k2
   conv => arg 1; simp (disch := first | exact Zd | fail) only [ZZ, d43_at, simprocAttr, h1]
   refine J.joinS (fun (t : Unit) => ([(1, .ptr (0, 1, 0) 0 0), (4, .v (.int .i64 73)), (5, .v (.bool (decide ((73 : Int) = 41)))), (17, .v (.bool (decide ((73 : Int) = 71))))], [((0, 1, 0), .bx true ([.v (.int .i64 73), .v (.int .i64 x1.fs.fAxis), .arr x1.fs.fAxes.length (lm (ik .i64) x1.fs.fAxes), .v (.bool x1.fs.fHasAxes), .v (.bool x1.fs.fKeep), .v (.bool x1.fs.fNoop), .v (.bool x1.fs.fLast), .v (.bool x1.fs.fZero), .arr x1.fs.fPerm.length (lm (ik .i64) x1.fs.fPerm), .v (.bool x1.fs.fHasPerm), .v (.int .u32 x1.fs.fAlpha), .v (.int .u32 x1.fs.fBeta), .v (.int .u32 x1.fs.fEpsilon), .v (.bool x1.fs.fLow), .v (.bool x1.fs.fHigh), .v (.bool x1.fs.fFmod), .v (.int .i64 x1.fs.fTo), .v (.int .i64 x1.fs.fMode), .v (.bool x1.fs.fTransA), .v (.bool x1.fs.fTransB), .v (.int .i64 x1.fs.fGroup), .arr x1.fs.fKernel.length (lm (ik .i64) x1.fs.fKernel), .arr x1.fs.fStrides.length (lm (ik .i64) x1.fs.fStrides), .arr x1.fs.fPads.length (lm (ik .i64) x1.fs.fPads), .arr x1.fs.fDilations.length (lm (ik .i64) x1.fs.fDilations), .v (.int .i64 x1.fs.fAuto), .v (.bool x1.fs.fCeil), .v (.bool x1.fs.fCount), .v (.int .i64 x1.fs.fBlock), .v (.int .i64 x1.fs.fStart), .v (.int .i64 x1.fs.fEnd), .v (.bool x1.fs.fHasEnd), .v (.int .i64 x1.fs.fValue.fType), .arr x1.fs.fValue.fDims.length (lm (ik .i64) x1.fs.fValue.fDims), .arr x1.fs.fValue.fF.length (lm (ik .u32) x1.fs.fValue.fF), .arr x1.fs.fValue.fI.length (lm (ik .i64) x1.fs.fValue.fI), .arr x1.fs.fValue.fB.length (lm (bk) x1.fs.fValue.fB), .arr x1.fin.length (fm c_T_Val x1.fin), .v (.int .i64 x1.fouts)]))])) (fun t => infer_ask_out_k3 fu x1) ?_ (fun hj3 => ?_)
   ·rintro ⟨⟩
    show J _ (infer_ask_out_k3 fu x1) _
    unfold infer_ask_out_k3
    conv => arg 1; simp (disch := first | exact Zd | fail) only [ZZ, d43_at, simprocAttr, h1]
    refine J.jmp (t := ()) hj1 ?_ ?_
    ·first | rfl | (simp only [LN, NN, NT])
    ·first | (simp (disch := first | exact Zd | fail) only [RR, simprocAttr, LN, NN, NT]; done) | (simp (disch := first | exact Zd | fail) only [RR, simprocAttr, LN, fm_app, NN, NT]; done) | rfl
   ·conv => arg 1; simp (disch := first | exact Zd | fail) only [ZZ, d43_at, simprocAttr, h1]
    refine J.jmp (t := ()) hj3 ?_ ?_
    ·first | rfl | (simp only [LN, NN, NT])
    ·first | (simp (disch := first | exact Zd | fail) only [RR, simprocAttr, LN, NN, NT]; done) | (simp (disch := first | exact Zd | fail) only [RR, simprocAttr, LN, fm_app, NN, NT]; done) | rfl
  ·conv => arg 1; simp (disch := first | exact Zd | fail) only [ZZ, d43_at, simprocAttr, h1]
   refine J.jmp (t := ()) hj2 ?_ ?_
   ·first | rfl | (simp only [LN, NN, NT])
   ·first | (simp (disch := first | exact Zd | fail) only [RR, simprocAttr, LN, NN, NT]; done) | (simp (disch := first | exact Zd | fail) only [RR, simprocAttr, LN, fm_app, NN, NT]; done) | rfl
noncomputable def t43 (fu : Nat) : CallP := orE 101 (mkC (fun (t : T_infer_ask × Int) => ([.agg (c_T_infer_ask t.1), .v (.int .i64 t.2)] : List AV)) (fun t => infer_ask_val fu t.1 t.2) e101) (noP)
theorem t43_ok (fu : Nat) : CpOK Tryz.prog (t43 fu ) := orE_ok (noP_ok) (mkC_ok (fun t b h => ok101 fu t.1 t.2  b h))
theorem ok43 (fu : Nat) (x1 : T_infer_ask) (r) (h : infer_ask_out fu x1 = some r) : PureOK Tryz.prog 43 [.agg (c_T_infer_ask x1)] (e43 r) :=
  pure_J mixed (cp := t43 fu ) (t43_ok fu  ) noI_ok i43 (w43 _ fu x1  (fun a0 a1 r h => orE_hit (mkC_at (a := (a0, a1)) (by intro a b h; first | (exact rfl) | (simp only [INJ, IJ] at h; first | exact h | (simp_all [Prod.ext_iff]) )) h))) h
/-! 25: lattice/infer.Node -/
open Aw (d25)
def d25_at := by have h := tabL Aw.d25.eq_1; simp only [AllAt, Nat.zero_add, Nat.reduceAdd] at h; exact h
theorem i25 : finfo Tryz.prog 25 d25 = some ⟨bodyOf Tryz.f25, [.tmp 8, .tmp 9], [51, 35]⟩ := finfo_at Tryz.func25 rfl (by kernel_rfl) (by kernel_rfl)
def e25 : ((List T_Val) × Int) → AV := fun r => .tuple [.arr r.1.length (fm c_T_Val r.1), .v (.int .i64 r.2)]
set_option maxHeartbeats 20000000 in
theorem w25 (cp : CallP) (fu : Nat) (x1 : Int) (x2 : T_Setting) (x3 : List T_Val) (x4 : Int) (H40_0 : ∀ (a0 : T_infer_ask) r, infer_ask_complete fu a0 = some r → cp 40 [.agg (c_T_infer_ask a0)] = some (.v (.bool r))) (H41_0 : ∀ (a0 : T_infer_ask) r, infer_ask_wrong fu a0 = some r → cp 41 [.agg (c_T_infer_ask a0)] = some (.v (.int .i64 r))) (H42_0 : ∀ (a0 : T_infer_ask) r, infer_ask_shapes fu a0 = some r → cp 42 [.agg (c_T_infer_ask a0)] = some (.tuple [.arr r.1.length (lm (avl (ik .i64)) r.1), .v (.int .i64 r.2)])) (H27_0 : ∀ (a0 : List Int) r, shape_Size fu a0 = some r → cp 27 [.arr a0.length (lm (ik .i64) a0)] = some (.tuple [.v (.int .i64 r.1), .v (.int .i64 r.2)])) (H43_0 : ∀ (a0 : T_infer_ask) r, infer_ask_out fu a0 = some r → cp 43 [.agg (c_T_infer_ask a0)] = some (.v (.int .i64 r))) (H44_0 : ∀ (a0 : List Int) r, slices_Clone_int fu a0 = some r → cp 44 [.arr a0.length (lm (ik .i64) a0)] = some (.fresh 1 r.length (lm (ik .i64) r))) : J (go Tryz.prog noC cp noI 0 [] d25 fu (finS Tryz.prog [.tmp 8, .tmp 9] [51, 35]) (bodyOf Tryz.f25) (initE 0 [.v (.int .i64 x1), .agg (c_T_Setting x2), .arr x3.length (fm c_T_Val x3), .v (.int .i64 x4)]) [] []) (infer_Node fu x1 x2 x3 x4) e25 := by
 unfold infer_Node e25
 refine J.chk fun h1 => ?_
 conv => arg 1; simp (disch := first | exact Zd | fail) only [bodyOf, Tryz.f25, ZZ, d25_at, simprocAttr, SE, h1]
 refine J.eq go_seq ?_
 refine J.bind fun x5 h2 => ?_
 have e_h2 := H40_0 _ _ h2
 try simp only [NN, NT, LN, simprocAttr, DT] at e_h2
 conv => arg 1; simp (disch := first | exact Zd | fail) only [ZZ, d25_at, simprocAttr, SE, h1, e_h2]
 refine J.ite (fun h3 => ?_) (fun h3 => ?_)
 ·have h3' : x5 = true := h3
  conv => arg 1; simp (disch := first | exact Zd | fail) only [ZZ, d25_at, simprocAttr, SE, h1, e_h2, h3']
  refine J.eq ret_seq ?_
  refine J.eq go_seq ?_
  refine J.bind fun x6 h4 => ?_
  have e_h4 := H41_0 _ _ h4
  try simp only [NN, NT, LN, simprocAttr, DT] at e_h4
  conv => arg 1; simp (disch := first | exact Zd | fail) only [ZZ, d25_at, simprocAttr, SE, h1, e_h2, h3', e_h4]
  refine J.ite (fun h5 => ?_) (fun h5 => ?_)
  ·have h5' := decide_eq_true h5
   conv => arg 1; simp (disch := first | exact Zd | fail) only [ZZ, d25_at, simprocAttr, SE, h1, e_h2, h3', e_h4, h5']
   refine J.eq ret_seq ?_
   refine J.bind fun x7 h6 => ?_
   have e_h6 := H42_0 _ _ h6
   try simp only [NN, NT, LN, simprocAttr, DT] at e_h6
   conv => arg 1; simp (disch := first | exact Zd | fail) only [ZZ, d25_at, simprocAttr, SE, h1, e_h2, h3', e_h4, h5', e_h6]
   refine J.eq go_seq ?_
   conv => arg 1; simp (disch := first | exact Zd | fail) only [ZZ, d25_at, simprocAttr, SE, h1, e_h2, h3', e_h4, h5', e_h6]
   refine J.ite (fun h7 => ?_) (fun h7 => ?_)
   ·have h7' := decide_eq_true h7
    conv => arg 1; simp (disch := first | exact Zd | fail) only [ZZ, d25_at, simprocAttr, SE, h1, e_h2, h3', e_h4, h5', e_h6, h7']
    refine J.eq ret_seq ?_
    conv => arg 1; simp (disch := first | exact Zd | fail) only [ZZ, d25_at, simprocAttr, SE, h1, e_h2, h3', e_h4, h5', e_h6, h7']
    refine J.eq go_seq ?_
    conv => arg 1; simp (disch := first | exact Zd | fail) only [ZZ, d25_at, simprocAttr, SE, h1, e_h2, h3', e_h4, h5', e_h6, h7']
    unfold infer_Node_W1
    refine J.loop (fun (s : (List T_Val) × Int) => ([(10, .ptr (0, 10, 0) 0 0), (14, .own (0, 14, 77) 0 s.1.length s.1.length), (40, .arr x7.1.length (lm (avl (ik .i64)) x7.1)), (41, .v (.int .i64 (x7.1.length : Int))), (42, .v (.int .i64 s.2))], [((0, 10, 0), .bx true ([.v (.int .i64 73), .v (.int .i64 x2.fAxis), .arr x2.fAxes.length (lm (ik .i64) x2.fAxes), .v (.bool x2.fHasAxes), .v (.bool x2.fKeep), .v (.bool x2.fNoop), .v (.bool x2.fLast), .v (.bool x2.fZero), .arr x2.fPerm.length (lm (ik .i64) x2.fPerm), .v (.bool x2.fHasPerm), .v (.int .u32 x2.fAlpha), .v (.int .u32 x2.fBeta), .v (.int .u32 x2.fEpsilon), .v (.bool x2.fLow), .v (.bool x2.fHigh), .v (.bool x2.fFmod), .v (.int .i64 x2.fTo), .v (.int .i64 x2.fMode), .v (.bool x2.fTransA), .v (.bool x2.fTransB), .v (.int .i64 x2.fGroup), .arr x2.fKernel.length (lm (ik .i64) x2.fKernel), .arr x2.fStrides.length (lm (ik .i64) x2.fStrides), .arr x2.fPads.length (lm (ik .i64) x2.fPads), .arr x2.fDilations.length (lm (ik .i64) x2.fDilations), .v (.int .i64 x2.fAuto), .v (.bool x2.fCeil), .v (.bool x2.fCount), .v (.int .i64 x2.fBlock), .v (.int .i64 x2.fStart), .v (.int .i64 x2.fEnd), .v (.bool x2.fHasEnd), .v (.int .i64 x2.fValue.fType), .arr x2.fValue.fDims.length (lm (ik .i64) x2.fValue.fDims), .arr x2.fValue.fF.length (lm (ik .u32) x2.fValue.fF), .arr x2.fValue.fI.length (lm (ik .i64) x2.fValue.fI), .arr x2.fValue.fB.length (lm (bk) x2.fValue.fB), .arr x3.length (fm c_T_Val x3), .v (.int .i64 x4)])), ((0, 14, 77), .sl true true 8 s.1.length (fm c_T_Val s.1))])) (fun next s => infer_Node_L1 fu x2 x3 x4 x7 (fun x12 x13 => next (x12, x13)) s.1 s.2) (s0 := (([] : List T_Val), 0)) ?_ ?_ ?_
    ·first | rfl | (simp only [LN, NN, NT])
    ·first | (simp (disch := first | exact Zd | fail) only [RR, simprocAttr, LN, NN, NT]; done) | (simp (disch := first | exact Zd | fail) only [RR, simprocAttr, LN, fm_app, NN, NT]; done) | rfl
    rintro next k1 hn1 ⟨x12, x13⟩
    let nx1 : (List T_Val) → Int → Option ((List T_Val) × Int) := (fun x12 x13 => next (x12, x13))
    show J _ (infer_Node_L1 fu x2 x3 x4 x7 nx1 x12 x13) _
    unfold infer_Node_L1
    conv => arg 1; simp (disch := first | exact Zd | fail) only [ZZ, d25_at, simprocAttr, SE, h1, e_h2, h3', e_h4, h5', e_h6, h7']
    refine J.eq go_seq ?_
    conv => arg 1; simp (disch := first | exact Zd | fail) only [ZZ, d25_at, simprocAttr, SE, h1, e_h2, h3', e_h4, h5', e_h6, h7']
    refine J.ite (fun h8 => ?_) (fun h8 => ?_)
    ·have h8' := decide_eq_true h8
     have h8'' : decide ((x7.1.length : Int) ≤ x13) = false := decide_eq_false (by omega)
     conv => arg 1; simp (disch := first | exact Zd | fail) only [ZZ, d25_at, simprocAttr, SE, h1, e_h2, h3', e_h4, h5', e_h6, h7', h8'', h8']
     refine J.eq ret_seq ?_
     refine J.eq go_seq ?_
     refine J.at fun x18 h9 h10 h11 => ?_
     conv => arg 1; simp (disch := first | exact Zd | fail) only [ZZ, d25_at, simprocAttr, SE, h1, e_h2, h3', e_h4, h5', e_h6, h7', h8'', h8', lm_avl h11]
     refine J.eq go_seq ?_
     refine J.bind fun x19 h12 => ?_
     have e_h12 := H27_0 _ _ h12
     try simp only [NN, NT, LN, simprocAttr, DT] at e_h12
     conv => arg 1; simp (disch := first | exact Zd | fail) only [ZZ, d25_at, simprocAttr, SE, h1, e_h2, h3', e_h4, h5', e_h6, h7', h8'', h8', lm_avl h11, e_h12]
     refine J.ite (fun h13 => ?_) (fun h13 => ?_)
     ·have h13' := decide_eq_true h13
      conv => arg 1; simp (disch := first | exact Zd | fail) only [ZZ, d25_at, simprocAttr, SE, h1, e_h2, h3', e_h4, h5', e_h6, h7', h8'', h8', lm_avl h11, e_h12, h13']
      refine J.eq ret_seq ?_
      refine J.bind fun x20 h14 => ?_
      have e_h14 := H43_0 _ _ h14
      try simp only [NN, NT, LN, simprocAttr, DT] at e_h14
      refine J.bind fun x21 h15 => ?_
      have e_h15 := H44_0 _ _ h15
      try simp only [NN, NT, LN, simprocAttr, DT] at e_h15
      refine J.chk fun h16 => ?_
      conv => arg 1; simp (disch := first | exact Zd | fail) only [ZZ, d25_at, simprocAttr, SE, h1, e_h2, h3', e_h4, h5', e_h6, h7', h8'', h8', lm_avl h11, e_h12, h13', e_h14, e_h15]
      refine J.eq ret_seq ?_
      conv => arg 1; simp (disch := first | exact Zd | fail) only [ZZ, d25_at, simprocAttr, SE, h1, e_h2, h3', e_h4, h5', e_h6, h7', h8'', h8', lm_avl h11, e_h12, h13', e_h14, e_h15]
      refine J.next (s := (x12 ++ ([T_Val.mk x20 x21 false (T_Tensor.mk 0 ([]) ([]) ([]) ([]))]), wk .i64 (x13 + 1))) hn1 ?_ ?_
      ·first | rfl | (simp only [LN, NN, NT])
      ·first | (simp (disch := first | exact Zd | fail) only [RR, simprocAttr, LN, NN, NT]; done) | (simp (disch := first | exact Zd | fail) only [RR, simprocAttr, LN, fm_app, NN, NT]; done) | rfl
     ·have h13' := decide_eq_false h13
      refine J.some ?_
      simp (maxSteps := 20000000) (disch := first | exact Zd | fail) only [ZZ, d25_at, simprocAttr, SE, h1, e_h2, h3', e_h4, h5', e_h6, h7', h8'', h8', lm_avl h11, e_h12, h13', FF, LN, NN, NT]
    ·have h8' := decide_eq_false h8
     have h8'' : decide ((x7.1.length : Int) ≤ x13) = true := decide_eq_true (by omega)
     conv => arg 1; simp (disch := first | exact Zd | fail) only [ZZ, d25_at, simprocAttr, SE, h1, e_h2, h3', e_h4, h5', e_h6, h7', h8'', h8']
     refine J.eq ret_seq ?_
     refine J.some ?_
     simp (maxSteps := 20000000) (disch := first | exact Zd | fail) only [ZZ, d25_at, simprocAttr, SE, h1, e_h2, h3', e_h4, h5', e_h6, h7', h8'', h8', FF, LN, NN, NT]
   ·have h7' := decide_eq_false h7
    refine J.some ?_
    simp (maxSteps := 20000000) (disch := first | exact Zd | fail) only [ZZ, d25_at, simprocAttr, SE, h1, e_h2, h3', e_h4, h5', e_h6, h7', FF, LN, NN, NT]
  ·have h5' := decide_eq_false h5
   refine J.some ?_
   simp (maxSteps := 20000000) (disch := first | exact Zd | fail) only [ZZ, d25_at, simprocAttr, SE, h1, e_h2, h3', e_h4, h5', FF, LN, NN, NT]
 ·have h3' : x5 = false := Bool.eq_false_iff.2 h3
  refine J.some ?_
  simp (maxSteps := 20000000) (disch := first | exact Zd | fail) only [ZZ, d25_at, simprocAttr, SE, h1, e_h2, h3', FF, LN, NN, NT]
noncomputable def t25 (fu : Nat) : CallP := orE 40 (mkC (fun (t : T_infer_ask) => ([.agg (c_T_infer_ask t)] : List AV)) (fun t => infer_ask_complete fu t) e40) (orE 41 (mkC (fun (t : T_infer_ask) => ([.agg (c_T_infer_ask t)] : List AV)) (fun t => infer_ask_wrong fu t) e41) (orE 42 (mkC (fun (t : T_infer_ask) => ([.agg (c_T_infer_ask t)] : List AV)) (fun t => infer_ask_shapes fu t) e42) (orE 27 (mkC (fun (t : List Int) => ([.arr t.length (lm (ik .i64) t)] : List AV)) (fun t => shape_Size fu t) e27) (orE 43 (mkC (fun (t : T_infer_ask) => ([.agg (c_T_infer_ask t)] : List AV)) (fun t => infer_ask_out fu t) e43) (orE 44 (mkC (fun (t : List Int) => ([.arr t.length (lm (ik .i64) t)] : List AV)) (fun t => slices_Clone_int fu t) e44) (noP))))))
theorem t25_ok (fu : Nat) : CpOK Tryz.prog (t25 fu ) := orE_ok (orE_ok (orE_ok (orE_ok (orE_ok (orE_ok (noP_ok) (mkC_ok (fun t b h => ok44 fu t  b h))) (mkC_ok (fun t b h => ok43 fu t  b h))) (mkC_ok (fun t b h => ok27 fu t  b h))) (mkC_ok (fun t b h => ok42 fu t  b h))) (mkC_ok (fun t b h => ok41 fu t  b h))) (mkC_ok (fun t b h => ok40 fu t  b h))
theorem ok25 (fu : Nat) (x1 : Int) (x2 : T_Setting) (x3 : List T_Val) (x4 : Int) (r) (h : infer_Node fu x1 x2 x3 x4 = some r) : PureOK Tryz.prog 25 [.v (.int .i64 x1), .agg (c_T_Setting x2), .arr x3.length (fm c_T_Val x3), .v (.int .i64 x4)] (e25 r) :=
  pureS_J mixed (cp := t25 fu ) (t25_ok fu  ) noI_ok i25 (w25 _ fu x1 x2 x3 x4  (fun a0 r h => orE_hit (mkC_at (a := a0) (by intro a b h; first | (exact rfl) | (simp only [INJ, IJ] at h; first | exact h | (simp_all [Prod.ext_iff]) )) h)) (fun a0 r h => orE_miss (by decide) (orE_hit (mkC_at (a := a0) (by intro a b h; first | (exact rfl) | (simp only [INJ, IJ] at h; first | exact h | (simp_all [Prod.ext_iff]) )) h))) (fun a0 r h => orE_miss (by decide) (orE_miss (by decide) (orE_hit (mkC_at (a := a0) (by intro a b h; first | (exact rfl) | (simp only [INJ, IJ] at h; first | exact h | (simp_all [Prod.ext_iff]) )) h)))) (fun a0 r h => orE_miss (by decide) (orE_miss (by decide) (orE_miss (by decide) (orE_hit (mkC_at (a := a0) (by intro a b h; first | (exact rfl) | (simp only [INJ, IJ] at h; first | exact h | (simp_all [Prod.ext_iff]) )) h))))) (fun a0 r h => orE_miss (by decide) (orE_miss (by decide) (orE_miss (by decide) (orE_miss (by decide) (orE_hit (mkC_at (a := a0) (by intro a b h; first | (exact rfl) | (simp only [INJ, IJ] at h; first | exact h | (simp_all [Prod.ext_iff]) )) h)))))) (fun a0 r h => orE_miss (by decide) (orE_miss (by decide) (orE_miss (by decide) (orE_miss (by decide) (orE_miss (by decide) (orE_hit (mkC_at (a := a0) (by intro a b h; first | (exact rfl) | (simp only [INJ, IJ] at h; first | exact h | (simp_all [Prod.ext_iff]) )) h)))))))) h
/-! 106: lattice/shape.strides -/
open Aw (d106)
def d106_at := by have h := tabL Aw.d106.eq_1; simp only [AllAt, Nat.zero_add, Nat.reduceAdd] at h; exact h
theorem i106 : finfo Tryz.prog 106 d106 = some ⟨bodyOf Tryz.f106, [.tmp 2], [27]⟩ := finfo_at Tryz.func106 rfl (by kernel_rfl) (by kernel_rfl)
def e106 : (List Int) → AV := fun r => .fresh 1 r.length (lm (ik .i64) r)
set_option maxHeartbeats 20000000 in
theorem w106 (cp : CallP) (fu : Nat) (x1 : List Int) : J (go Tryz.prog noC cp noI 0 [] d106 fu (fin Tryz.prog [.tmp 2] [27]) (bodyOf Tryz.f106) (initE 0 [.arr x1.length (lm (ik .i64) x1)]) [] []) (shape_strides fu x1) e106 := by
 unfold shape_strides e106
 refine J.chk fun h1 => ?_
 conv => arg 1; simp (disch := first | exact Zd | fail) only [bodyOf, Tryz.f106, ZZ, d106_at, simprocAttr]
 refine J.eq go_seq ?_
 conv => arg 1; simp (disch := first | exact Zd | fail) only [ZZ, d106_at, simprocAttr]
 unfold shape_strides_W1
 refine J.loop (fun (s : (List Int) × Int × Int) => ([(0, .arr x1.length (lm (ik .i64) x1)), (3, .own (0, 8, 0) 0 s.1.length s.1.length), (4, .v (.int .i64 s.2.1)), (5, .v (.int .i64 s.2.2))], [((0, 8, 0), .sl true true 1 s.1.length (lm (ik .i64) s.1))])) (fun next s => shape_strides_L1 fu x1 (fun x3 x4 x5 => next (x3, x4, x5)) s.1 s.2.1 s.2.2) (s0 := (List.replicate (x1.length : Int).toNat (0 : Int), 1, wk .i64 ((x1.length : Int) - 1))) ?_ ?_ ?_
 ·first | rfl | (simp only [LN, NN, NT])
 ·first | (simp (disch := first | exact Zd | fail) only [RR, simprocAttr, LN, NN, NT]; done) | (simp (disch := first | exact Zd | fail) only [RR, simprocAttr, LN, fm_app, NN, NT]; done) | rfl
 rintro next k1 hn1 ⟨x3, x4, x5⟩
 let nx1 : (List Int) → Int → Int → Option (List Int) := (fun x3 x4 x5 => next (x3, x4, x5))
 show J _ (shape_strides_L1 fu x1 nx1 x3 x4 x5) _
 unfold shape_strides_L1
 refine J.eq go_seq ?_
 conv => arg 1; simp (disch := first | exact Zd | fail) only [ZZ, d106_at, simprocAttr]
 refine J.ite (fun h2 => ?_) (fun h2 => ?_)
 ·have h2' := decide_eq_true h2
  have h2'' : decide (x5 < 0) = false := decide_eq_false (by omega)
  conv => arg 1; simp (disch := first | exact Zd | fail) only [ZZ, d106_at, simprocAttr, h2'', h2']
  refine J.eq ret_seq ?_
  refine J.eq go_seq ?_
  refine J.chk fun h3 => ?_
  refine J.at fun x7 h4 h5 h6 => ?_
  conv => arg 1; simp (disch := first | exact Zd | fail) only [ZZ, d106_at, simprocAttr, h2'', h2', lm_ik h6]
  refine J.eq ret_seq ?_
  conv => arg 1; simp (disch := first | exact Zd | fail) only [ZZ, d106_at, simprocAttr, h2'', h2', lm_ik h6]
  refine J.next (s := (x3.set x5.toNat x4, wk .i64 (x4 * x7), wk .i64 (x5 - 1))) hn1 ?_ ?_
  ·first | rfl | (simp only [LN, NN, NT])
  ·first | (simp (disch := first | exact Zd | fail) only [RR, simprocAttr, LN, NN, NT]; done) | (simp (disch := first | exact Zd | fail) only [RR, simprocAttr, LN, fm_app, NN, NT]; done) | rfl
 ·have h2' := decide_eq_false h2
  have h2'' : decide (x5 < 0) = true := decide_eq_true (by omega)
  conv => arg 1; simp (disch := first | exact Zd | fail) only [ZZ, d106_at, simprocAttr, h2'', h2']
  refine J.eq ret_seq ?_
  refine J.some ?_
  simp (maxSteps := 20000000) (disch := first | exact Zd | fail) only [ZZ, d106_at, simprocAttr, h2'', h2', FF, LN, NN, NT]
noncomputable def t106 (fu : Nat) : CallP := noP
theorem t106_ok (fu : Nat) : CpOK Tryz.prog (t106 fu ) := noP_ok
theorem ok106 (fu : Nat) (x1 : List Int) (r) (h : shape_strides fu x1 = some r) : PureOK Tryz.prog 106 [.arr x1.length (lm (ik .i64) x1)] (e106 r) :=
  pure_J mixed (cp := t106 fu ) (t106_ok fu  ) noI_ok i106 (w106 _ fu x1  ) h
/-! 105: lattice/shape.Index -/
open Aw (d105)
def d105_at := by have h := tabL Aw.d105.eq_1; simp only [AllAt, Nat.zero_add, Nat.reduceAdd] at h; exact h
theorem i105 : finfo Tryz.prog 105 d105 = some ⟨bodyOf Tryz.f105, [.tmp 4, .tmp 5], [27, 35]⟩ := finfo_at Tryz.func105 rfl (by kernel_rfl) (by kernel_rfl)
def e105 : ((List Int) × Int) → AV := fun r => .tuple [.fresh 1 r.1.length (lm (ik .i64) r.1), .v (.int .i64 r.2)]
set_option maxHeartbeats 20000000 in
theorem w105 (cp : CallP) (fu : Nat) (x1 : List Int) (x2 : Int) (H27_0 : ∀ (a0 : List Int) r, shape_Size fu a0 = some r → cp 27 [.arr a0.length (lm (ik .i64) a0)] = some (.tuple [.v (.int .i64 r.1), .v (.int .i64 r.2)])) (H106_0 : ∀ (a0 : List Int) r, shape_strides fu a0 = some r → cp 106 [.arr a0.length (lm (ik .i64) a0)] = some (.fresh 1 r.length (lm (ik .i64) r))) : J (go Tryz.prog noC cp noI 0 [] d105 fu (fin Tryz.prog [.tmp 4, .tmp 5] [27, 35]) (bodyOf Tryz.f105) (initE 0 [.arr x1.length (lm (ik .i64) x1), .v (.int .i64 x2)]) [] []) (shape_Index fu x1 x2) e105 := by
 unfold shape_Index e105
 refine J.bind fun x3 h1 => ?_
 have e_h1 := H27_0 _ _ h1
 try simp only [NN, NT, LN, simprocAttr, DT] at e_h1
 conv => arg 1; simp (disch := first | exact Zd | fail) only [bodyOf, Tryz.f105, ZZ, d105_at, simprocAttr, e_h1]
 refine J.eq go_seq ?_
 conv => arg 1; simp (disch := first | exact Zd | fail) only [ZZ, d105_at, simprocAttr, e_h1]
 refine J.ite (fun h2 => ?_) (fun h2 => ?_)
 ·have h2' := decide_eq_true h2
  conv => arg 1; simp (disch := first | exact Zd | fail) only [ZZ, d105_at, simprocAttr, e_h1, h2']
  refine J.eq ret_seq ?_
  refine J.joinS (fun (t : Unit) => ([(0, .arr x1.length (lm (ik .i64) x1)), (1, .v (.int .i64 x2))], [])) (fun t => shape_Index_k1 fu x1 x2) ?_ (fun hj1 => ?_)
  ·rintro ⟨⟩
   show J _ (shape_Index_k1 fu x1 x2) _
   unfold shape_Index_k1
   refine J.chk fun h3 => ?_
   conv => arg 1; simp (disch := first | exact Zd | fail) only [ZZ, d105_at, simprocAttr, e_h1, h2']
   refine J.eq go_seq ?_
   refine J.bind fun x4 h4 => ?_
   have e_h4 := H106_0 _ _ h4
   try simp only [NN, NT, LN, simprocAttr, DT] at e_h4
   conv => arg 1; simp (disch := first | exact Zd | fail) only [ZZ, d105_at, simprocAttr, e_h1, h2', e_h4]
   unfold shape_Index_W1
   refine J.loop (fun (s : (List Int) × Int × Int) => ([(1, .v (.int .i64 s.2.1)), (8, .own (0, 28, 0) 0 s.1.length s.1.length), (30, .own (0, 30, 0) 0 x4.length x4.length), (31, .v (.int .i64 (x4.length : Int))), (32, .v (.int .i64 s.2.2))], [((0, 28, 0), .sl true true 1 s.1.length (lm (ik .i64) s.1)), ((0, 30, 0), .sl true true 1 x4.length (lm (ik .i64) x4))])) (fun next s => shape_Index_L1 fu x4 (fun x6 x7 x8 => next (x6, x7, x8)) s.1 s.2.1 s.2.2) (s0 := (List.replicate (x1.length : Int).toNat (0 : Int), x2, 0)) ?_ ?_ ?_
   ·first | rfl | (simp only [LN, NN, NT])
   ·first | (simp (disch := first | exact Zd | fail) only [RR, simprocAttr, LN, NN, NT]; done) | (simp (disch := first | exact Zd | fail) only [RR, simprocAttr, LN, fm_app, NN, NT]; done) | rfl
   rintro next k1 hn1 ⟨x6, x7, x8⟩
   let nx1 : (List Int) → Int → Int → Option ((List Int) × Int) := (fun x6 x7 x8 => next (x6, x7, x8))
   show J _ (shape_Index_L1 fu x4 nx1 x6 x7 x8) _
   unfold shape_Index_L1
   conv => arg 1; simp (disch := first | exact Zd | fail) only [ZZ, d105_at, simprocAttr, e_h1, h2', e_h4]
   refine J.eq go_seq ?_
   conv => arg 1; simp (disch := first | exact Zd | fail) only [ZZ, d105_at, simprocAttr, e_h1, h2', e_h4]
   refine J.ite (fun h5 => ?_) (fun h5 => ?_)
   ·have h5' := decide_eq_true h5
    have h5'' : decide ((x4.length : Int) ≤ x8) = false := decide_eq_false (by omega)
    conv => arg 1; simp (disch := first | exact Zd | fail) only [ZZ, d105_at, simprocAttr, e_h1, h2', e_h4, h5'', h5']
    refine J.eq ret_seq ?_
    refine J.eq go_seq ?_
    refine J.at fun x10 h6 h7 h8 => ?_
    refine J.chk fun h9 => ?_
    refine J.chk fun h10 => ?_
    conv => arg 1; simp (disch := first | exact Zd | fail) only [ZZ, d105_at, simprocAttr, e_h1, h2', e_h4, h5'', h5', lm_ik h8]
    refine J.eq ret_seq ?_
    conv => arg 1; simp (disch := first | exact Zd | fail) only [ZZ, d105_at, simprocAttr, e_h1, h2', e_h4, h5'', h5', lm_ik h8]
    refine J.next (s := (x6.set x8.toNat (wk .i64 (Int.tdiv x7 x10)), Int.tmod x7 x10, wk .i64 (x8 + 1))) hn1 ?_ ?_
    ·first | rfl | (simp only [LN, NN, NT])
    ·first | (simp (disch := first | exact Zd | fail) only [RR, simprocAttr, LN, NN, NT]; done) | (simp (disch := first | exact Zd | fail) only [RR, simprocAttr, LN, fm_app, NN, NT]; done) | rfl
   ·have h5' := decide_eq_false h5
    have h5'' : decide ((x4.length : Int) ≤ x8) = true := decide_eq_true (by omega)
    conv => arg 1; simp (disch := first | exact Zd | fail) only [ZZ, d105_at, simprocAttr, e_h1, h2', e_h4, h5'', h5']
    refine J.eq ret_seq ?_
    refine J.some ?_
    simp (maxSteps := 20000000) (disch := first | exact Zd | fail) only [ZZ, d105_at, simprocAttr, e_h1, h2', e_h4, h5'', h5', FF, LN, NN, NT]
  ·refine J.eq go_seq ?_
   conv => arg 1; simp (disch := first | exact Zd | fail) only [ZZ, d105_at, simprocAttr, e_h1, h2']
   refine J.ite (fun h11 => ?_) (fun h11 => ?_)
   ·have h11' := decide_eq_true h11
    have h11'' : decide (0 ≤ x2) = false := decide_eq_false (by omega)
    conv => arg 1; simp (disch := first | exact Zd | fail) only [ZZ, d105_at, simprocAttr, e_h1, h2', h11'', h11']
    refine J.eq ret_seq ?_
    refine J.some ?_
    simp (maxSteps := 20000000) (disch := first | exact Zd | fail) only [ZZ, d105_at, simprocAttr, e_h1, h2', h11'', h11', FF, LN, NN, NT]
   ·have h11' := decide_eq_false h11
    have h11'' : decide (0 ≤ x2) = true := decide_eq_true (by omega)
    conv => arg 1; simp (disch := first | exact Zd | fail) only [ZZ, d105_at, simprocAttr, e_h1, h2', h11'', h11']
    refine J.eq ret_seq ?_
    conv => arg 1; simp (disch := first | exact Zd | fail) only [ZZ, d105_at, simprocAttr, e_h1, h2', h11'', h11']
    refine J.ite (fun h12 => ?_) (fun h12 => ?_)
    ·have h12' := decide_eq_true h12
     have h12'' : decide (x2 < x3.1) = false := decide_eq_false (by omega)
     refine J.some ?_
     simp (maxSteps := 20000000) (disch := first | exact Zd | fail) only [ZZ, d105_at, simprocAttr, e_h1, h2', h11'', h11', h12'', h12', FF, LN, NN, NT]
    ·have h12' := decide_eq_false h12
     have h12'' : decide (x2 < x3.1) = true := decide_eq_true (by omega)
     conv => arg 1; simp (disch := first | exact Zd | fail) only [ZZ, d105_at, simprocAttr, e_h1, h2', h11'', h11', h12'', h12']
     refine J.jmp (t := ()) hj1 ?_ ?_
     ·first | rfl | (simp only [LN, NN, NT])
     ·first | (simp (disch := first | exact Zd | fail) only [RR, simprocAttr, LN, NN, NT]; done) | (simp (disch := first | exact Zd | fail) only [RR, simprocAttr, LN, fm_app, NN, NT]; done) | rfl
 ·have h2' := decide_eq_false h2
  refine J.some ?_
  simp (maxSteps := 20000000) (disch := first | exact Zd | fail) only [ZZ, d105_at, simprocAttr, e_h1, h2', FF, LN, NN, NT]
noncomputable def t105 (fu : Nat) : CallP := orE 27 (mkC (fun (t : List Int) => ([.arr t.length (lm (ik .i64) t)] : List AV)) (fun t => shape_Size fu t) e27) (orE 106 (mkC (fun (t : List Int) => ([.arr t.length (lm (ik .i64) t)] : List AV)) (fun t => shape_strides fu t) e106) (noP))
theorem t105_ok (fu : Nat) : CpOK Tryz.prog (t105 fu ) := orE_ok (orE_ok (noP_ok) (mkC_ok (fun t b h => ok106 fu t  b h))) (mkC_ok (fun t b h => ok27 fu t  b h))
theorem ok105 (fu : Nat) (x1 : List Int) (x2 : Int) (r) (h : shape_Index fu x1 x2 = some r) : PureOK Tryz.prog 105 [.arr x1.length (lm (ik .i64) x1), .v (.int .i64 x2)] (e105 r) :=
  pure_J mixed (cp := t105 fu ) (t105_ok fu  ) noI_ok i105 (w105 _ fu x1 x2  (fun a0 r h => orE_hit (mkC_at (a := a0) (by intro a b h; first | (exact rfl) | (simp only [INJ, IJ] at h; first | exact h | (simp_all [Prod.ext_iff]) )) h)) (fun a0 r h => orE_miss (by decide) (orE_hit (mkC_at (a := a0) (by intro a b h; first | (exact rfl) | (simp only [INJ, IJ] at h; first | exact h | (simp_all [Prod.ext_iff]) )) h)))) h
/-! 50: lattice/shape.From -/
open Aw (d50)
def d50_at := by have h := tabL Aw.d50.eq_1; simp only [AllAt, Nat.zero_add, Nat.reduceAdd] at h; exact h
theorem i50 : finfo Tryz.prog 50 d50 = some ⟨bodyOf Tryz.f50, [.tmp 6, .tmp 7], [3, 35]⟩ := finfo_at Tryz.func50 rfl (by kernel_rfl) (by kernel_rfl)
def e50 : (Int × Int) → AV := fun r => .tuple [.v (.int .i64 r.1), .v (.int .i64 r.2)]
set_option maxHeartbeats 20000000 in
theorem w50 (cp : CallP) (fu : Nat) (x1 : List Int) (x2 : List Int) (x3 : Int) (H27_0 : ∀ (a0 : List Int) r, shape_Size fu a0 = some r → cp 27 [.arr a0.length (lm (ik .i64) a0)] = some (.tuple [.v (.int .i64 r.1), .v (.int .i64 r.2)])) (H49_0 : ∀ (a0 : List Int) (a1 : List Int) r, shape_Broadcast fu a0 a1 = some r → cp 49 [.arr a0.length (lm (ik .i64) a0), .arr a1.length (lm (ik .i64) a1)] = some (.tuple [.fresh 1 r.1.length (lm (ik .i64) r.1), .v (.int .i64 r.2)])) (H104_0 : ∀ (a0 : List Int) (a1 : List Int) r, slices_Equal_int fu a0 a1 = some r → cp 104 [.arr a0.length (lm (ik .i64) a0), .arr a1.length (lm (ik .i64) a1)] = some (.v (.bool r))) (H105_0 : ∀ (a0 : List Int) (a1 : Int) r, shape_Index fu a0 a1 = some r → cp 105 [.arr a0.length (lm (ik .i64) a0), .v (.int .i64 a1)] = some (.tuple [.fresh 1 r.1.length (lm (ik .i64) r.1), .v (.int .i64 r.2)])) (H106_0 : ∀ (a0 : List Int) r, shape_strides fu a0 = some r → cp 106 [.arr a0.length (lm (ik .i64) a0)] = some (.fresh 1 r.length (lm (ik .i64) r))) : J (go Tryz.prog noC cp noI 0 [] d50 fu (fin Tryz.prog [.tmp 6, .tmp 7] [3, 35]) (bodyOf Tryz.f50) (initE 0 [.arr x1.length (lm (ik .i64) x1), .arr x2.length (lm (ik .i64) x2), .v (.int .i64 x3)]) [] []) (shape_From fu x1 x2 x3) e50 := by
 unfold shape_From e50
 conv => arg 1; simp (disch := first | exact Zd | fail) only [bodyOf, Tryz.f50, ZZ, d50_at, simprocAttr]
 refine J.eq go_seq ?_
 refine J.bind fun x4 h1 => ?_
 have e_h1 := H27_0 _ _ h1
 try simp only [NN, NT, LN, simprocAttr, DT] at e_h1
 conv => arg 1; simp (disch := first | exact Zd | fail) only [ZZ, d50_at, simprocAttr, e_h1]
 refine J.ite (fun h2 => ?_) (fun h2 => ?_)
 ·have h2' := decide_eq_true h2
  conv => arg 1; simp (disch := first | exact Zd | fail) only [ZZ, d50_at, simprocAttr, e_h1, h2']
  refine J.eq ret_seq ?_
  refine J.eq go_seq ?_
  refine J.bind fun x5 h3 => ?_
  have e_h3 := H27_0 _ _ h3
  try simp only [NN, NT, LN, simprocAttr, DT] at e_h3
  conv => arg 1; simp (disch := first | exact Zd | fail) only [ZZ, d50_at, simprocAttr, e_h1, h2', e_h3]
  refine J.ite (fun h4 => ?_) (fun h4 => ?_)
  ·have h4' := decide_eq_true h4
   conv => arg 1; simp (disch := first | exact Zd | fail) only [ZZ, d50_at, simprocAttr, e_h1, h2', e_h3, h4']
   refine J.eq ret_seq ?_
   refine J.bind fun x6 h5 => ?_
   have e_h5 := H49_0 _ _ _ h5
   try simp only [NN, NT, LN, simprocAttr, DT] at e_h5
   conv => arg 1; simp (disch := first | exact Zd | fail) only [ZZ, d50_at, simprocAttr, e_h1, h2', e_h3, h4', e_h5]
   refine J.joinS (fun (t : Unit) => ([(0, .arr x1.length (lm (ik .i64) x1)), (1, .arr x2.length (lm (ik .i64) x2)), (2, .v (.int .i64 x3))], [])) (fun t => shape_From_k1 fu x1 x2 x3) ?_ (fun hj1 => ?_)
   ·rintro ⟨⟩
    show J _ (shape_From_k1 fu x1 x2 x3) _
    unfold shape_From_k1
    refine J.bind fun x7 h6 => ?_
    have e_h6 := H105_0 _ _ _ h6
    try simp only [NN, NT, LN, simprocAttr, DT] at e_h6
    conv => arg 1; simp (disch := first | exact Zd | fail) only [ZZ, d50_at, simprocAttr, e_h1, h2', e_h3, h4', e_h5, e_h6]
    refine J.eq go_seq ?_
    conv => arg 1; simp (disch := first | exact Zd | fail) only [ZZ, d50_at, simprocAttr, e_h1, h2', e_h3, h4', e_h5, e_h6]
    refine J.ite (fun h7 => ?_) (fun h7 => ?_)
    ·have h7' := decide_eq_true h7
     conv => arg 1; simp (disch := first | exact Zd | fail) only [ZZ, d50_at, simprocAttr, e_h1, h2', e_h3, h4', e_h5, e_h6, h7']
     refine J.eq ret_seq ?_
     refine J.chk fun h8 => ?_
     conv => arg 1; simp (disch := first | exact Zd | fail) only [ZZ, d50_at, simprocAttr, e_h1, h2', e_h3, h4', e_h5, e_h6, h7']
     refine J.eq go_seq ?_
     refine J.bind fun x8 h9 => ?_
     have e_h9 := H106_0 _ _ h9
     try simp only [NN, NT, LN, simprocAttr, DT] at e_h9
     conv => arg 1; simp (disch := first | exact Zd | fail) only [ZZ, d50_at, simprocAttr, e_h1, h2', e_h3, h4', e_h5, e_h6, h7', e_h9]
     unfold shape_From_W1
     refine J.loop (fun (s : Int × Int) => ([(0, .arr x1.length (lm (ik .i64) x1)), (14, .arr (subN x7.1 (wk .i64 ((x2.length : Int) - (x1.length : Int))).toNat x7.1.length).length (lm (ik .i64) (subN x7.1 (wk .i64 ((x2.length : Int) - (x1.length : Int))).toNat x7.1.length))), (15, .v (.int .i64 s.1)), (65, .own (0, 65, 0) 0 x8.length x8.length), (66, .v (.int .i64 (x8.length : Int))), (67, .v (.int .i64 s.2))], [((0, 65, 0), .sl true true 1 x8.length (lm (ik .i64) x8))])) (fun next s => shape_From_L1 fu x1 x2 x7 x8 (fun x12 x13 => next (x12, x13)) s.1 s.2) (s0 := (0, 0)) ?_ ?_ ?_
     ·first | rfl | (simp only [LN, NN, NT])
     ·first | (simp (disch := first | exact Zd | fail) only [RR, simprocAttr, LN, NN, NT]; done) | (simp (disch := first | exact Zd | fail) only [RR, simprocAttr, LN, fm_app, NN, NT]; done) | rfl
     rintro next k1 hn1 ⟨x12, x13⟩
     let nx1 : Int → Int → Option (Int × Int) := (fun x12 x13 => next (x12, x13))
     show J _ (shape_From_L1 fu x1 x2 x7 x8 nx1 x12 x13) _
     unfold shape_From_L1
     conv => arg 1; simp (disch := first | exact Zd | fail) only [ZZ, d50_at, simprocAttr, e_h1, h2', e_h3, h4', e_h5, e_h6, h7', e_h9]
     refine J.eq go_seq ?_
     conv => arg 1; simp (disch := first | exact Zd | fail) only [ZZ, d50_at, simprocAttr, e_h1, h2', e_h3, h4', e_h5, e_h6, h7', e_h9]
     refine J.ite (fun h10 => ?_) (fun h10 => ?_)
     ·have h10' := decide_eq_true h10
      have h10'' : decide ((x8.length : Int) ≤ x13) = false := decide_eq_false (by omega)
      conv => arg 1; simp (disch := first | exact Zd | fail) only [ZZ, d50_at, simprocAttr, e_h1, h2', e_h3, h4', e_h5, e_h6, h7', e_h9, h10'', h10']
      refine J.eq ret_seq ?_
      refine J.eq go_seq ?_
      refine J.at fun x17 h11 h12 h13 => ?_
      refine J.at fun x18 h14 h15 h16 => ?_
      conv => arg 1; simp (disch := first | exact Zd | fail) only [ZZ, d50_at, simprocAttr, e_h1, h2', e_h3, h4', e_h5, e_h6, h7', e_h9, h10'', h10', lm_ik h13, lm_ik h16]
      refine J.ite (fun h17 => ?_) (fun h17 => ?_)
      ·have h17' := decide_eq_true h17
       conv => arg 1; simp (disch := first | exact Zd | fail) only [ZZ, d50_at, simprocAttr, e_h1, h2', e_h3, h4', e_h5, e_h6, h7', e_h9, h10'', h10', lm_ik h13, lm_ik h16, h17']
       refine J.eq ret_seq ?_
       conv => arg 1; simp (disch := first | exact Zd | fail) only [ZZ, d50_at, simprocAttr, e_h1, h2', e_h3, h4', e_h5, e_h6, h7', e_h9, h10'', h10', lm_ik h13, lm_ik h16, h17']
       refine J.next (s := (x12, wk .i64 (x13 + 1))) hn1 ?_ ?_
       ·first | rfl | (simp only [LN, NN, NT])
       ·first | (simp (disch := first | exact Zd | fail) only [RR, simprocAttr, LN, NN, NT]; done) | (simp (disch := first | exact Zd | fail) only [RR, simprocAttr, LN, fm_app, NN, NT]; done) | rfl
      ·have h17' := decide_eq_false h17
       refine J.at fun x19 h18 h19 h20 => ?_
       conv => arg 1; simp (disch := first | exact Zd | fail) only [ZZ, d50_at, simprocAttr, e_h1, h2', e_h3, h4', e_h5, e_h6, h7', e_h9, h10'', h10', lm_ik h13, lm_ik h16, h17', lm_ik h20]
       refine J.eq ret_seq ?_
       conv => arg 1; simp (disch := first | exact Zd | fail) only [ZZ, d50_at, simprocAttr, e_h1, h2', e_h3, h4', e_h5, e_h6, h7', e_h9, h10'', h10', lm_ik h13, lm_ik h16, h17', lm_ik h20]
       refine J.next (s := (wk .i64 (x12 + (wk .i64 (x19 * x17))), wk .i64 (x13 + 1))) hn1 ?_ ?_
       ·first | rfl | (simp only [LN, NN, NT])
       ·first | (simp (disch := first | exact Zd | fail) only [RR, simprocAttr, LN, NN, NT]; done) | (simp (disch := first | exact Zd | fail) only [RR, simprocAttr, LN, fm_app, NN, NT]; done) | rfl
     ·have h10' := decide_eq_false h10
      have h10'' : decide ((x8.length : Int) ≤ x13) = true := decide_eq_true (by omega)
      conv => arg 1; simp (disch := first | exact Zd | fail) only [ZZ, d50_at, simprocAttr, e_h1, h2', e_h3, h4', e_h5, e_h6, h7', e_h9, h10'', h10']
      refine J.eq ret_seq ?_
      refine J.some ?_
      simp (maxSteps := 20000000) (disch := first | exact Zd | fail) only [ZZ, d50_at, simprocAttr, e_h1, h2', e_h3, h4', e_h5, e_h6, h7', e_h9, h10'', h10', FF, LN, NN, NT]
    ·have h7' := decide_eq_false h7
     refine J.some ?_
     simp (maxSteps := 20000000) (disch := first | exact Zd | fail) only [ZZ, d50_at, simprocAttr, e_h1, h2', e_h3, h4', e_h5, e_h6, h7', FF, LN, NN, NT]
   ·refine J.eq go_seq ?_
    conv => arg 1; simp (disch := first | exact Zd | fail) only [ZZ, d50_at, simprocAttr, e_h1, h2', e_h3, h4', e_h5]
    refine J.ite (fun h21 => ?_) (fun h21 => ?_)
    ·have h21' := decide_eq_true h21
     refine J.bind fun x20 h22 => ?_
     have e_h22 := H104_0 _ _ _ h22
     try simp only [NN, NT, LN, simprocAttr, DT] at e_h22
     conv => arg 1; simp (disch := first | exact Zd | fail) only [ZZ, d50_at, simprocAttr, e_h1, h2', e_h3, h4', e_h5, h21', e_h22]
     refine J.eq ret_seq ?_
     conv => arg 1; simp (disch := first | exact Zd | fail) only [ZZ, d50_at, simprocAttr, e_h1, h2', e_h3, h4', e_h5, h21', e_h22]
     refine J.ite (fun h23 => ?_) (fun h23 => ?_)
     ·have h23' : x20 = true := h23
      conv => arg 1; simp (disch := first | exact Zd | fail) only [ZZ, d50_at, simprocAttr, e_h1, h2', e_h3, h4', e_h5, h21', e_h22, h23']
      refine J.jmp (t := ()) hj1 ?_ ?_
      ·first | rfl | (simp only [LN, NN, NT])
      ·first | (simp (disch := first | exact Zd | fail) only [RR, simprocAttr, LN, NN, NT]; done) | (simp (disch := first | exact Zd | fail) only [RR, simprocAttr, LN, fm_app, NN, NT]; done) | rfl
     ·have h23' : x20 = false := Bool.eq_false_iff.2 h23
      refine J.some ?_
      simp (maxSteps := 20000000) (disch := first | exact Zd | fail) only [ZZ, d50_at, simprocAttr, e_h1, h2', e_h3, h4', e_h5, h21', e_h22, h23', FF, LN, NN, NT]
    ·have h21' := decide_eq_false h21
     conv => arg 1; simp (disch := first | exact Zd | fail) only [ZZ, d50_at, simprocAttr, e_h1, h2', e_h3, h4', e_h5, h21']
     refine J.eq ret_seq ?_
     refine J.some ?_
     simp (maxSteps := 20000000) (disch := first | exact Zd | fail) only [ZZ, d50_at, simprocAttr, e_h1, h2', e_h3, h4', e_h5, h21', FF, LN, NN, NT]
  ·have h4' := decide_eq_false h4
   refine J.some ?_
   simp (maxSteps := 20000000) (disch := first | exact Zd | fail) only [ZZ, d50_at, simprocAttr, e_h1, h2', e_h3, h4', FF, LN, NN, NT]
 ·have h2' := decide_eq_false h2
  refine J.some ?_
  simp (maxSteps := 20000000) (disch := first | exact Zd | fail) only [ZZ, d50_at, simprocAttr, e_h1, h2', FF, LN, NN, NT]
noncomputable def t50 (fu : Nat) : CallP := orE 27 (mkC (fun (t : List Int) => ([.arr t.length (lm (ik .i64) t)] : List AV)) (fun t => shape_Size fu t) e27) (orE 49 (mkC (fun (t : (List Int) × (List Int)) => ([.arr t.1.length (lm (ik .i64) t.1), .arr t.2.length (lm (ik .i64) t.2)] : List AV)) (fun t => shape_Broadcast fu t.1 t.2) e49) (orE 104 (mkC (fun (t : (List Int) × (List Int)) => ([.arr t.1.length (lm (ik .i64) t.1), .arr t.2.length (lm (ik .i64) t.2)] : List AV)) (fun t => slices_Equal_int fu t.1 t.2) e104) (orE 105 (mkC (fun (t : (List Int) × Int) => ([.arr t.1.length (lm (ik .i64) t.1), .v (.int .i64 t.2)] : List AV)) (fun t => shape_Index fu t.1 t.2) e105) (orE 106 (mkC (fun (t : List Int) => ([.arr t.length (lm (ik .i64) t)] : List AV)) (fun t => shape_strides fu t) e106) (noP)))))
theorem t50_ok (fu : Nat) : CpOK Tryz.prog (t50 fu ) := orE_ok (orE_ok (orE_ok (orE_ok (orE_ok (noP_ok) (mkC_ok (fun t b h => ok106 fu t  b h))) (mkC_ok (fun t b h => ok105 fu t.1 t.2  b h))) (mkC_ok (fun t b h => ok104 fu t.1 t.2  b h))) (mkC_ok (fun t b h => ok49 fu t.1 t.2  b h))) (mkC_ok (fun t b h => ok27 fu t  b h))
theorem ok50 (fu : Nat) (x1 : List Int) (x2 : List Int) (x3 : Int) (r) (h : shape_From fu x1 x2 x3 = some r) : PureOK Tryz.prog 50 [.arr x1.length (lm (ik .i64) x1), .arr x2.length (lm (ik .i64) x2), .v (.int .i64 x3)] (e50 r) :=
  pure_J mixed (cp := t50 fu ) (t50_ok fu  ) noI_ok i50 (w50 _ fu x1 x2 x3  (fun a0 r h => orE_hit (mkC_at (a := a0) (by intro a b h; first | (exact rfl) | (simp only [INJ, IJ] at h; first | exact h | (simp_all [Prod.ext_iff]) )) h)) (fun a0 a1 r h => orE_miss (by decide) (orE_hit (mkC_at (a := (a0, a1)) (by intro a b h; first | (exact rfl) | (simp only [INJ, IJ] at h; first | exact h | (simp_all [Prod.ext_iff]) )) h))) (fun a0 a1 r h => orE_miss (by decide) (orE_miss (by decide) (orE_hit (mkC_at (a := (a0, a1)) (by intro a b h; first | (exact rfl) | (simp only [INJ, IJ] at h; first | exact h | (simp_all [Prod.ext_iff]) )) h)))) (fun a0 a1 r h => orE_miss (by decide) (orE_miss (by decide) (orE_miss (by decide) (orE_hit (mkC_at (a := (a0, a1)) (by intro a b h; first | (exact rfl) | (simp only [INJ, IJ] at h; first | exact h | (simp_all [Prod.ext_iff]) )) h))))) (fun a0 r h => orE_miss (by decide) (orE_miss (by decide) (orE_miss (by decide) (orE_miss (by decide) (orE_hit (mkC_at (a := a0) (by intro a b h; first | (exact rfl) | (simp only [INJ, IJ] at h; first | exact h | (simp_all [Prod.ext_iff]) )) h))))))) h
/-! 166: (lattice/mat.line[uint32]).list -/
open Aw (d166)
def d166_at := by have h := tabL Aw.d166.eq_1; simp only [AllAt, Nat.zero_add, Nat.reduceAdd] at h; exact h
theorem i166 : finfo Tryz.prog 166 d166 = some ⟨bodyOf Tryz.f166, [.tmp 2], [22]⟩ := finfo_at Tryz.func166 rfl (by kernel_rfl) (by kernel_rfl)
def e166 : (List Int) → AV := fun r => .fresh 1 r.length (lm (ik .u32) r)
set_option maxHeartbeats 20000000 in
theorem w166 (cp : CallP) (fu : Nat) (x1 : T_mat_line_uint32) : J (go Tryz.prog noC cp noI 0 [] d166 fu (fin Tryz.prog [.tmp 2] [22]) (bodyOf Tryz.f166) (initE 0 [.agg (c_T_mat_line_uint32 x1)]) [] []) (mat_line_uint32_list fu x1) e166 := by
 unfold mat_line_uint32_list e166
 conv => arg 1; simp (disch := first | exact Zd | fail) only [bodyOf, Tryz.f166, ZZ, d166_at, simprocAttr]
 refine J.eq go_seq ?_
 conv => arg 1; simp (disch := first | exact Zd | fail) only [ZZ, d166_at, simprocAttr]
 unfold mat_line_uint32_list_W1
 refine J.loop (fun (s : (List Int) × Int) => ([(1, .ptr (0, 1, 0) 0 0), (3, .own (0, 3, 77) 0 s.1.length s.1.length), (6, .v (.int .i64 x1.fn)), (7, .v (.int .i64 s.2))], [((0, 1, 0), .bx true ([.arr x1.fl.length (lm (ik .u32) x1.fl), .v (.int .i64 x1.ffirst), .v (.int .i64 x1.fstride), .v (.int .i64 x1.fn)])), ((0, 3, 77), .sl true true 1 s.1.length (lm (ik .u32) s.1))])) (fun next s => mat_line_uint32_list_L1 fu x1 (fun x3 x4 => next (x3, x4)) s.1 s.2) (s0 := (([] : List Int), 0)) ?_ ?_ ?_
 ·first | rfl | (simp only [LN, NN, NT])
 ·first | (simp (disch := first | exact Zd | fail) only [RR, simprocAttr, LN, NN, NT]; done) | (simp (disch := first | exact Zd | fail) only [RR, simprocAttr, LN, fm_app, NN, NT]; done) | rfl
 rintro next k1 hn1 ⟨x3, x4⟩
 let nx1 : (List Int) → Int → Option (List Int) := (fun x3 x4 => next (x3, x4))
 show J _ (mat_line_uint32_list_L1 fu x1 nx1 x3 x4) _
 unfold mat_line_uint32_list_L1
 conv => arg 1; simp (disch := first | exact Zd | fail) only [ZZ, d166_at, simprocAttr]
 refine J.eq go_seq ?_
 conv => arg 1; simp (disch := first | exact Zd | fail) only [ZZ, d166_at, simprocAttr]
 refine J.ite (fun h1 => ?_) (fun h1 => ?_)
 ·have h1' := decide_eq_true h1
  have h1'' : decide (x1.fn ≤ x4) = false := decide_eq_false (by omega)
  conv => arg 1; simp (disch := first | exact Zd | fail) only [ZZ, d166_at, simprocAttr, h1'', h1']
  refine J.eq ret_seq ?_
  refine J.eq go_seq ?_
  refine J.at fun x6 h2 h3 h4 => ?_
  refine J.chk fun h5 => ?_
  conv => arg 1; simp (disch := first | exact Zd | fail) only [ZZ, d166_at, simprocAttr, h1'', h1', lm_ik h4]
  refine J.eq ret_seq ?_
  conv => arg 1; simp (disch := first | exact Zd | fail) only [ZZ, d166_at, simprocAttr, h1'', h1', lm_ik h4]
  refine J.next (s := (x3 ++ ([x6]), wk .i64 (x4 + 1))) hn1 ?_ ?_
  ·first | rfl | (simp only [LN, NN, NT])
  ·first | (simp (disch := first | exact Zd | fail) only [RR, simprocAttr, LN, NN, NT]; done) | (simp (disch := first | exact Zd | fail) only [RR, simprocAttr, LN, fm_app, NN, NT]; done) | rfl
 ·have h1' := decide_eq_false h1
  have h1'' : decide (x1.fn ≤ x4) = true := decide_eq_true (by omega)
  conv => arg 1; simp (disch := first | exact Zd | fail) only [ZZ, d166_at, simprocAttr, h1'', h1']
  refine J.eq ret_seq ?_
  refine J.some ?_
  simp (maxSteps := 20000000) (disch := first | exact Zd | fail) only [ZZ, d166_at, simprocAttr, h1'', h1', FF, LN, NN, NT]
noncomputable def t166 (fu : Nat) : CallP := noP
theorem t166_ok (fu : Nat) : CpOK Tryz.prog (t166 fu ) := noP_ok
theorem ok166 (fu : Nat) (x1 : T_mat_line_uint32) (r) (h : mat_line_uint32_list fu x1 = some r) : PureOK Tryz.prog 166 [.agg (c_T_mat_line_uint32 x1)] (e166 r) :=
  pure_J mixed (cp := t166 fu ) (t166_ok fu  ) noI_ok i166 (w166 _ fu x1  ) h
/-! 107: (lattice/mat.grid).down -/
open Aw (d107)
def d107_at := by have h := tabL Aw.d107.eq_1; simp only [AllAt, Nat.zero_add, Nat.reduceAdd] at h; exact h
theorem i107 : finfo Tryz.prog 107 d107 = some ⟨bodyOf Tryz.f107, [.tmp 4], [22]⟩ := finfo_at Tryz.func107 rfl (by kernel_rfl) (by kernel_rfl)
def e107 : (List Int) → AV := fun r => .fresh 1 r.length (lm (ik .u32) r)
set_option maxHeartbeats 20000000 in
theorem w107 (cp : CallP) (fu : Nat) (x1 : T_mat_grid) (x2 : Int) (H166_0 : ∀ (a0 : T_mat_line_uint32) r, mat_line_uint32_list fu a0 = some r → cp 166 [.agg (c_T_mat_line_uint32 a0)] = some (.fresh 1 r.length (lm (ik .u32) r))) : J (go Tryz.prog noC cp noI 0 [] d107 fu (fin Tryz.prog [.tmp 4] [22]) (bodyOf Tryz.f107) (initE 0 [.agg (c_T_mat_grid x1), .v (.int .i64 x2)]) [] []) (mat_grid_down fu x1 x2) e107 := by
 unfold mat_grid_down e107
 refine J.bind fun x3 h1 => ?_
 have e_h1 := H166_0 _ _ h1
 try simp only [NN, NT, LN, simprocAttr, DT] at e_h1
 refine J.some ?_
 simp (maxSteps := 20000000) (disch := first | exact Zd | fail) only [bodyOf, Tryz.f107, ZZ, d107_at, simprocAttr, e_h1, FF, LN, NN, NT]
noncomputable def t107 (fu : Nat) : CallP := orE 166 (mkC (fun (t : T_mat_line_uint32) => ([.agg (c_T_mat_line_uint32 t)] : List AV)) (fun t => mat_line_uint32_list fu t) e166) (noP)
theorem t107_ok (fu : Nat) : CpOK Tryz.prog (t107 fu ) := orE_ok (noP_ok) (mkC_ok (fun t b h => ok166 fu t  b h))
theorem ok107 (fu : Nat) (x1 : T_mat_grid) (x2 : Int) (r) (h : mat_grid_down fu x1 x2 = some r) : PureOK Tryz.prog 107 [.agg (c_T_mat_grid x1), .v (.int .i64 x2)] (e107 r) :=
  pure_J mixed (cp := t107 fu ) (t107_ok fu  ) noI_ok i107 (w107 _ fu x1 x2  (fun a0 r h => orE_hit (mkC_at (a := a0) (by intro a b h; first | (exact rfl) | (simp only [INJ, IJ] at h; first | exact h | (simp_all [Prod.ext_iff]) )) h))) h
/-! 108: (lattice/mat.grid).across -/
open Aw (d108)
def d108_at := by have h := tabL Aw.d108.eq_1; simp only [AllAt, Nat.zero_add, Nat.reduceAdd] at h; exact h
theorem i108 : finfo Tryz.prog 108 d108 = some ⟨bodyOf Tryz.f108, [.tmp 4], [22]⟩ := finfo_at Tryz.func108 rfl (by kernel_rfl) (by kernel_rfl)
def e108 : (List Int) → AV := fun r => .fresh 1 r.length (lm (ik .u32) r)
set_option maxHeartbeats 20000000 in
theorem w108 (cp : CallP) (fu : Nat) (x1 : T_mat_grid) (x2 : Int) (H166_0 : ∀ (a0 : T_mat_line_uint32) r, mat_line_uint32_list fu a0 = some r → cp 166 [.agg (c_T_mat_line_uint32 a0)] = some (.fresh 1 r.length (lm (ik .u32) r))) : J (go Tryz.prog noC cp noI 0 [] d108 fu (fin Tryz.prog [.tmp 4] [22]) (bodyOf Tryz.f108) (initE 0 [.agg (c_T_mat_grid x1), .v (.int .i64 x2)]) [] []) (mat_grid_across fu x1 x2) e108 := by
 unfold mat_grid_across e108
 refine J.bind fun x3 h1 => ?_
 have e_h1 := H166_0 _ _ h1
 try simp only [NN, NT, LN, simprocAttr, DT] at e_h1
 refine J.some ?_
 simp (maxSteps := 20000000) (disch := first | exact Zd | fail) only [bodyOf, Tryz.f108, ZZ, d108_at, simprocAttr, e_h1, FF, LN, NN, NT]
noncomputable def t108 (fu : Nat) : CallP := orE 166 (mkC (fun (t : T_mat_line_uint32) => ([.agg (c_T_mat_line_uint32 t)] : List AV)) (fun t => mat_line_uint32_list fu t) e166) (noP)
theorem t108_ok (fu : Nat) : CpOK Tryz.prog (t108 fu ) := orE_ok (noP_ok) (mkC_ok (fun t b h => ok166 fu t  b h))
theorem ok108 (fu : Nat) (x1 : T_mat_grid) (x2 : Int) (r) (h : mat_grid_across fu x1 x2 = some r) : PureOK Tryz.prog 108 [.agg (c_T_mat_grid x1), .v (.int .i64 x2)] (e108 r) :=
  pure_J mixed (cp := t108 fu ) (t108_ok fu  ) noI_ok i108 (w108 _ fu x1 x2  (fun a0 r h => orE_hit (mkC_at (a := a0) (by intro a b h; first | (exact rfl) | (simp only [INJ, IJ] at h; first | exact h | (simp_all [Prod.ext_iff]) )) h))) h
/-! 63: lattice/soft.open -/
open Aw (d63)
def d63_at := by have h := tabL Aw.d63.eq_1; simp only [AllAt, Nat.zero_add, Nat.reduceAdd] at h; exact h
theorem i63 : finfo Tryz.prog 63 d63 = some ⟨bodyOf Tryz.f63, [.cell 2 91], [91]⟩ := finfo_at Tryz.func63 rfl (by kernel_rfl) (by kernel_rfl)
def e63 : T_soft_number → AV := fun r => .agg [.v (.bool r.fneg), .v (.bool r.fnan), .v (.bool r.finf), .v (.int .i64 r.fexp), .v (.int .u64 r.fsig)]
set_option maxHeartbeats 20000000 in
theorem w63 (cp : CallP) (fu : Nat) (x1 : Int) : J (go Tryz.prog noC cp noI 0 [] d63 fu (fin Tryz.prog [.cell 2 91] [91]) (bodyOf Tryz.f63) (initE 0 [.v (.int .u32 x1)]) [] []) (soft_open fu x1) e63 := by
 unfold soft_open e63
 conv => arg 1; simp (disch := first | exact Zd | fail) only [bodyOf, Tryz.f63, ZZ, d63_at, simprocAttr]
 refine J.eq go_seq ?_
 conv => arg 1; simp (disch := first | exact Zd | fail) only [ZZ, d63_at, simprocAttr]
 refine J.ite (fun h1 => ?_) (fun h1 => ?_)
 ·have h1' := decide_eq_true h1
  conv => arg 1; simp (disch := first | exact Zd | fail) only [ZZ, d63_at, simprocAttr, h1']
  refine J.eq ret_seq ?_
  refine J.some ?_
  simp (maxSteps := 20000000) (disch := first | exact Zd | fail) only [ZZ, d63_at, simprocAttr, h1', FF, LN, NN, NT]
 ·have h1' := decide_eq_false h1
  conv => arg 1; simp (disch := first | exact Zd | fail) only [ZZ, d63_at, simprocAttr, h1']
  refine J.ite (fun h2 => ?_) (fun h2 => ?_)
  ·have h2' := decide_eq_true h2
   conv => arg 1; simp (disch := first | exact Zd | fail) only [ZZ, d63_at, simprocAttr, h1', h2']
   refine J.eq ret_seq ?_
   refine J.some ?_
   simp (maxSteps := 20000000) (disch := first | exact Zd | fail) only [ZZ, d63_at, simprocAttr, h1', h2', FF, LN, NN, NT]
  ·have h2' := decide_eq_false h2
   conv => arg 1; simp (disch := first | exact Zd | fail) only [ZZ, d63_at, simprocAttr, h1', h2']
   refine J.eq ret_seq ?_
   refine J.some ?_
   simp (maxSteps := 20000000) (disch := first | exact Zd | fail) only [ZZ, d63_at, simprocAttr, h1', h2', FF, LN, NN, NT]
noncomputable def t63 (fu : Nat) : CallP := noP
theorem t63_ok (fu : Nat) : CpOK Tryz.prog (t63 fu ) := noP_ok
theorem ok63 (fu : Nat) (x1 : Int) (r) (h : soft_open fu x1 = some r) : PureOK Tryz.prog 63 [.v (.int .u32 x1)] (e63 r) :=
  pure_J mixed (cp := t63 fu ) (t63_ok fu  ) noI_ok i63 (w63 _ fu x1  ) h
/-! 66: lattice/soft.sign -/
open Aw (d66)
def d66_at := by have h := tabL Aw.d66.eq_1; simp only [AllAt, Nat.zero_add, Nat.reduceAdd] at h; exact h
theorem i66 : finfo Tryz.prog 66 d66 = some ⟨bodyOf Tryz.f66, [.tmp 2], [24]⟩ := finfo_at Tryz.func66 rfl (by kernel_rfl) (by kernel_rfl)
def e66 : Int → AV := fun r => .v (.int .u32 r)
set_option maxHeartbeats 20000000 in
theorem w66 (cp : CallP) (fu : Nat) (x1 : Bool) : J (go Tryz.prog noC cp noI 0 [] d66 fu (fin Tryz.prog [.tmp 2] [24]) (bodyOf Tryz.f66) (initE 0 [.v (.bool x1)]) [] []) (soft_sign fu x1) e66 := by
 unfold soft_sign e66
 conv => arg 1; simp (disch := first | exact Zd | fail) only [bodyOf, Tryz.f66, ZZ, d66_at, simprocAttr]
 refine J.eq go_seq ?_
 conv => arg 1; simp (disch := first | exact Zd | fail) only [ZZ, d66_at, simprocAttr]
 refine J.ite (fun h1 => ?_) (fun h1 => ?_)
 ·have h1' : x1 = true := h1
  refine J.some ?_
  simp (maxSteps := 20000000) (disch := first | exact Zd | fail) only [ZZ, d66_at, simprocAttr, h1', FF, LN, NN, NT]
 ·have h1' : x1 = false := Bool.eq_false_iff.2 h1
  conv => arg 1; simp (disch := first | exact Zd | fail) only [ZZ, d66_at, simprocAttr, h1']
  refine J.eq ret_seq ?_
  refine J.some ?_
  simp (maxSteps := 20000000) (disch := first | exact Zd | fail) only [ZZ, d66_at, simprocAttr, h1', FF, LN, NN, NT]
noncomputable def t66 (fu : Nat) : CallP := noP
theorem t66_ok (fu : Nat) : CpOK Tryz.prog (t66 fu ) := noP_ok
theorem ok66 (fu : Nat) (x1 : Bool) (r) (h : soft_sign fu x1 = some r) : PureOK Tryz.prog 66 [.v (.bool x1)] (e66 r) :=
  pure_J mixed (cp := t66 fu ) (t66_ok fu  ) noI_ok i66 (w66 _ fu x1  ) h
/-! 127: math/bits.Len64 -/
open Aw (d127)
def d127_at := by have h := tabL Aw.d127.eq_1; simp only [AllAt, Nat.zero_add, Nat.reduceAdd] at h; exact h
theorem i127 : finfo Tryz.prog 127 d127 = some ⟨bodyOf Tryz.f127, [.tmp 2], [3]⟩ := finfo_at Tryz.func127 rfl (by kernel_rfl) (by kernel_rfl)
def e127 : Int → AV := fun r => .v (.int .i64 r)
set_option maxHeartbeats 20000000 in
theorem w127 (cp : CallP) (fu : Nat) (x1 : Int) : J (go Tryz.prog noC cp noI 0 [] d127 fu (fin Tryz.prog [.tmp 2] [3]) (bodyOf Tryz.f127) (initE 0 [.v (.int .u64 x1)]) [] []) (math_bits_Len64 fu x1) e127 := by
 unfold math_bits_Len64 e127
 conv => arg 1; simp (disch := first | exact Zd | fail) only [bodyOf, Tryz.f127, ZZ, d127_at, simprocAttr]
 refine J.joinS (fun (t : Int × Int) => ([(0, .v (.int .u64 t.1)), (2, .v (.int .i64 t.2))], [])) (fun t => math_bits_Len64_k1 fu t.1 t.2) ?_ (fun hj1 => ?_)
 ·rintro ⟨x2, x3⟩
  show J _ (math_bits_Len64_k1 fu x2 x3) _
  unfold math_bits_Len64_k1
  refine J.joinS (fun (t : Int × Int) => ([(0, .v (.int .u64 t.1)), (2, .v (.int .i64 t.2))], [])) (fun t => math_bits_Len64_k2 fu t.1 t.2) ?_ (fun hj2 => ?_)
  ·rintro ⟨x4, x5⟩
   show J _ (math_bits_Len64_k2 fu x4 x5) _
   unfold math_bits_Len64_k2
   refine J.eq go_seq ?_
   conv => arg 1; simp (disch := first | exact Zd | fail) only [ZZ, d127_at, simprocAttr]
   refine J.ite (fun h1 => ?_) (fun h1 => ?_)
   ·have h1' := decide_eq_true h1
    have h1'' : decide (x4 < 256) = false := decide_eq_false (by omega)
    conv => arg 1; simp (disch := first | exact Zd | fail) only [ZZ, d127_at, simprocAttr, h1'', h1']
    refine J.eq ret_seq ?_
    refine J.sat fun x6 h2 => ?_
    refine J.some ?_
    simp (maxSteps := 20000000) (disch := first | exact Zd | fail) only [ZZ, d127_at, simprocAttr, h1'', h1', h2, FF, LN, NN, NT]
   ·have h1' := decide_eq_false h1
    have h1'' : decide (x4 < 256) = true := decide_eq_true (by omega)
    conv => arg 1; simp (disch := first | exact Zd | fail) only [ZZ, d127_at, simprocAttr, h1'', h1']
    refine J.eq ret_seq ?_
    refine J.sat fun x7 h3 => ?_
    refine J.some ?_
    simp (maxSteps := 20000000) (disch := first | exact Zd | fail) only [ZZ, d127_at, simprocAttr, h1'', h1', h3, FF, LN, NN, NT]
  ·conv => arg 1; simp (disch := first | exact Zd | fail) only [ZZ, d127_at, simprocAttr]
   refine J.ite (fun h4 => ?_) (fun h4 => ?_)
   ·have h4' := decide_eq_true h4
    have h4'' : decide (x2 < 65536) = false := decide_eq_false (by omega)
    conv => arg 1; simp (disch := first | exact Zd | fail) only [ZZ, d127_at, simprocAttr, h4'', h4']
    refine J.jmp (t := (shrk .u64 x2 16, wk .i64 (x3 + 16))) hj2 ?_ ?_
    ·first | rfl | (simp only [LN, NN, NT])
    ·first | (simp (disch := first | exact Zd | fail) only [RR, simprocAttr, LN, NN, NT]; done) | (simp (disch := first | exact Zd | fail) only [RR, simprocAttr, LN, fm_app, NN, NT]; done) | rfl
   ·have h4' := decide_eq_false h4
    have h4'' : decide (x2 < 65536) = true := decide_eq_true (by omega)
    conv => arg 1; simp (disch := first | exact Zd | fail) only [ZZ, d127_at, simprocAttr, h4'', h4']
    refine J.jmp (t := (x2, x3)) hj2 ?_ ?_
    ·first | rfl | (simp only [LN, NN, NT])
    ·first | (simp (disch := first | exact Zd | fail) only [RR, simprocAttr, LN, NN, NT]; done) | (simp (disch := first | exact Zd | fail) only [RR, simprocAttr, LN, fm_app, NN, NT]; done) | rfl
 ·conv => arg 1; simp (disch := first | exact Zd | fail) only [ZZ, d127_at, simprocAttr]
  refine J.ite (fun h5 => ?_) (fun h5 => ?_)
  ·have h5' := decide_eq_true h5
   have h5'' : decide (x1 < 4294967296) = false := decide_eq_false (by omega)
   conv => arg 1; simp (disch := first | exact Zd | fail) only [ZZ, d127_at, simprocAttr, h5'', h5']
   refine J.jmp (t := (shrk .u64 x1 32, 32)) hj1 ?_ ?_
   ·first | rfl | (simp only [LN, NN, NT])
   ·first | (simp (disch := first | exact Zd | fail) only [RR, simprocAttr, LN, NN, NT]; done) | (simp (disch := first | exact Zd | fail) only [RR, simprocAttr, LN, fm_app, NN, NT]; done) | rfl
  ·have h5' := decide_eq_false h5
   have h5'' : decide (x1 < 4294967296) = true := decide_eq_true (by omega)
   conv => arg 1; simp (disch := first | exact Zd | fail) only [ZZ, d127_at, simprocAttr, h5'', h5']
   refine J.jmp (t := (x1, 0)) hj1 ?_ ?_
   ·first | rfl | (simp only [LN, NN, NT])
   ·first | (simp (disch := first | exact Zd | fail) only [RR, simprocAttr, LN, NN, NT]; done) | (simp (disch := first | exact Zd | fail) only [RR, simprocAttr, LN, fm_app, NN, NT]; done) | rfl
noncomputable def t127 (fu : Nat) : CallP := noP
theorem t127_ok (fu : Nat) : CpOK Tryz.prog (t127 fu ) := noP_ok
theorem ok127 (fu : Nat) (x1 : Int) (r) (h : math_bits_Len64 fu x1 = some r) : PureOK Tryz.prog 127 [.v (.int .u64 x1)] (e127 r) :=
  pure_J mixed (cp := t127 fu ) (t127_ok fu  ) noI_ok i127 (w127 _ fu x1  ) h
/-! 130: lattice/soft.outwards -/
def d130 : List (Nat × List Nat) := [(0, [4]), (0, []), (0, [0, 1, 5, 6, 7, 8, 9, 10, 11, 12, 13, 14, 15, 16, 17])]
def d130_at := by have h := tabL d130.eq_1; simp only [AllAt, Nat.zero_add, Nat.reduceAdd] at h; exact h
theorem i130 : finfo Tryz.prog 130 d130 = some ⟨bodyOf Tryz.f130, [.tmp 4], [4]⟩ := finfo_at Tryz.func130 rfl (by kernel_rfl) (by kernel_rfl)
def e130 : Bool → AV := fun r => .v (.bool r)
set_option maxHeartbeats 20000000 in
theorem w130 (cp : CallP) (fu : Nat) (x1 : Int) (x2 : Bool) : J (go Tryz.prog noC cp noI 0 [] d130 fu (fin Tryz.prog [.tmp 4] [4]) (bodyOf Tryz.f130) (initE 0 [.v (.int .i64 x1), .v (.bool x2)]) [] []) (soft_outwards fu x1 x2) e130 := by
 unfold soft_outwards e130
 refine J.chk fun h1 => ?_
 conv => arg 1; simp (disch := first | exact Zd | fail) only [bodyOf, Tryz.f130, ZZ, d130_at, simprocAttr, h1]
 refine J.eq go_seq ?_
 conv => arg 1; simp (disch := first | exact Zd | fail) only [ZZ, d130_at, simprocAttr, h1]
 refine J.eq ret_seq ?_
 refine J.some ?_
 simp (maxSteps := 20000000) (disch := first | exact Zd | fail) only [ZZ, d130_at, simprocAttr, h1, FF, LN, NN, NT]
noncomputable def t130 (fu : Nat) : CallP := noP
theorem t130_ok (fu : Nat) : CpOK Tryz.prog (t130 fu ) := noP_ok
theorem ok130 (fu : Nat) (x1 : Int) (x2 : Bool) (r) (h : soft_outwards fu x1 x2 = some r) : PureOK Tryz.prog 130 [.v (.int .i64 x1), .v (.bool x2)] (e130 r) :=
  pure_J mixed (cp := t130 fu ) (t130_ok fu  ) noI_ok i130 (w130 _ fu x1 x2  ) h
/-! 128: lattice/soft.tiny -/
def d128 : List (Nat × List Nat) := [(0, [4]), (0, []), (0, [0, 5, 6]), (0, []), (0, [8, 9, 10]), (0, []), (0, [1, 11, 12])]
def d128_at := by have h := tabL d128.eq_1; simp only [AllAt, Nat.zero_add, Nat.reduceAdd] at h; exact h
theorem i128 : finfo Tryz.prog 128 d128 = some ⟨bodyOf Tryz.f128, [.tmp 4], [24]⟩ := finfo_at Tryz.func128 rfl (by kernel_rfl) (by kernel_rfl)
def e128 : Int → AV := fun r => .v (.int .u32 r)
set_option maxHeartbeats 20000000 in
theorem w128 (cp : CallP) (fu : Nat) (x1 : Int) (x2 : Bool) (H130_0 : ∀ (a0 : Int) (a1 : Bool) r, soft_outwards fu a0 a1 = some r → cp 130 [.v (.int .i64 a0), .v (.bool a1)] = some (.v (.bool r))) (H66_0 : ∀ (a0 : Bool) r, soft_sign fu a0 = some r → cp 66 [.v (.bool a0)] = some (.v (.int .u32 r))) : J (go Tryz.prog noC cp noI 0 [] d128 fu (fin Tryz.prog [.tmp 4] [24]) (bodyOf Tryz.f128) (initE 0 [.v (.int .i64 x1), .v (.bool x2)]) [] []) (soft_tiny fu x1 x2) e128 := by
 unfold soft_tiny e128
 refine J.chk fun h1 => ?_
 conv => arg 1; simp (disch := first | exact Zd | fail) only [bodyOf, Tryz.f128, ZZ, d128_at, simprocAttr, h1]
 refine J.eq go_seq ?_
 refine J.bind fun x3 h2 => ?_
 have e_h2 := H130_0 _ _ _ h2
 try simp only [NN, NT, LN, simprocAttr, DT] at e_h2
 conv => arg 1; simp (disch := first | exact Zd | fail) only [ZZ, d128_at, simprocAttr, h1, e_h2]
 refine J.ite (fun h3 => ?_) (fun h3 => ?_)
 ·have h3' : x3 = true := h3
  refine J.bind fun x4 h4 => ?_
  have e_h4 := H66_0 _ _ h4
  try simp only [NN, NT, LN, simprocAttr, DT] at e_h4
  refine J.some ?_
  simp (maxSteps := 20000000) (disch := first | exact Zd | fail) only [ZZ, d128_at, simprocAttr, h1, e_h2, h3', e_h4, FF, LN, NN, NT]
 ·have h3' : x3 = false := Bool.eq_false_iff.2 h3
  conv => arg 1; simp (disch := first | exact Zd | fail) only [ZZ, d128_at, simprocAttr, h1, e_h2, h3']
  refine J.eq ret_seq ?_
  refine J.bind fun x5 h5 => ?_
  have e_h5 := H66_0 _ _ h5
  try simp only [NN, NT, LN, simprocAttr, DT] at e_h5
  refine J.some ?_
  simp (maxSteps := 20000000) (disch := first | exact Zd | fail) only [ZZ, d128_at, simprocAttr, h1, e_h2, h3', e_h5, FF, LN, NN, NT]
noncomputable def t128 (fu : Nat) : CallP := orE 130 (mkC (fun (t : Int × Bool) => ([.v (.int .i64 t.1), .v (.bool t.2)] : List AV)) (fun t => soft_outwards fu t.1 t.2) e130) (orE 66 (mkC (fun (t : Bool) => ([.v (.bool t)] : List AV)) (fun t => soft_sign fu t) e66) (noP))
theorem t128_ok (fu : Nat) : CpOK Tryz.prog (t128 fu ) := orE_ok (orE_ok (noP_ok) (mkC_ok (fun t b h => ok66 fu t  b h))) (mkC_ok (fun t b h => ok130 fu t.1 t.2  b h))
theorem ok128 (fu : Nat) (x1 : Int) (x2 : Bool) (r) (h : soft_tiny fu x1 x2 = some r) : PureOK Tryz.prog 128 [.v (.int .i64 x1), .v (.bool x2)] (e128 r) :=
  pure_J mixed (cp := t128 fu ) (t128_ok fu  ) noI_ok i128 (w128 _ fu x1 x2  (fun a0 a1 r h => orE_hit (mkC_at (a := (a0, a1)) (by intro a b h; first | (exact rfl) | (simp only [INJ, IJ] at h; first | exact h | (simp_all [Prod.ext_iff]) )) h)) (fun a0 r h => orE_miss (by decide) (orE_hit (mkC_at (a := a0) (by intro a b h; first | (exact rfl) | (simp only [INJ, IJ] at h; first | exact h | (simp_all [Prod.ext_iff]) )) h)))) h
/-! 129: lattice/soft.huge -/
def d129 : List (Nat × List Nat) := [(0, [4]), (0, []), (0, [0, 5, 6, 7, 8, 9, 10, 11, 12, 13, 14, 15]), (0, []), (0, [17, 18, 19]), (0, []), (0, [1, 20, 21, 22])]
def d129_at := by have h := tabL d129.eq_1; simp only [AllAt, Nat.zero_add, Nat.reduceAdd] at h; exact h
theorem i129 : finfo Tryz.prog 129 d129 = some ⟨bodyOf Tryz.f129, [.tmp 4], [24]⟩ := finfo_at Tryz.func129 rfl (by kernel_rfl) (by kernel_rfl)
def e129 : Int → AV := fun r => .v (.int .u32 r)
set_option maxHeartbeats 20000000 in
theorem w129 (cp : CallP) (fu : Nat) (x1 : Int) (x2 : Bool) (H66_0 : ∀ (a0 : Bool) r, soft_sign fu a0 = some r → cp 66 [.v (.bool a0)] = some (.v (.int .u32 r))) : J (go Tryz.prog noC cp noI 0 [] d129 fu (fin Tryz.prog [.tmp 4] [24]) (bodyOf Tryz.f129) (initE 0 [.v (.int .i64 x1), .v (.bool x2)]) [] []) (soft_huge fu x1 x2) e129 := by
 unfold soft_huge e129
 refine J.chk fun h1 => ?_
 conv => arg 1; simp (disch := first | exact Zd | fail) only [bodyOf, Tryz.f129, ZZ, d129_at, simprocAttr, h1]
 refine J.joinS (fun (t : Unit) => ([(1, .v (.bool x2))], [])) (fun t => soft_huge_k1 fu x2) ?_ (fun hj1 => ?_)
 ·rintro ⟨⟩
  show J _ (soft_huge_k1 fu x2) _
  unfold soft_huge_k1
  refine J.bind fun x3 h2 => ?_
  have e_h2 := H66_0 _ _ h2
  try simp only [NN, NT, LN, simprocAttr, DT] at e_h2
  refine J.some ?_
  simp (maxSteps := 20000000) (disch := first | exact Zd | fail) only [ZZ, d129_at, simprocAttr, h1, e_h2, FF, LN, NN, NT]
 ·refine J.eq go_seq ?_
  conv => arg 1; simp (disch := first | exact Zd | fail) only [ZZ, d129_at, simprocAttr, h1]
  refine J.eq ret_seq ?_
  conv => arg 1; simp (disch := first | exact Zd | fail) only [ZZ, d129_at, simprocAttr, h1]
  refine J.jmp (t := ()) hj1 ?_ ?_
  ·first | rfl | (simp only [LN, NN, NT])
  ·first | (simp (disch := first | exact Zd | fail) only [RR, simprocAttr, LN, NN, NT]; done) | (simp (disch := first | exact Zd | fail) only [RR, simprocAttr, LN, fm_app, NN, NT]; done) | rfl
noncomputable def t129 (fu : Nat) : CallP := orE 66 (mkC (fun (t : Bool) => ([.v (.bool t)] : List AV)) (fun t => soft_sign fu t) e66) (noP)
theorem t129_ok (fu : Nat) : CpOK Tryz.prog (t129 fu ) := orE_ok (noP_ok) (mkC_ok (fun t b h => ok66 fu t  b h))
theorem ok129 (fu : Nat) (x1 : Int) (x2 : Bool) (r) (h : soft_huge fu x1 x2 = some r) : PureOK Tryz.prog 129 [.v (.int .i64 x1), .v (.bool x2)] (e129 r) :=
  pure_J mixed (cp := t129 fu ) (t129_ok fu  ) noI_ok i129 (w129 _ fu x1 x2  (fun a0 r h => orE_hit (mkC_at (a := a0) (by intro a b h; first | (exact rfl) | (simp only [INJ, IJ] at h; first | exact h | (simp_all [Prod.ext_iff]) )) h))) h
/-! 65: lattice/soft.Round -/
open Aw (d65)
def d65_at := by have h := tabL Aw.d65.eq_1; simp only [AllAt, Nat.zero_add, Nat.reduceAdd] at h; exact h
theorem i65 : finfo Tryz.prog 65 d65 = some ⟨bodyOf Tryz.f65, [.tmp 10], [24]⟩ := finfo_at Tryz.func65 rfl (by kernel_rfl) (by kernel_rfl)
def e65 : Int → AV := fun r => .v (.int .u32 r)
set_option maxHeartbeats 20000000 in
theorem w65 (cp : CallP) (fu : Nat) (x1 : Int) (x2 : Bool) (x3 : Int) (x4 : Int) (x5 : Bool) (H127_0 : ∀ (a0 : Int) r, math_bits_Len64 fu a0 = some r → cp 127 [.v (.int .u64 a0)] = some (.v (.int .i64 r))) (H128_0 : ∀ (a0 : Int) (a1 : Bool) r, soft_tiny fu a0 a1 = some r → cp 128 [.v (.int .i64 a0), .v (.bool a1)] = some (.v (.int .u32 r))) (H66_0 : ∀ (a0 : Bool) r, soft_sign fu a0 = some r → cp 66 [.v (.bool a0)] = some (.v (.int .u32 r))) (H129_0 : ∀ (a0 : Int) (a1 : Bool) r, soft_huge fu a0 a1 = some r → cp 129 [.v (.int .i64 a0), .v (.bool a1)] = some (.v (.int .u32 r))) : J (go Tryz.prog noC cp noI 0 [] d65 fu (fin Tryz.prog [.tmp 10] [24]) (bodyOf Tryz.f65) (initE 0 [.v (.int .i64 x1), .v (.bool x2), .v (.int .i64 x3), .v (.int .u64 x4), .v (.bool x5)]) [] []) (soft_Round fu x1 x2 x3 x4 x5) e65 := by
 unfold soft_Round e65
 refine J.chk fun h1 => ?_
 refine J.bind fun x6 h2 => ?_
 have e_h2 := H127_0 _ _ h2
 try simp only [NN, NT, LN, simprocAttr, DT] at e_h2
 conv => arg 1; simp (disch := first | exact Zd | fail) only [bodyOf, Tryz.f65, ZZ, d65_at, simprocAttr, h1, e_h2]
 refine J.joinS (fun (t : Unit) => ([(0, .v (.int .i64 0)), (1, .v (.bool x2)), (2, .v (.int .i64 x3)), (3, .v (.int .u64 x4)), (4, .v (.bool x5)), (11, .v (.int .i64 x6))], [])) (fun t => soft_Round_k1 fu x2 x3 x4 x5 x6) ?_ (fun hj1 => ?_)
 ·rintro ⟨⟩
  show J _ (soft_Round_k1 fu x2 x3 x4 x5 x6) _
  unfold soft_Round_k1
  conv => arg 1; simp (disch := first | exact Zd | fail) only [ZZ, d65_at, simprocAttr, h1, e_h2]
  refine J.joinS (fun (t : Int × Bool × Bool × Bool) => ([(0, .v (.int .i64 0)), (1, .v (.bool x2)), (2, .v (.int .i64 x3)), (12, .v (.int .i64 (imax (wk .i64 (x6 - 24)) (wk .i64 ((-149) - x3))))), (13, .v (.int .u64 t.1)), (14, .v (.bool t.2.1)), (15, .v (.bool t.2.2.1)), (16, .v (.bool t.2.2.2))], [])) (fun t => soft_Round_k2 fu x2 x3 x6 t.1 t.2.1 t.2.2.1 t.2.2.2) ?_ (fun hj2 => ?_)
  ·rintro ⟨x7, x8, x9, x10⟩
   show J _ (soft_Round_k2 fu x2 x3 x6 x7 x8 x9 x10) _
   unfold soft_Round_k2
   refine J.joinS (fun (t : Int) => ([(0, .v (.int .i64 0)), (1, .v (.bool x2)), (2, .v (.int .i64 x3)), (12, .v (.int .i64 (imax (wk .i64 (x6 - 24)) (wk .i64 ((-149) - x3))))), (13, .v (.int .u64 t))], [])) (fun t => soft_Round_k3 fu x2 x3 x6 t) ?_ (fun hj3 => ?_)
   ·rintro x11
    show J _ (soft_Round_k3 fu x2 x3 x6 x11) _
    unfold soft_Round_k3
    conv => arg 1; simp (disch := first | exact Zd | fail) only [ZZ, d65_at, simprocAttr, h1, e_h2]
    refine J.eq go_seq ?_
    conv => arg 1; simp (disch := first | exact Zd | fail) only [ZZ, d65_at, simprocAttr, h1, e_h2]
    refine J.ite (fun h3 => ?_) (fun h3 => ?_)
    ·have h3' := decide_eq_true h3
     refine J.bind fun x12 h4 => ?_
     have e_h4 := H66_0 _ _ h4
     try simp only [NN, NT, LN, simprocAttr, DT] at e_h4
     refine J.some ?_
     simp (maxSteps := 20000000) (disch := first | exact Zd | fail) only [ZZ, d65_at, simprocAttr, h1, e_h2, h3', e_h4, FF, LN, NN, NT]
    ·have h3' := decide_eq_false h3
     conv => arg 1; simp (disch := first | exact Zd | fail) only [ZZ, d65_at, simprocAttr, h1, e_h2, h3']
     refine J.eq ret_seq ?_
     refine J.eq go_seq ?_
     conv => arg 1; simp (disch := first | exact Zd | fail) only [ZZ, d65_at, simprocAttr, h1, e_h2, h3']
     refine J.ite (fun h5 => ?_) (fun h5 => ?_)
     ·have h5' := decide_eq_true h5
      have h5'' : decide ((wk .i64 (x3 + (imax (wk .i64 (x6 - 24)) (wk .i64 ((-149) - x3))))) ≤ 104) = false := decide_eq_false (by omega)
      refine J.bind fun x13 h6 => ?_
      have e_h6 := H129_0 _ _ _ h6
      try simp only [NN, NT, LN, simprocAttr, DT] at e_h6
      refine J.some ?_
      simp (maxSteps := 20000000) (disch := first | exact Zd | fail) only [ZZ, d65_at, simprocAttr, h1, e_h2, h3', h5'', h5', e_h6, FF, LN, NN, NT]
     ·have h5' := decide_eq_false h5
      have h5'' : decide ((wk .i64 (x3 + (imax (wk .i64 (x6 - 24)) (wk .i64 ((-149) - x3))))) ≤ 104) = true := decide_eq_true (by omega)
      conv => arg 1; simp (disch := first | exact Zd | fail) only [ZZ, d65_at, simprocAttr, h1, e_h2, h3', h5'', h5']
      refine J.eq ret_seq ?_
      conv => arg 1; simp (disch := first | exact Zd | fail) only [ZZ, d65_at, simprocAttr, h1, e_h2, h3', h5'', h5']
      refine J.eq go_seq ?_
      conv => arg 1; simp (disch := first | exact Zd | fail) only [ZZ, d65_at, simprocAttr, h1, e_h2, h3', h5'', h5']
      refine J.ite (fun h7 => ?_) (fun h7 => ?_)
      ·have h7' := decide_eq_true h7
       have h7'' : decide ((wk .u64 ((shlk .u64 (wk .u64 (wk .i64 ((wk .i64 (x3 + (imax (wk .i64 (x6 - 24)) (wk .i64 ((-149) - x3))))) + 149))) 23) + x11)) < 2139095040) = false := decide_eq_false (by omega)
       refine J.bind fun x14 h8 => ?_
       have e_h8 := H129_0 _ _ _ h8
       try simp only [NN, NT, LN, simprocAttr, DT] at e_h8
       refine J.some ?_
       simp (maxSteps := 20000000) (disch := first | exact Zd | fail) only [ZZ, d65_at, simprocAttr, h1, e_h2, h3', h5'', h5', h7'', h7', e_h8, FF, LN, NN, NT]
      ·have h7' := decide_eq_false h7
       have h7'' : decide ((wk .u64 ((shlk .u64 (wk .u64 (wk .i64 ((wk .i64 (x3 + (imax (wk .i64 (x6 - 24)) (wk .i64 ((-149) - x3))))) + 149))) 23) + x11)) < 2139095040) = true := decide_eq_true (by omega)
       conv => arg 1; simp (disch := first | exact Zd | fail) only [ZZ, d65_at, simprocAttr, h1, e_h2, h3', h5'', h5', h7'', h7']
       refine J.eq ret_seq ?_
       refine J.bind fun x15 h9 => ?_
       have e_h9 := H66_0 _ _ h9
       try simp only [NN, NT, LN, simprocAttr, DT] at e_h9
       refine J.some ?_
       simp (maxSteps := 20000000) (disch := first | exact Zd | fail) only [ZZ, d65_at, simprocAttr, h1, e_h2, h3', h5'', h5', h7'', h7', e_h9, FF, LN, NN, NT]
   ·conv => arg 1; simp (disch := first | exact Zd | fail) only [ZZ, d65_at, simprocAttr, h1, e_h2]
    refine J.eq go_seq ?_
    conv => arg 1; simp (disch := first | exact Zd | fail) only [ZZ, d65_at, simprocAttr, h1, e_h2]
    refine J.eq ret_seq ?_
    conv => arg 1; simp (disch := first | exact Zd | fail) only [ZZ, d65_at, simprocAttr, h1, e_h2]
    refine J.eq go_seq ?_
    conv => arg 1; simp (disch := first | exact Zd | fail) only [ZZ, d65_at, simprocAttr, h1, e_h2]
    refine J.ite (fun h10 => ?_) (fun h10 => ?_)
    ·have h10' : x8 = true := h10
     conv => arg 1; simp (disch := first | exact Zd | fail) only [ZZ, d65_at, simprocAttr, h1, e_h2, h10']
     refine J.eq ret_seq ?_
     conv => arg 1; simp (disch := first | exact Zd | fail) only [ZZ, d65_at, simprocAttr, h1, e_h2, h10']
     refine J.jmp (t := wk .u64 (x7 + 1)) hj3 ?_ ?_
     ·first | rfl | (simp only [LN, NN, NT])
     ·first | (simp (disch := first | exact Zd | fail) only [RR, simprocAttr, LN, NN, NT]; done) | (simp (disch := first | exact Zd | fail) only [RR, simprocAttr, LN, fm_app, NN, NT]; done) | rfl
    ·have h10' : x8 = false := Bool.eq_false_iff.2 h10
     conv => arg 1; simp (disch := first | exact Zd | fail) only [ZZ, d65_at, simprocAttr, h1, e_h2, h10']
     refine J.ite (fun h11 => ?_) (fun h11 => ?_)
     ·have h11' : x9 = true := h11
      conv => arg 1; simp (disch := first | exact Zd | fail) only [ZZ, d65_at, simprocAttr, h1, e_h2, h10', h11']
      refine J.eq ret_seq ?_
      conv => arg 1; simp (disch := first | exact Zd | fail) only [ZZ, d65_at, simprocAttr, h1, e_h2, h10', h11']
      refine J.ite (fun h12 => ?_) (fun h12 => ?_)
      ·have h12' := decide_eq_true h12
       conv => arg 1; simp (disch := first | exact Zd | fail) only [ZZ, d65_at, simprocAttr, h1, e_h2, h10', h11', h12']
       refine J.jmp (t := wk .u64 (x7 + 1)) hj3 ?_ ?_
       ·first | rfl | (simp only [LN, NN, NT])
       ·first | (simp (disch := first | exact Zd | fail) only [RR, simprocAttr, LN, NN, NT]; done) | (simp (disch := first | exact Zd | fail) only [RR, simprocAttr, LN, fm_app, NN, NT]; done) | rfl
      ·have h12' := decide_eq_false h12
       conv => arg 1; simp (disch := first | exact Zd | fail) only [ZZ, d65_at, simprocAttr, h1, e_h2, h10', h11', h12']
       refine J.jmp (t := x7) hj3 ?_ ?_
       ·first | rfl | (simp only [LN, NN, NT])
       ·first | (simp (disch := first | exact Zd | fail) only [RR, simprocAttr, LN, NN, NT]; done) | (simp (disch := first | exact Zd | fail) only [RR, simprocAttr, LN, fm_app, NN, NT]; done) | rfl
     ·have h11' : x9 = false := Bool.eq_false_iff.2 h11
      conv => arg 1; simp (disch := first | exact Zd | fail) only [ZZ, d65_at, simprocAttr, h1, e_h2, h10', h11']
      refine J.eq ret_seq ?_
      conv => arg 1; simp (disch := first | exact Zd | fail) only [ZZ, d65_at, simprocAttr, h1, e_h2, h10', h11']
      refine J.jmp (t := x7) hj3 ?_ ?_
      ·first | rfl | (simp only [LN, NN, NT])
      ·first | (simp (disch := first | exact Zd | fail) only [RR, simprocAttr, LN, NN, NT]; done) | (simp (disch := first | exact Zd | fail) only [RR, simprocAttr, LN, fm_app, NN, NT]; done) | rfl
  ·conv => arg 1; simp (disch := first | exact Zd | fail) only [ZZ, d65_at, simprocAttr, h1, e_h2]
   refine J.ite (fun h13 => ?_) (fun h13 => ?_)
   ·have h13' := decide_eq_true h13
    have h13'' : decide (0 < (imax (wk .i64 (x6 - 24)) (wk .i64 ((-149) - x3)))) = false := decide_eq_false (by omega)
    refine J.chk fun h14 => ?_
    conv => arg 1; simp (disch := first | exact Zd | fail) only [ZZ, d65_at, simprocAttr, h1, e_h2, h13'', h13']
    refine J.jmp (t := (shlk .u64 x4 (wk .i64 (0 - (imax (wk .i64 (x6 - 24)) (wk .i64 ((-149) - x3))))), false, false, x5)) hj2 ?_ ?_
    ·first | rfl | (simp only [LN, NN, NT])
    ·first | (simp (disch := first | exact Zd | fail) only [RR, simprocAttr, LN, NN, NT]; done) | (simp (disch := first | exact Zd | fail) only [RR, simprocAttr, LN, fm_app, NN, NT]; done) | rfl
   ·have h13' := decide_eq_false h13
    have h13'' : decide (0 < (imax (wk .i64 (x6 - 24)) (wk .i64 ((-149) - x3)))) = true := decide_eq_true (by omega)
    conv => arg 1; simp (disch := first | exact Zd | fail) only [ZZ, d65_at, simprocAttr, h1, e_h2, h13'', h13']
    refine J.ite (fun h15 => ?_) (fun h15 => ?_)
    ·have h15' := decide_eq_true h15
     have h15'' : decide ((imax (wk .i64 (x6 - 24)) (wk .i64 ((-149) - x3))) ≤ x6) = false := decide_eq_false (by omega)
     conv => arg 1; simp (disch := first | exact Zd | fail) only [ZZ, d65_at, simprocAttr, h1, e_h2, h13'', h13', h15'', h15']
     refine J.jmp (t := (0, false, false, true)) hj2 ?_ ?_
     ·first | rfl | (simp only [LN, NN, NT])
     ·first | (simp (disch := first | exact Zd | fail) only [RR, simprocAttr, LN, NN, NT]; done) | (simp (disch := first | exact Zd | fail) only [RR, simprocAttr, LN, fm_app, NN, NT]; done) | rfl
    ·have h15' := decide_eq_false h15
     have h15'' : decide ((imax (wk .i64 (x6 - 24)) (wk .i64 ((-149) - x3))) ≤ x6) = true := decide_eq_true (by omega)
     refine J.chk fun h16 => ?_
     refine J.chk fun h17 => ?_
     conv => arg 1; simp (disch := first | exact Zd | fail) only [ZZ, d65_at, simprocAttr, h1, e_h2, h13'', h13', h15'', h15']
     refine J.joinS (fun (t : Bool) => ([(0, .v (.int .i64 0)), (1, .v (.bool x2)), (2, .v (.int .i64 x3)), (3, .v (.int .u64 x4)), (4, .v (.bool x5)), (11, .v (.int .i64 x6)), (12, .v (.int .i64 (imax (wk .i64 (x6 - 24)) (wk .i64 ((-149) - x3))))), (13, .v (.int .u64 (shrk .u64 x4 (imax (wk .i64 (x6 - 24)) (wk .i64 ((-149) - x3)))))), (14, .v (.bool t)), (15, .v (.bool false)), (16, .v (.bool x5)), (17, .v (.int .u64 (band .u64 x4 (wk .u64 ((shlk .u64 1 (imax (wk .i64 (x6 - 24)) (wk .i64 ((-149) - x3)))) - 1))))), (18, .v (.int .u64 (shlk .u64 1 (wk .i64 ((imax (wk .i64 (x6 - 24)) (wk .i64 ((-149) - x3))) - 1)))))], [])) (fun t => soft_Round_k4 fu x2 x3 x4 x5 x6 t) ?_ (fun hj4 => ?_)
     ·rintro x16
      show J _ (soft_Round_k4 fu x2 x3 x4 x5 x6 x16) _
      unfold soft_Round_k4
      refine J.eq go_seq ?_
      conv => arg 1; simp (disch := first | exact Zd | fail) only [ZZ, d65_at, simprocAttr, h1, e_h2, h13'', h13', h15'', h15']
      refine J.ite (fun h18 => ?_) (fun h18 => ?_)
      ·have h18' := decide_eq_true h18
       conv => arg 1; simp (disch := first | exact Zd | fail) only [ZZ, d65_at, simprocAttr, h1, e_h2, h13'', h13', h15'', h15', h18']
       refine J.eq ret_seq ?_
       conv => arg 1; simp (disch := first | exact Zd | fail) only [ZZ, d65_at, simprocAttr, h1, e_h2, h13'', h13', h15'', h15', h18']
       refine J.ite (fun h19 => ?_) (fun h19 => ?_)
       ·have h19' := decide_eq_true h19
        conv => arg 1; simp (disch := first | exact Zd | fail) only [ZZ, d65_at, simprocAttr, h1, e_h2, h13'', h13', h15'', h15', h18', h19']
        refine J.jmp (t := (shrk .u64 x4 (imax (wk .i64 (x6 - 24)) (wk .i64 ((-149) - x3))), x16, !x5, x5)) hj2 ?_ ?_
        ·first | rfl | (simp only [LN, NN, NT])
        ·first | (simp (disch := first | exact Zd | fail) only [RR, simprocAttr, LN, NN, NT]; done) | (simp (disch := first | exact Zd | fail) only [RR, simprocAttr, LN, fm_app, NN, NT]; done) | rfl
       ·have h19' := decide_eq_false h19
        conv => arg 1; simp (disch := first | exact Zd | fail) only [ZZ, d65_at, simprocAttr, h1, e_h2, h13'', h13', h15'', h15', h18', h19']
        refine J.jmp (t := (shrk .u64 x4 (imax (wk .i64 (x6 - 24)) (wk .i64 ((-149) - x3))), x16, !x5, true)) hj2 ?_ ?_
        ·first | rfl | (simp only [LN, NN, NT])
        ·first | (simp (disch := first | exact Zd | fail) only [RR, simprocAttr, LN, NN, NT]; done) | (simp (disch := first | exact Zd | fail) only [RR, simprocAttr, LN, fm_app, NN, NT]; done) | rfl
      ·have h18' := decide_eq_false h18
       conv => arg 1; simp (disch := first | exact Zd | fail) only [ZZ, d65_at, simprocAttr, h1, e_h2, h13'', h13', h15'', h15', h18']
       refine J.eq ret_seq ?_
       conv => arg 1; simp (disch := first | exact Zd | fail) only [ZZ, d65_at, simprocAttr, h1, e_h2, h13'', h13', h15'', h15', h18']
       refine J.ite (fun h20 => ?_) (fun h20 => ?_)
       ·have h20' := decide_eq_true h20
        conv => arg 1; simp (disch := first | exact Zd | fail) only [ZZ, d65_at, simprocAttr, h1, e_h2, h13'', h13', h15'', h15', h18', h20']
        refine J.jmp (t := (shrk .u64 x4 (imax (wk .i64 (x6 - 24)) (wk .i64 ((-149) - x3))), x16, false, x5)) hj2 ?_ ?_
        ·first | rfl | (simp only [LN, NN, NT])
        ·first | (simp (disch := first | exact Zd | fail) only [RR, simprocAttr, LN, NN, NT]; done) | (simp (disch := first | exact Zd | fail) only [RR, simprocAttr, LN, fm_app, NN, NT]; done) | rfl
       ·have h20' := decide_eq_false h20
        conv => arg 1; simp (disch := first | exact Zd | fail) only [ZZ, d65_at, simprocAttr, h1, e_h2, h13'', h13', h15'', h15', h18', h20']
        refine J.jmp (t := (shrk .u64 x4 (imax (wk .i64 (x6 - 24)) (wk .i64 ((-149) - x3))), x16, false, true)) hj2 ?_ ?_
        ·first | rfl | (simp only [LN, NN, NT])
        ·first | (simp (disch := first | exact Zd | fail) only [RR, simprocAttr, LN, NN, NT]; done) | (simp (disch := first | exact Zd | fail) only [RR, simprocAttr, LN, fm_app, NN, NT]; done) | rfl
     ·conv => arg 1; simp (disch := first | exact Zd | fail) only [ZZ, d65_at, simprocAttr, h1, e_h2, h13'', h13', h15'', h15']
      refine J.ite (fun h21 => ?_) (fun h21 => ?_)
      ·have h21' := decide_eq_true h21
       have h21'' : decide ((band .u64 x4 (wk .u64 ((shlk .u64 1 (imax (wk .i64 (x6 - 24)) (wk .i64 ((-149) - x3)))) - 1))) ≤ (shlk .u64 1 (wk .i64 ((imax (wk .i64 (x6 - 24)) (wk .i64 ((-149) - x3))) - 1)))) = false := decide_eq_false (by omega)
       conv => arg 1; simp (disch := first | exact Zd | fail) only [ZZ, d65_at, simprocAttr, h1, e_h2, h13'', h13', h15'', h15', h21'', h21']
       refine J.jmp (t := true) hj4 ?_ ?_
       ·first | rfl | (simp only [LN, NN, NT])
       ·first | (simp (disch := first | exact Zd | fail) only [RR, simprocAttr, LN, NN, NT]; done) | (simp (disch := first | exact Zd | fail) only [RR, simprocAttr, LN, fm_app, NN, NT]; done) | rfl
      ·have h21' := decide_eq_false h21
       have h21'' : decide ((band .u64 x4 (wk .u64 ((shlk .u64 1 (imax (wk .i64 (x6 - 24)) (wk .i64 ((-149) - x3)))) - 1))) ≤ (shlk .u64 1 (wk .i64 ((imax (wk .i64 (x6 - 24)) (wk .i64 ((-149) - x3))) - 1)))) = true := decide_eq_true (by omega)
       conv => arg 1; simp (disch := first | exact Zd | fail) only [ZZ, d65_at, simprocAttr, h1, e_h2, h13'', h13', h15'', h15', h21'', h21']
       refine J.ite (fun h22 => ?_) (fun h22 => ?_)
       ·have h22' := decide_eq_true h22
        conv => arg 1; simp (disch := first | exact Zd | fail) only [ZZ, d65_at, simprocAttr, h1, e_h2, h13'', h13', h15'', h15', h21'', h21', h22']
        refine J.jmp (t := x5) hj4 ?_ ?_
        ·first | rfl | (simp only [LN, NN, NT])
        ·first | (simp (disch := first | exact Zd | fail) only [RR, simprocAttr, LN, NN, NT]; done) | (simp (disch := first | exact Zd | fail) only [RR, simprocAttr, LN, fm_app, NN, NT]; done) | rfl
       ·have h22' := decide_eq_false h22
        conv => arg 1; simp (disch := first | exact Zd | fail) only [ZZ, d65_at, simprocAttr, h1, e_h2, h13'', h13', h15'', h15', h21'', h21', h22']
        refine J.jmp (t := false) hj4 ?_ ?_
        ·first | rfl | (simp only [LN, NN, NT])
        ·first | (simp (disch := first | exact Zd | fail) only [RR, simprocAttr, LN, NN, NT]; done) | (simp (disch := first | exact Zd | fail) only [RR, simprocAttr, LN, fm_app, NN, NT]; done) | rfl
 ·conv => arg 1; simp (disch := first | exact Zd | fail) only [ZZ, d65_at, simprocAttr, h1, e_h2]
  refine J.eq go_seq ?_
  conv => arg 1; simp (disch := first | exact Zd | fail) only [ZZ, d65_at, simprocAttr, h1, e_h2]
  refine J.ite (fun h23 => ?_) (fun h23 => ?_)
  ·have h23' := decide_eq_true h23
   conv => arg 1; simp (disch := first | exact Zd | fail) only [ZZ, d65_at, simprocAttr, h1, e_h2, h23']
   refine J.eq ret_seq ?_
   conv => arg 1; simp (disch := first | exact Zd | fail) only [ZZ, d65_at, simprocAttr, h1, e_h2, h23']
   refine J.ite (fun h24 => ?_) (fun h24 => ?_)
   ·have h24' : x5 = true := h24
    conv => arg 1; simp (disch := first | exact Zd | fail) only [ZZ, d65_at, simprocAttr, h1, e_h2, h23', h24']
    refine J.eq go_seq ?_
    conv => arg 1; simp (disch := first | exact Zd | fail) only [ZZ, d65_at, simprocAttr, h1, e_h2, h23', h24']
    refine J.eq ret_seq ?_
    refine J.bind fun x17 h25 => ?_
    have e_h25 := H128_0 _ _ _ h25
    try simp only [NN, NT, LN, simprocAttr, DT] at e_h25
    refine J.some ?_
    simp (maxSteps := 20000000) (disch := first | exact Zd | fail) only [ZZ, d65_at, simprocAttr, h1, e_h2, h23', h24', e_h25, FF, LN, NN, NT]
   ·have h24' : x5 = false := Bool.eq_false_iff.2 h24
    refine J.bind fun x18 h26 => ?_
    have e_h26 := H66_0 _ _ h26
    try simp only [NN, NT, LN, simprocAttr, DT] at e_h26
    refine J.some ?_
    simp (maxSteps := 20000000) (disch := first | exact Zd | fail) only [ZZ, d65_at, simprocAttr, h1, e_h2, h23', h24', e_h26, FF, LN, NN, NT]
  ·have h23' := decide_eq_false h23
   conv => arg 1; simp (disch := first | exact Zd | fail) only [ZZ, d65_at, simprocAttr, h1, e_h2, h23']
   refine J.eq ret_seq ?_
   conv => arg 1; simp (disch := first | exact Zd | fail) only [ZZ, d65_at, simprocAttr, h1, e_h2, h23']
   refine J.eq go_seq ?_
   conv => arg 1; simp (disch := first | exact Zd | fail) only [ZZ, d65_at, simprocAttr, h1, e_h2, h23']
   refine J.eq ret_seq ?_
   conv => arg 1; simp (disch := first | exact Zd | fail) only [ZZ, d65_at, simprocAttr, h1, e_h2, h23']
   refine J.ite (fun h27 => ?_) (fun h27 => ?_)
   ·have h27' := decide_eq_true h27
    have h27'' : decide ((-300) ≤ x3) = false := decide_eq_false (by omega)
    refine J.bind fun x19 h28 => ?_
    have e_h28 := H128_0 _ _ _ h28
    try simp only [NN, NT, LN, simprocAttr, DT] at e_h28
    refine J.some ?_
    simp (maxSteps := 20000000) (disch := first | exact Zd | fail) only [ZZ, d65_at, simprocAttr, h1, e_h2, h23', h27'', h27', e_h28, FF, LN, NN, NT]
   ·have h27' := decide_eq_false h27
    have h27'' : decide ((-300) ≤ x3) = true := decide_eq_true (by omega)
    conv => arg 1; simp (disch := first | exact Zd | fail) only [ZZ, d65_at, simprocAttr, h1, e_h2, h23', h27'', h27']
    refine J.ite (fun h29 => ?_) (fun h29 => ?_)
    ·have h29' := decide_eq_true h29
     have h29'' : decide (x3 ≤ 200) = false := decide_eq_false (by omega)
     refine J.bind fun x20 h30 => ?_
     have e_h30 := H129_0 _ _ _ h30
     try simp only [NN, NT, LN, simprocAttr, DT] at e_h30
     refine J.some ?_
     simp (maxSteps := 20000000) (disch := first | exact Zd | fail) only [ZZ, d65_at, simprocAttr, h1, e_h2, h23', h27'', h27', h29'', h29', e_h30, FF, LN, NN, NT]
    ·have h29' := decide_eq_false h29
     have h29'' : decide (x3 ≤ 200) = true := decide_eq_true (by omega)
     conv => arg 1; simp (disch := first | exact Zd | fail) only [ZZ, d65_at, simprocAttr, h1, e_h2, h23', h27'', h27', h29'', h29']
     refine J.jmp (t := ()) hj1 ?_ ?_
     ·first | rfl | (simp only [LN, NN, NT])
     ·first | (simp (disch := first | exact Zd | fail) only [RR, simprocAttr, LN, NN, NT]; done) | (simp (disch := first | exact Zd | fail) only [RR, simprocAttr, LN, fm_app, NN, NT]; done) | rfl
noncomputable def t65 (fu : Nat) : CallP := orE 127 (mkC (fun (t : Int) => ([.v (.int .u64 t)] : List AV)) (fun t => math_bits_Len64 fu t) e127) (orE 128 (mkC (fun (t : Int × Bool) => ([.v (.int .i64 t.1), .v (.bool t.2)] : List AV)) (fun t => soft_tiny fu t.1 t.2) e128) (orE 66 (mkC (fun (t : Bool) => ([.v (.bool t)] : List AV)) (fun t => soft_sign fu t) e66) (orE 129 (mkC (fun (t : Int × Bool) => ([.v (.int .i64 t.1), .v (.bool t.2)] : List AV)) (fun t => soft_huge fu t.1 t.2) e129) (noP))))
theorem t65_ok (fu : Nat) : CpOK Tryz.prog (t65 fu ) := orE_ok (orE_ok (orE_ok (orE_ok (noP_ok) (mkC_ok (fun t b h => ok129 fu t.1 t.2  b h))) (mkC_ok (fun t b h => ok66 fu t  b h))) (mkC_ok (fun t b h => ok128 fu t.1 t.2  b h))) (mkC_ok (fun t b h => ok127 fu t  b h))
theorem ok65 (fu : Nat) (x1 : Int) (x2 : Bool) (x3 : Int) (x4 : Int) (x5 : Bool) (r) (h : soft_Round fu x1 x2 x3 x4 x5 = some r) : PureOK Tryz.prog 65 [.v (.int .i64 x1), .v (.bool x2), .v (.int .i64 x3), .v (.int .u64 x4), .v (.bool x5)] (e65 r) :=
  pure_J mixed (cp := t65 fu ) (t65_ok fu  ) noI_ok i65 (w65 _ fu x1 x2 x3 x4 x5  (fun a0 r h => orE_hit (mkC_at (a := a0) (by intro a b h; first | (exact rfl) | (simp only [INJ, IJ] at h; first | exact h | (simp_all [Prod.ext_iff]) )) h)) (fun a0 a1 r h => orE_miss (by decide) (orE_hit (mkC_at (a := (a0, a1)) (by intro a b h; first | (exact rfl) | (simp only [INJ, IJ] at h; first | exact h | (simp_all [Prod.ext_iff]) )) h))) (fun a0 r h => orE_miss (by decide) (orE_miss (by decide) (orE_hit (mkC_at (a := a0) (by intro a b h; first | (exact rfl) | (simp only [INJ, IJ] at h; first | exact h | (simp_all [Prod.ext_iff]) )) h)))) (fun a0 a1 r h => orE_miss (by decide) (orE_miss (by decide) (orE_miss (by decide) (orE_hit (mkC_at (a := (a0, a1)) (by intro a b h; first | (exact rfl) | (simp only [INJ, IJ] at h; first | exact h | (simp_all [Prod.ext_iff]) )) h)))))) h
/-! 34: lattice/soft.MulBy -/
open Aw (d34)
def d34_at := by have h := tabL Aw.d34.eq_1; simp only [AllAt, Nat.zero_add, Nat.reduceAdd] at h; exact h
theorem i34 : finfo Tryz.prog 34 d34 = some ⟨bodyOf Tryz.f34, [.tmp 6], [24]⟩ := finfo_at Tryz.func34 rfl (by kernel_rfl) (by kernel_rfl)
def e34 : Int → AV := fun r => .v (.int .u32 r)
set_option maxHeartbeats 20000000 in
theorem w34 (cp : CallP) (fu : Nat) (x1 : Int) (x2 : Int) (x3 : Int) (H63_0 : ∀ (a0 : Int) r, soft_open fu a0 = some r → cp 63 [.v (.int .u32 a0)] = some (.agg [.v (.bool r.fneg), .v (.bool r.fnan), .v (.bool r.finf), .v (.int .i64 r.fexp), .v (.int .u64 r.fsig)])) (H66_0 : ∀ (a0 : Bool) r, soft_sign fu a0 = some r → cp 66 [.v (.bool a0)] = some (.v (.int .u32 r))) (H65_0 : ∀ (a0 : Int) (a1 : Bool) (a2 : Int) (a3 : Int) (a4 : Bool) r, soft_Round fu a0 a1 a2 a3 a4 = some r → cp 65 [.v (.int .i64 a0), .v (.bool a1), .v (.int .i64 a2), .v (.int .u64 a3), .v (.bool a4)] = some (.v (.int .u32 r))) : J (go Tryz.prog noC cp noI 0 [] d34 fu (fin Tryz.prog [.tmp 6] [24]) (bodyOf Tryz.f34) (initE 0 [.v (.int .i64 x1), .v (.int .u32 x2), .v (.int .u32 x3)]) [] []) (soft_MulBy fu x1 x2 x3) e34 := by
 unfold soft_MulBy e34
 refine J.chk fun h1 => ?_
 refine J.bind fun x4 h2 => ?_
 have e_h2 := H63_0 _ _ h2
 try simp only [NN, NT, LN, simprocAttr, DT] at e_h2
 refine J.bind fun x5 h3 => ?_
 have e_h3 := H63_0 _ _ h3
 try simp only [NN, NT, LN, simprocAttr, DT] at e_h3
 conv => arg 1; simp (disch := first | exact Zd | fail) only [bodyOf, Tryz.f34, ZZ, d34_at, simprocAttr, h1, e_h2, e_h3]
 refine J.joinS (fun (t : Unit) => ([(0, .v (.int .i64 0)), (7, .ptr (0, 7, 0) 0 0), (8, .ptr (0, 8, 0) 0 0), (9, .v (.bool (!(x4.fneg == x5.fneg))))], [((0, 7, 0), .bx true ([.v (.bool x4.fneg), .v (.bool false), .v (.bool false), .v (.int .i64 x4.fexp), .v (.int .u64 x4.fsig)])), ((0, 8, 0), .bx true ([.v (.bool x5.fneg), .v (.bool false), .v (.bool false), .v (.int .i64 x5.fexp), .v (.int .u64 x5.fsig)]))])) (fun t => soft_MulBy_k1 fu x4 x5) ?_ (fun hj1 => ?_)
 ·rintro ⟨⟩
  show J _ (soft_MulBy_k1 fu x4 x5) _
  unfold soft_MulBy_k1
  refine J.bind fun x6 h4 => ?_
  have e_h4 := H65_0 _ _ _ _ _ _ h4
  try simp only [NN, NT, LN, simprocAttr, DT] at e_h4
  refine J.some ?_
  simp (maxSteps := 20000000) (disch := first | exact Zd | fail) only [ZZ, d34_at, simprocAttr, h1, e_h2, e_h3, e_h4, FF, LN, NN, NT]
 ·conv => arg 1; simp (disch := first | exact Zd | fail) only [ZZ, d34_at, simprocAttr, h1, e_h2, e_h3]
  refine J.eq go_seq ?_
  conv => arg 1; simp (disch := first | exact Zd | fail) only [ZZ, d34_at, simprocAttr, h1, e_h2, e_h3]
  refine J.ite (fun h5 => ?_) (fun h5 => ?_)
  ·have h5' : x4.fnan = true := h5
   conv => arg 1; simp (disch := first | exact Zd | fail) only [ZZ, d34_at, simprocAttr, h1, e_h2, e_h3, h5']
   refine J.eq ret_seq ?_
   refine J.some ?_
   simp (maxSteps := 20000000) (disch := first | exact Zd | fail) only [ZZ, d34_at, simprocAttr, h1, e_h2, e_h3, h5', FF, LN, NN, NT]
  ·have h5' : x4.fnan = false := Bool.eq_false_iff.2 h5
   conv => arg 1; simp (disch := first | exact Zd | fail) only [ZZ, d34_at, simprocAttr, h1, e_h2, e_h3, h5']
   refine J.ite (fun h6 => ?_) (fun h6 => ?_)
   ·have h6' : x5.fnan = true := h6
    conv => arg 1; simp (disch := first | exact Zd | fail) only [ZZ, d34_at, simprocAttr, h1, e_h2, e_h3, h5', h6']
    refine J.eq ret_seq ?_
    refine J.some ?_
    simp (maxSteps := 20000000) (disch := first | exact Zd | fail) only [ZZ, d34_at, simprocAttr, h1, e_h2, e_h3, h5', h6', FF, LN, NN, NT]
   ·have h6' : x5.fnan = false := Bool.eq_false_iff.2 h6
    conv => arg 1; simp (disch := first | exact Zd | fail) only [ZZ, d34_at, simprocAttr, h1, e_h2, e_h3, h5', h6']
    refine J.ite (fun h7 => ?_) (fun h7 => ?_)
    ·have h7' : x4.finf = true := h7
     conv => arg 1; simp (disch := first | exact Zd | fail) only [ZZ, d34_at, simprocAttr, h1, e_h2, e_h3, h5', h6', h7']
     refine J.ite (fun h8 => ?_) (fun h8 => ?_)
     ·have h8' : x5.finf = true := h8
      conv => arg 1; simp (disch := first | exact Zd | fail) only [ZZ, d34_at, simprocAttr, h1, e_h2, e_h3, h5', h6', h7', h8']
      refine J.eq ret_seq ?_
      conv => arg 1; simp (disch := first | exact Zd | fail) only [ZZ, d34_at, simprocAttr, h1, e_h2, e_h3, h5', h6', h7', h8']
      refine J.eq go_seq ?_
      conv => arg 1; simp (disch := first | exact Zd | fail) only [ZZ, d34_at, simprocAttr, h1, e_h2, e_h3, h5', h6', h7', h8']
      refine J.eq ret_seq ?_
      refine J.bind fun x7 h9 => ?_
      have e_h9 := H66_0 _ _ h9
      try simp only [NN, NT, LN, simprocAttr, DT] at e_h9
      refine J.some ?_
      simp (maxSteps := 20000000) (disch := first | exact Zd | fail) only [ZZ, d34_at, simprocAttr, h1, e_h2, e_h3, h5', h6', h7', h8', e_h9, FF, LN, NN, NT]
     ·have h8' : x5.finf = false := Bool.eq_false_iff.2 h8
      conv => arg 1; simp (disch := first | exact Zd | fail) only [ZZ, d34_at, simprocAttr, h1, e_h2, e_h3, h5', h6', h7', h8']
      refine J.ite (fun h10 => ?_) (fun h10 => ?_)
      ·have h10' := decide_eq_true h10
       conv => arg 1; simp (disch := first | exact Zd | fail) only [ZZ, d34_at, simprocAttr, h1, e_h2, e_h3, h5', h6', h7', h8', h10']
       refine J.eq ret_seq ?_
       refine J.some ?_
       simp (maxSteps := 20000000) (disch := first | exact Zd | fail) only [ZZ, d34_at, simprocAttr, h1, e_h2, e_h3, h5', h6', h7', h8', h10', FF, LN, NN, NT]
      ·have h10' := decide_eq_false h10
       conv => arg 1; simp (disch := first | exact Zd | fail) only [ZZ, d34_at, simprocAttr, h1, e_h2, e_h3, h5', h6', h7', h8', h10']
       refine J.eq ret_seq ?_
       conv => arg 1; simp (disch := first | exact Zd | fail) only [ZZ, d34_at, simprocAttr, h1, e_h2, e_h3, h5', h6', h7', h8', h10']
       refine J.eq go_seq ?_
       conv => arg 1; simp (disch := first | exact Zd | fail) only [ZZ, d34_at, simprocAttr, h1, e_h2, e_h3, h5', h6', h7', h8', h10']
       refine J.eq ret_seq ?_
       refine J.bind fun x8 h11 => ?_
       have e_h11 := H66_0 _ _ h11
       try simp only [NN, NT, LN, simprocAttr, DT] at e_h11
       refine J.some ?_
       simp (maxSteps := 20000000) (disch := first | exact Zd | fail) only [ZZ, d34_at, simprocAttr, h1, e_h2, e_h3, h5', h6', h7', h8', h10', e_h11, FF, LN, NN, NT]
    ·have h7' : x4.finf = false := Bool.eq_false_iff.2 h7
     conv => arg 1; simp (disch := first | exact Zd | fail) only [ZZ, d34_at, simprocAttr, h1, e_h2, e_h3, h5', h6', h7']
     refine J.ite (fun h12 => ?_) (fun h12 => ?_)
     ·have h12' : x5.finf = true := h12
      conv => arg 1; simp (disch := first | exact Zd | fail) only [ZZ, d34_at, simprocAttr, h1, e_h2, e_h3, h5', h6', h7', h12']
      refine J.eq ret_seq ?_
      conv => arg 1; simp (disch := first | exact Zd | fail) only [ZZ, d34_at, simprocAttr, h1, e_h2, e_h3, h5', h6', h7', h12']
      refine J.ite (fun h13 => ?_) (fun h13 => ?_)
      ·have h13' := decide_eq_true h13
       refine J.some ?_
       simp (maxSteps := 20000000) (disch := first | exact Zd | fail) only [ZZ, d34_at, simprocAttr, h1, e_h2, e_h3, h5', h6', h7', h12', h13', FF, LN, NN, NT]
      ·have h13' := decide_eq_false h13
       conv => arg 1; simp (disch := first | exact Zd | fail) only [ZZ, d34_at, simprocAttr, h1, e_h2, e_h3, h5', h6', h7', h12', h13']
       refine J.eq go_seq ?_
       conv => arg 1; simp (disch := first | exact Zd | fail) only [ZZ, d34_at, simprocAttr, h1, e_h2, e_h3, h5', h6', h7', h12', h13']
       refine J.eq ret_seq ?_
       refine J.bind fun x9 h14 => ?_
       have e_h14 := H66_0 _ _ h14
       try simp only [NN, NT, LN, simprocAttr, DT] at e_h14
       refine J.some ?_
       simp (maxSteps := 20000000) (disch := first | exact Zd | fail) only [ZZ, d34_at, simprocAttr, h1, e_h2, e_h3, h5', h6', h7', h12', h13', e_h14, FF, LN, NN, NT]
     ·have h12' : x5.finf = false := Bool.eq_false_iff.2 h12
      conv => arg 1; simp (disch := first | exact Zd | fail) only [ZZ, d34_at, simprocAttr, h1, e_h2, e_h3, h5', h6', h7', h12']
      refine J.eq ret_seq ?_
      conv => arg 1; simp (disch := first | exact Zd | fail) only [ZZ, d34_at, simprocAttr, h1, e_h2, e_h3, h5', h6', h7', h12']
      refine J.eq go_seq ?_
      conv => arg 1; simp (disch := first | exact Zd | fail) only [ZZ, d34_at, simprocAttr, h1, e_h2, e_h3, h5', h6', h7', h12']
      refine J.eq ret_seq ?_
      conv => arg 1; simp (disch := first | exact Zd | fail) only [ZZ, d34_at, simprocAttr, h1, e_h2, e_h3, h5', h6', h7', h12']
      refine J.jmp (t := ()) hj1 ?_ ?_
      ·first | rfl | (simp only [LN, NN, NT])
      ·first | (simp (disch := first | exact Zd | fail) only [RR, simprocAttr, LN, NN, NT]; done) | (simp (disch := first | exact Zd | fail) only [RR, simprocAttr, LN, fm_app, NN, NT]; done) | rfl
noncomputable def t34 (fu : Nat) : CallP := orE 63 (mkC (fun (t : Int) => ([.v (.int .u32 t)] : List AV)) (fun t => soft_open fu t) e63) (orE 66 (mkC (fun (t : Bool) => ([.v (.bool t)] : List AV)) (fun t => soft_sign fu t) e66) (orE 65 (mkC (fun (t : Int × Bool × Int × Int × Bool) => ([.v (.int .i64 t.1), .v (.bool t.2.1), .v (.int .i64 t.2.2.1), .v (.int .u64 t.2.2.2.1), .v (.bool t.2.2.2.2)] : List AV)) (fun t => soft_Round fu t.1 t.2.1 t.2.2.1 t.2.2.2.1 t.2.2.2.2) e65) (noP)))
theorem t34_ok (fu : Nat) : CpOK Tryz.prog (t34 fu ) := orE_ok (orE_ok (orE_ok (noP_ok) (mkC_ok (fun t b h => ok65 fu t.1 t.2.1 t.2.2.1 t.2.2.2.1 t.2.2.2.2  b h))) (mkC_ok (fun t b h => ok66 fu t  b h))) (mkC_ok (fun t b h => ok63 fu t  b h))
theorem ok34 (fu : Nat) (x1 : Int) (x2 : Int) (x3 : Int) (r) (h : soft_MulBy fu x1 x2 x3 = some r) : PureOK Tryz.prog 34 [.v (.int .i64 x1), .v (.int .u32 x2), .v (.int .u32 x3)] (e34 r) :=
  pure_J mixed (cp := t34 fu ) (t34_ok fu  ) noI_ok i34 (w34 _ fu x1 x2 x3  (fun a0 r h => orE_hit (mkC_at (a := a0) (by intro a b h; first | (exact rfl) | (simp only [INJ, IJ] at h; first | exact h | (simp_all [Prod.ext_iff]) )) h)) (fun a0 r h => orE_miss (by decide) (orE_hit (mkC_at (a := a0) (by intro a b h; first | (exact rfl) | (simp only [INJ, IJ] at h; first | exact h | (simp_all [Prod.ext_iff]) )) h))) (fun a0 a1 a2 a3 a4 r h => orE_miss (by decide) (orE_miss (by decide) (orE_hit (mkC_at (a := (a0, a1, a2, a3, a4)) (by intro a b h; first | (exact rfl) | (simp only [INJ, IJ] at h; first | exact h | (simp_all [Prod.ext_iff]) )) h))))) h
/-! 20: lattice/soft.Mul -/
open Aw (d20)
def d20_at := by have h := tabL Aw.d20.eq_1; simp only [AllAt, Nat.zero_add, Nat.reduceAdd] at h; exact h
theorem i20 : finfo Tryz.prog 20 d20 = some ⟨bodyOf Tryz.f20, [.tmp 4], [24]⟩ := finfo_at Tryz.func20 rfl (by kernel_rfl) (by kernel_rfl)
def e20 : Int → AV := fun r => .v (.int .u32 r)
set_option maxHeartbeats 20000000 in
theorem w20 (cp : CallP) (fu : Nat) (x1 : Int) (x2 : Int) (H34_0 : ∀ (a0 : Int) (a1 : Int) (a2 : Int) r, soft_MulBy fu a0 a1 a2 = some r → cp 34 [.v (.int .i64 a0), .v (.int .u32 a1), .v (.int .u32 a2)] = some (.v (.int .u32 r))) : J (go Tryz.prog noC cp noI 0 [] d20 fu (fin Tryz.prog [.tmp 4] [24]) (bodyOf Tryz.f20) (initE 0 [.v (.int .u32 x1), .v (.int .u32 x2)]) [] []) (soft_Mul fu x1 x2) e20 := by
 unfold soft_Mul e20
 refine J.bind fun x3 h1 => ?_
 have e_h1 := H34_0 _ _ _ _ h1
 try simp only [NN, NT, LN, simprocAttr, DT] at e_h1
 refine J.some ?_
 simp (maxSteps := 20000000) (disch := first | exact Zd | fail) only [bodyOf, Tryz.f20, ZZ, d20_at, simprocAttr, e_h1, FF, LN, NN, NT]
noncomputable def t20 (fu : Nat) : CallP := orE 34 (mkC (fun (t : Int × Int × Int) => ([.v (.int .i64 t.1), .v (.int .u32 t.2.1), .v (.int .u32 t.2.2)] : List AV)) (fun t => soft_MulBy fu t.1 t.2.1 t.2.2) e34) (noP)
theorem t20_ok (fu : Nat) : CpOK Tryz.prog (t20 fu ) := orE_ok (noP_ok) (mkC_ok (fun t b h => ok34 fu t.1 t.2.1 t.2.2  b h))
theorem ok20 (fu : Nat) (x1 : Int) (x2 : Int) (r) (h : soft_Mul fu x1 x2 = some r) : PureOK Tryz.prog 20 [.v (.int .u32 x1), .v (.int .u32 x2)] (e20 r) :=
  pure_J mixed (cp := t20 fu ) (t20_ok fu  ) noI_ok i20 (w20 _ fu x1 x2  (fun a0 a1 a2 r h => orE_hit (mkC_at (a := (a0, a1, a2)) (by intro a b h; first | (exact rfl) | (simp only [INJ, IJ] at h; first | exact h | (simp_all [Prod.ext_iff]) )) h))) h
/-! 64: lattice/soft.nought -/
def d64 : List (Nat × List Nat) := [(0, [2]), (0, []), (0, [0, 3, 4, 5])]
def d64_at := by have h := tabL d64.eq_1; simp only [AllAt, Nat.zero_add, Nat.reduceAdd] at h; exact h
theorem i64 : finfo Tryz.prog 64 d64 = some ⟨bodyOf Tryz.f64, [.tmp 2], [24]⟩ := finfo_at Tryz.func64 rfl (by kernel_rfl) (by kernel_rfl)
def e64 : Int → AV := fun r => .v (.int .u32 r)
set_option maxHeartbeats 20000000 in
theorem w64 (cp : CallP) (fu : Nat) (x1 : Int) (H66_0 : ∀ (a0 : Bool) r, soft_sign fu a0 = some r → cp 66 [.v (.bool a0)] = some (.v (.int .u32 r))) : J (go Tryz.prog noC cp noI 0 [] d64 fu (fin Tryz.prog [.tmp 2] [24]) (bodyOf Tryz.f64) (initE 0 [.v (.int .i64 x1)]) [] []) (soft_nought fu x1) e64 := by
 unfold soft_nought e64
 refine J.chk fun h1 => ?_
 refine J.bind fun x2 h2 => ?_
 have e_h2 := H66_0 _ _ h2
 try simp only [NN, NT, LN, simprocAttr, DT] at e_h2
 refine J.some ?_
 simp (maxSteps := 20000000) (disch := first | exact Zd | fail) only [bodyOf, Tryz.f64, ZZ, d64_at, simprocAttr, h1, e_h2, FF, LN, NN, NT]
noncomputable def t64 (fu : Nat) : CallP := orE 66 (mkC (fun (t : Bool) => ([.v (.bool t)] : List AV)) (fun t => soft_sign fu t) e66) (noP)
theorem t64_ok (fu : Nat) : CpOK Tryz.prog (t64 fu ) := orE_ok (noP_ok) (mkC_ok (fun t b h => ok66 fu t  b h))
theorem ok64 (fu : Nat) (x1 : Int) (r) (h : soft_nought fu x1 = some r) : PureOK Tryz.prog 64 [.v (.int .i64 x1)] (e64 r) :=
  pure_J mixed (cp := t64 fu ) (t64_ok fu  ) noI_ok i64 (w64 _ fu x1  (fun a0 r h => orE_hit (mkC_at (a := a0) (by intro a b h; first | (exact rfl) | (simp only [INJ, IJ] at h; first | exact h | (simp_all [Prod.ext_iff]) )) h))) h
/-! 33: lattice/soft.AddBy -/
open Aw (d33)
def d33_at := by have h := tabL Aw.d33.eq_1; simp only [AllAt, Nat.zero_add, Nat.reduceAdd] at h; exact h
theorem i33 : finfo Tryz.prog 33 d33 = some ⟨bodyOf Tryz.f33, [.tmp 6], [24]⟩ := finfo_at Tryz.func33 rfl (by kernel_rfl) (by kernel_rfl)
def e33 : Int → AV := fun r => .v (.int .u32 r)
set_option maxHeartbeats 20000000 in
theorem w33 (cp : CallP) (fu : Nat) (x1 : Int) (x2 : Int) (x3 : Int) (H63_0 : ∀ (a0 : Int) r, soft_open fu a0 = some r → cp 63 [.v (.int .u32 a0)] = some (.agg [.v (.bool r.fneg), .v (.bool r.fnan), .v (.bool r.finf), .v (.int .i64 r.fexp), .v (.int .u64 r.fsig)])) (H64_0 : ∀ (a0 : Int) r, soft_nought fu a0 = some r → cp 64 [.v (.int .i64 a0)] = some (.v (.int .u32 r))) (H65_0 : ∀ (a0 : Int) (a1 : Bool) (a2 : Int) (a3 : Int) (a4 : Bool) r, soft_Round fu a0 a1 a2 a3 a4 = some r → cp 65 [.v (.int .i64 a0), .v (.bool a1), .v (.int .i64 a2), .v (.int .u64 a3), .v (.bool a4)] = some (.v (.int .u32 r))) : J (go Tryz.prog noC cp noI 0 [] d33 fu (fin Tryz.prog [.tmp 6] [24]) (bodyOf Tryz.f33) (initE 0 [.v (.int .i64 x1), .v (.int .u32 x2), .v (.int .u32 x3)]) [] []) (soft_AddBy fu x1 x2 x3) e33 := by
 unfold soft_AddBy e33
 refine J.chk fun h1 => ?_
 refine J.bind fun x4 h2 => ?_
 have e_h2 := H63_0 _ _ h2
 try simp only [NN, NT, LN, simprocAttr, DT] at e_h2
 refine J.bind fun x5 h3 => ?_
 have e_h3 := H63_0 _ _ h3
 try simp only [NN, NT, LN, simprocAttr, DT] at e_h3
 conv => arg 1; simp (disch := first | exact Zd | fail) only [bodyOf, Tryz.f33, ZZ, d33_at, simprocAttr, h1, e_h2, e_h3]
 refine J.joinS (fun (t : Unit) => ([(0, .v (.int .i64 0)), (7, .ptr (0, 7, 0) 0 0), (8, .ptr (0, 8, 0) 0 0)], [((0, 7, 0), .bx true ([.v (.bool x4.fneg), .v (.bool false), .v (.bool false), .v (.int .i64 x4.fexp), .v (.int .u64 x4.fsig)])), ((0, 8, 0), .bx true ([.v (.bool x5.fneg), .v (.bool false), .v (.bool false), .v (.int .i64 x5.fexp), .v (.int .u64 x5.fsig)]))])) (fun t => soft_AddBy_k1 fu x4 x5) ?_ (fun hj1 => ?_)
 ·rintro ⟨⟩
  show J _ (soft_AddBy_k1 fu x4 x5) _
  unfold soft_AddBy_k1
  refine J.joinS (fun (t : Bool × Int × Int × Bool × Int × Int) => ([(0, .v (.int .i64 0)), (7, .ptr (0, 7, 0) 0 0), (8, .ptr (0, 8, 0) 0 0)], [((0, 7, 0), .bx true ([.v (.bool t.1), .v (.bool false), .v (.bool false), .v (.int .i64 t.2.1), .v (.int .u64 t.2.2.1)])), ((0, 8, 0), .bx true ([.v (.bool t.2.2.2.1), .v (.bool false), .v (.bool false), .v (.int .i64 t.2.2.2.2.1), .v (.int .u64 t.2.2.2.2.2)]))])) (fun t => soft_AddBy_k2 fu t.1 t.2.1 t.2.2.1 t.2.2.2.1 t.2.2.2.2.1 t.2.2.2.2.2) ?_ (fun hj2 => ?_)
  ·rintro ⟨x6, x7, x8, x9, x10, x11⟩
   show J _ (soft_AddBy_k2 fu x6 x7 x8 x9 x10 x11) _
   unfold soft_AddBy_k2
   conv => arg 1; simp (disch := first | exact Zd | fail) only [ZZ, d33_at, simprocAttr, h1, e_h2, e_h3]
   refine J.joinS (fun (t : Int × Int × Int × Bool) => ([(0, .v (.int .i64 0)), (7, .ptr (0, 7, 0) 0 0), (8, .ptr (0, 8, 0) 0 0), (9, .v (.int .i64 (wk .i64 (x7 - x10)))), (10, .v (.int .i64 t.1)), (11, .v (.int .u64 t.2.1)), (12, .v (.int .u64 t.2.2.1)), (13, .v (.bool t.2.2.2))], [((0, 7, 0), .bx true ([.v (.bool x6), .v (.bool false), .v (.bool false), .v (.int .i64 x7), .v (.int .u64 x8)])), ((0, 8, 0), .bx true ([.v (.bool x9), .v (.bool false), .v (.bool false), .v (.int .i64 x10), .v (.int .u64 x11)]))])) (fun t => soft_AddBy_k3 fu x6 x9 t.1 t.2.1 t.2.2.1 t.2.2.2) ?_ (fun hj3 => ?_)
   ·rintro ⟨x12, x13, x14, x15⟩
    show J _ (soft_AddBy_k3 fu x6 x9 x12 x13 x14 x15) _
    unfold soft_AddBy_k3
    refine J.eq go_seq ?_
    conv => arg 1; simp (disch := first | exact Zd | fail) only [ZZ, d33_at, simprocAttr, h1, e_h2, e_h3]
    refine J.ite (fun h4 => ?_) (fun h4 => ?_)
    ·have h4' : (x6 == x9) = true := h4
     refine J.bind fun x16 h5 => ?_
     have e_h5 := H65_0 _ _ _ _ _ _ h5
     try simp only [NN, NT, LN, simprocAttr, DT] at e_h5
     refine J.some ?_
     simp (maxSteps := 20000000) (disch := first | exact Zd | fail) only [ZZ, d33_at, simprocAttr, h1, e_h2, e_h3, h4', e_h5, FF, LN, NN, NT]
    ·have h4' : (x6 == x9) = false := Bool.eq_false_iff.2 h4
     conv => arg 1; simp (disch := first | exact Zd | fail) only [ZZ, d33_at, simprocAttr, h1, e_h2, e_h3, h4']
     refine J.ite (fun h6 => ?_) (fun h6 => ?_)
     ·have h6' : x15 = true := h6
      refine J.bind fun x17 h7 => ?_
      have e_h7 := H65_0 _ _ _ _ _ _ h7
      try simp only [NN, NT, LN, simprocAttr, DT] at e_h7
      refine J.some ?_
      simp (maxSteps := 20000000) (disch := first | exact Zd | fail) only [ZZ, d33_at, simprocAttr, h1, e_h2, e_h3, h4', h6', e_h7, FF, LN, NN, NT]
     ·have h6' : x15 = false := Bool.eq_false_iff.2 h6
      conv => arg 1; simp (disch := first | exact Zd | fail) only [ZZ, d33_at, simprocAttr, h1, e_h2, e_h3, h4', h6']
      refine J.ite (fun h8 => ?_) (fun h8 => ?_)
      ·have h8' := decide_eq_true h8
       refine J.bind fun x18 h9 => ?_
       have e_h9 := H64_0 _ _ h9
       try simp only [NN, NT, LN, simprocAttr, DT] at e_h9
       refine J.some ?_
       simp (maxSteps := 20000000) (disch := first | exact Zd | fail) only [ZZ, d33_at, simprocAttr, h1, e_h2, e_h3, h4', h6', h8', e_h9, FF, LN, NN, NT]
      ·have h8' := decide_eq_false h8
       conv => arg 1; simp (disch := first | exact Zd | fail) only [ZZ, d33_at, simprocAttr, h1, e_h2, e_h3, h4', h6', h8']
       refine J.ite (fun h10 => ?_) (fun h10 => ?_)
       ·have h10' := decide_eq_true h10
        have h10'' : decide (x13 ≤ x14) = false := decide_eq_false (by omega)
        refine J.bind fun x19 h11 => ?_
        have e_h11 := H65_0 _ _ _ _ _ _ h11
        try simp only [NN, NT, LN, simprocAttr, DT] at e_h11
        refine J.some ?_
        simp (maxSteps := 20000000) (disch := first | exact Zd | fail) only [ZZ, d33_at, simprocAttr, h1, e_h2, e_h3, h4', h6', h8', h10'', h10', e_h11, FF, LN, NN, NT]
       ·have h10' := decide_eq_false h10
        have h10'' : decide (x13 ≤ x14) = true := decide_eq_true (by omega)
        conv => arg 1; simp (disch := first | exact Zd | fail) only [ZZ, d33_at, simprocAttr, h1, e_h2, e_h3, h4', h6', h8', h10'', h10']
        refine J.eq ret_seq ?_
        refine J.bind fun x20 h12 => ?_
        have e_h12 := H65_0 _ _ _ _ _ _ h12
        try simp only [NN, NT, LN, simprocAttr, DT] at e_h12
        refine J.some ?_
        simp (maxSteps := 20000000) (disch := first | exact Zd | fail) only [ZZ, d33_at, simprocAttr, h1, e_h2, e_h3, h4', h6', h8', h10'', h10', e_h12, FF, LN, NN, NT]
   ·conv => arg 1; simp (disch := first | exact Zd | fail) only [ZZ, d33_at, simprocAttr, h1, e_h2, e_h3]
    refine J.ite (fun h13 => ?_) (fun h13 => ?_)
    ·have h13' := decide_eq_true h13
     have h13'' : decide (38 < (wk .i64 (x7 - x10))) = false := decide_eq_false (by omega)
     refine J.chk fun h14 => ?_
     conv => arg 1; simp (disch := first | exact Zd | fail) only [ZZ, d33_at, simprocAttr, h1, e_h2, e_h3, h13'', h13']
     refine J.jmp (t := (x10, shlk .u64 x8 (wk .i64 (x7 - x10)), x11, false)) hj3 ?_ ?_
     ·first | rfl | (simp only [LN, NN, NT])
     ·first | (simp (disch := first | exact Zd | fail) only [RR, simprocAttr, LN, NN, NT]; done) | (simp (disch := first | exact Zd | fail) only [RR, simprocAttr, LN, fm_app, NN, NT]; done) | rfl
    ·have h13' := decide_eq_false h13
     have h13'' : decide (38 < (wk .i64 (x7 - x10))) = true := decide_eq_true (by omega)
     refine J.chk fun h15 => ?_
     conv => arg 1; simp (disch := first | exact Zd | fail) only [ZZ, d33_at, simprocAttr, h1, e_h2, e_h3, h13'', h13']
     refine J.jmp (t := (wk .i64 (x7 - 38), shlk .u64 x8 38, shrk .u64 x11 (wk .i64 ((wk .i64 (x7 - x10)) - 38)), !(decide ((shlk .u64 (shrk .u64 x11 (wk .i64 ((wk .i64 (x7 - x10)) - 38))) (wk .i64 ((wk .i64 (x7 - x10)) - 38))) = x11)))) hj3 ?_ ?_
     ·first | rfl | (simp only [LN, NN, NT])
     ·first | (simp (disch := first | exact Zd | fail) only [RR, simprocAttr, LN, NN, NT]; done) | (simp (disch := first | exact Zd | fail) only [RR, simprocAttr, LN, fm_app, NN, NT]; done) | rfl
  ·conv => arg 1; simp (disch := first | exact Zd | fail) only [ZZ, d33_at, simprocAttr, h1, e_h2, e_h3]
   refine J.ite (fun h16 => ?_) (fun h16 => ?_)
   ·have h16' := decide_eq_true h16
    have h16'' : decide (x5.fexp ≤ x4.fexp) = false := decide_eq_false (by omega)
    conv => arg 1; simp (disch := first | exact Zd | fail) only [ZZ, d33_at, simprocAttr, h1, e_h2, e_h3, h16'', h16']
    refine J.jmp (t := (x5.fneg, x5.fexp, x5.fsig, x4.fneg, x4.fexp, x4.fsig)) hj2 ?_ ?_
    ·first | rfl | (simp only [LN, NN, NT])
    ·first | (simp (disch := first | exact Zd | fail) only [RR, simprocAttr, LN, NN, NT]; done) | (simp (disch := first | exact Zd | fail) only [RR, simprocAttr, LN, fm_app, NN, NT]; done) | rfl
   ·have h16' := decide_eq_false h16
    have h16'' : decide (x5.fexp ≤ x4.fexp) = true := decide_eq_true (by omega)
    conv => arg 1; simp (disch := first | exact Zd | fail) only [ZZ, d33_at, simprocAttr, h1, e_h2, e_h3, h16'', h16']
    refine J.jmp (t := (x4.fneg, x4.fexp, x4.fsig, x5.fneg, x5.fexp, x5.fsig)) hj2 ?_ ?_
    ·first | rfl | (simp only [LN, NN, NT])
    ·first | (simp (disch := first | exact Zd | fail) only [RR, simprocAttr, LN, NN, NT]; done) | (simp (disch := first | exact Zd | fail) only [RR, simprocAttr, LN, fm_app, NN, NT]; done) | rfl
 ·conv => arg 1; simp (disch := first | exact Zd | fail) only [ZZ, d33_at, simprocAttr, h1, e_h2, e_h3]
  refine J.eq go_seq ?_
  conv => arg 1; simp (disch := first | exact Zd | fail) only [ZZ, d33_at, simprocAttr, h1, e_h2, e_h3]
  refine J.ite (fun h17 => ?_) (fun h17 => ?_)
  ·have h17' : x4.fnan = true := h17
   conv => arg 1; simp (disch := first | exact Zd | fail) only [ZZ, d33_at, simprocAttr, h1, e_h2, e_h3, h17']
   refine J.eq ret_seq ?_
   refine J.some ?_
   simp (maxSteps := 20000000) (disch := first | exact Zd | fail) only [ZZ, d33_at, simprocAttr, h1, e_h2, e_h3, h17', FF, LN, NN, NT]
  ·have h17' : x4.fnan = false := Bool.eq_false_iff.2 h17
   conv => arg 1; simp (disch := first | exact Zd | fail) only [ZZ, d33_at, simprocAttr, h1, e_h2, e_h3, h17']
   refine J.ite (fun h18 => ?_) (fun h18 => ?_)
   ·have h18' : x5.fnan = true := h18
    conv => arg 1; simp (disch := first | exact Zd | fail) only [ZZ, d33_at, simprocAttr, h1, e_h2, e_h3, h17', h18']
    refine J.eq ret_seq ?_
    refine J.some ?_
    simp (maxSteps := 20000000) (disch := first | exact Zd | fail) only [ZZ, d33_at, simprocAttr, h1, e_h2, e_h3, h17', h18', FF, LN, NN, NT]
   ·have h18' : x5.fnan = false := Bool.eq_false_iff.2 h18
    conv => arg 1; simp (disch := first | exact Zd | fail) only [ZZ, d33_at, simprocAttr, h1, e_h2, e_h3, h17', h18']
    refine J.ite (fun h19 => ?_) (fun h19 => ?_)
    ·have h19' : x4.finf = true := h19
     conv => arg 1; simp (disch := first | exact Zd | fail) only [ZZ, d33_at, simprocAttr, h1, e_h2, e_h3, h17', h18', h19']
     refine J.ite (fun h20 => ?_) (fun h20 => ?_)
     ·have h20' : x5.finf = true := h20
      conv => arg 1; simp (disch := first | exact Zd | fail) only [ZZ, d33_at, simprocAttr, h1, e_h2, e_h3, h17', h18', h19', h20']
      refine J.eq ret_seq ?_
      conv => arg 1; simp (disch := first | exact Zd | fail) only [ZZ, d33_at, simprocAttr, h1, e_h2, e_h3, h17', h18', h19', h20']
      refine J.ite (fun h21 => ?_) (fun h21 => ?_)
      ·have h21' : (x4.fneg == x5.fneg) = true := h21
       refine J.some ?_
       simp (maxSteps := 20000000) (disch := first | exact Zd | fail) only [ZZ, d33_at, simprocAttr, h1, e_h2, e_h3, h17', h18', h19', h20', h21', FF, LN, NN, NT]
      ·have h21' : (x4.fneg == x5.fneg) = false := Bool.eq_false_iff.2 h21
       refine J.some ?_
       simp (maxSteps := 20000000) (disch := first | exact Zd | fail) only [ZZ, d33_at, simprocAttr, h1, e_h2, e_h3, h17', h18', h19', h20', h21', FF, LN, NN, NT]
     ·have h20' : x5.finf = false := Bool.eq_false_iff.2 h20
      conv => arg 1; simp (disch := first | exact Zd | fail) only [ZZ, d33_at, simprocAttr, h1, e_h2, e_h3, h17', h18', h19', h20']
      refine J.eq ret_seq ?_
      refine J.some ?_
      simp (maxSteps := 20000000) (disch := first | exact Zd | fail) only [ZZ, d33_at, simprocAttr, h1, e_h2, e_h3, h17', h18', h19', h20', FF, LN, NN, NT]
    ·have h19' : x4.finf = false := Bool.eq_false_iff.2 h19
     conv => arg 1; simp (disch := first | exact Zd | fail) only [ZZ, d33_at, simprocAttr, h1, e_h2, e_h3, h17', h18', h19']
     refine J.eq ret_seq ?_
     conv => arg 1; simp (disch := first | exact Zd | fail) only [ZZ, d33_at, simprocAttr, h1, e_h2, e_h3, h17', h18', h19']
     refine J.ite (fun h22 => ?_) (fun h22 => ?_)
     ·have h22' : x5.finf = true := h22
      refine J.some ?_
      simp (maxSteps := 20000000) (disch := first | exact Zd | fail) only [ZZ, d33_at, simprocAttr, h1, e_h2, e_h3, h17', h18', h19', h22', FF, LN, NN, NT]
     ·have h22' : x5.finf = false := Bool.eq_false_iff.2 h22
      conv => arg 1; simp (disch := first | exact Zd | fail) only [ZZ, d33_at, simprocAttr, h1, e_h2, e_h3, h17', h18', h19', h22']
      refine J.eq go_seq ?_
      conv => arg 1; simp (disch := first | exact Zd | fail) only [ZZ, d33_at, simprocAttr, h1, e_h2, e_h3, h17', h18', h19', h22']
      refine J.ite (fun h23 => ?_) (fun h23 => ?_)
      ·have h23' := decide_eq_true h23
       conv => arg 1; simp (disch := first | exact Zd | fail) only [ZZ, d33_at, simprocAttr, h1, e_h2, e_h3, h17', h18', h19', h22', h23']
       refine J.eq ret_seq ?_
       conv => arg 1; simp (disch := first | exact Zd | fail) only [ZZ, d33_at, simprocAttr, h1, e_h2, e_h3, h17', h18', h19', h22', h23']
       refine J.ite (fun h24 => ?_) (fun h24 => ?_)
       ·have h24' := decide_eq_true h24
        conv => arg 1; simp (disch := first | exact Zd | fail) only [ZZ, d33_at, simprocAttr, h1, e_h2, e_h3, h17', h18', h19', h22', h23', h24']
        refine J.eq go_seq ?_
        conv => arg 1; simp (disch := first | exact Zd | fail) only [ZZ, d33_at, simprocAttr, h1, e_h2, e_h3, h17', h18', h19', h22', h23', h24']
        refine J.ite (fun h25 => ?_) (fun h25 => ?_)
        ·have h25' := decide_eq_true h25
         refine J.some ?_
         simp (maxSteps := 20000000) (disch := first | exact Zd | fail) only [ZZ, d33_at, simprocAttr, h1, e_h2, e_h3, h17', h18', h19', h22', h23', h24', h25', FF, LN, NN, NT]
        ·have h25' := decide_eq_false h25
         conv => arg 1; simp (disch := first | exact Zd | fail) only [ZZ, d33_at, simprocAttr, h1, e_h2, e_h3, h17', h18', h19', h22', h23', h24', h25']
         refine J.eq ret_seq ?_
         refine J.bind fun x21 h26 => ?_
         have e_h26 := H64_0 _ _ h26
         try simp only [NN, NT, LN, simprocAttr, DT] at e_h26
         refine J.some ?_
         simp (maxSteps := 20000000) (disch := first | exact Zd | fail) only [ZZ, d33_at, simprocAttr, h1, e_h2, e_h3, h17', h18', h19', h22', h23', h24', h25', e_h26, FF, LN, NN, NT]
       ·have h24' := decide_eq_false h24
        conv => arg 1; simp (disch := first | exact Zd | fail) only [ZZ, d33_at, simprocAttr, h1, e_h2, e_h3, h17', h18', h19', h22', h23', h24']
        refine J.jmp (t := ()) hj1 ?_ ?_
        ·first | rfl | (simp only [LN, NN, NT])
        ·first | (simp (disch := first | exact Zd | fail) only [RR, simprocAttr, LN, NN, NT]; done) | (simp (disch := first | exact Zd | fail) only [RR, simprocAttr, LN, fm_app, NN, NT]; done) | rfl
      ·have h23' := decide_eq_false h23
       conv => arg 1; simp (disch := first | exact Zd | fail) only [ZZ, d33_at, simprocAttr, h1, e_h2, e_h3, h17', h18', h19', h22', h23']
       refine J.eq ret_seq ?_
       conv => arg 1; simp (disch := first | exact Zd | fail) only [ZZ, d33_at, simprocAttr, h1, e_h2, e_h3, h17', h18', h19', h22', h23']
       refine J.jmp (t := ()) hj1 ?_ ?_
       ·first | rfl | (simp only [LN, NN, NT])
       ·first | (simp (disch := first | exact Zd | fail) only [RR, simprocAttr, LN, NN, NT]; done) | (simp (disch := first | exact Zd | fail) only [RR, simprocAttr, LN, fm_app, NN, NT]; done) | rfl
noncomputable def t33 (fu : Nat) : CallP := orE 63 (mkC (fun (t : Int) => ([.v (.int .u32 t)] : List AV)) (fun t => soft_open fu t) e63) (orE 64 (mkC (fun (t : Int) => ([.v (.int .i64 t)] : List AV)) (fun t => soft_nought fu t) e64) (orE 65 (mkC (fun (t : Int × Bool × Int × Int × Bool) => ([.v (.int .i64 t.1), .v (.bool t.2.1), .v (.int .i64 t.2.2.1), .v (.int .u64 t.2.2.2.1), .v (.bool t.2.2.2.2)] : List AV)) (fun t => soft_Round fu t.1 t.2.1 t.2.2.1 t.2.2.2.1 t.2.2.2.2) e65) (noP)))
theorem t33_ok (fu : Nat) : CpOK Tryz.prog (t33 fu ) := orE_ok (orE_ok (orE_ok (noP_ok) (mkC_ok (fun t b h => ok65 fu t.1 t.2.1 t.2.2.1 t.2.2.2.1 t.2.2.2.2  b h))) (mkC_ok (fun t b h => ok64 fu t  b h))) (mkC_ok (fun t b h => ok63 fu t  b h))
theorem ok33 (fu : Nat) (x1 : Int) (x2 : Int) (x3 : Int) (r) (h : soft_AddBy fu x1 x2 x3 = some r) : PureOK Tryz.prog 33 [.v (.int .i64 x1), .v (.int .u32 x2), .v (.int .u32 x3)] (e33 r) :=
  pure_J mixed (cp := t33 fu ) (t33_ok fu  ) noI_ok i33 (w33 _ fu x1 x2 x3  (fun a0 r h => orE_hit (mkC_at (a := a0) (by intro a b h; first | (exact rfl) | (simp only [INJ, IJ] at h; first | exact h | (simp_all [Prod.ext_iff]) )) h)) (fun a0 r h => orE_miss (by decide) (orE_hit (mkC_at (a := a0) (by intro a b h; first | (exact rfl) | (simp only [INJ, IJ] at h; first | exact h | (simp_all [Prod.ext_iff]) )) h))) (fun a0 a1 a2 a3 a4 r h => orE_miss (by decide) (orE_miss (by decide) (orE_hit (mkC_at (a := (a0, a1, a2, a3, a4)) (by intro a b h; first | (exact rfl) | (simp only [INJ, IJ] at h; first | exact h | (simp_all [Prod.ext_iff]) )) h))))) h
/-! 19: lattice/soft.Add -/
open Aw (d19)
def d19_at := by have h := tabL Aw.d19.eq_1; simp only [AllAt, Nat.zero_add, Nat.reduceAdd] at h; exact h
theorem i19 : finfo Tryz.prog 19 d19 = some ⟨bodyOf Tryz.f19, [.tmp 4], [24]⟩ := finfo_at Tryz.func19 rfl (by kernel_rfl) (by kernel_rfl)
def e19 : Int → AV := fun r => .v (.int .u32 r)
set_option maxHeartbeats 20000000 in
theorem w19 (cp : CallP) (fu : Nat) (x1 : Int) (x2 : Int) (H33_0 : ∀ (a0 : Int) (a1 : Int) (a2 : Int) r, soft_AddBy fu a0 a1 a2 = some r → cp 33 [.v (.int .i64 a0), .v (.int .u32 a1), .v (.int .u32 a2)] = some (.v (.int .u32 r))) : J (go Tryz.prog noC cp noI 0 [] d19 fu (fin Tryz.prog [.tmp 4] [24]) (bodyOf Tryz.f19) (initE 0 [.v (.int .u32 x1), .v (.int .u32 x2)]) [] []) (soft_Add fu x1 x2) e19 := by
 unfold soft_Add e19
 refine J.bind fun x3 h1 => ?_
 have e_h1 := H33_0 _ _ _ _ h1
 try simp only [NN, NT, LN, simprocAttr, DT] at e_h1
 refine J.some ?_
 simp (maxSteps := 20000000) (disch := first | exact Zd | fail) only [bodyOf, Tryz.f19, ZZ, d19_at, simprocAttr, e_h1, FF, LN, NN, NT]
noncomputable def t19 (fu : Nat) : CallP := orE 33 (mkC (fun (t : Int × Int × Int) => ([.v (.int .i64 t.1), .v (.int .u32 t.2.1), .v (.int .u32 t.2.2)] : List AV)) (fun t => soft_AddBy fu t.1 t.2.1 t.2.2) e33) (noP)
theorem t19_ok (fu : Nat) : CpOK Tryz.prog (t19 fu ) := orE_ok (noP_ok) (mkC_ok (fun t b h => ok33 fu t.1 t.2.1 t.2.2  b h))
theorem ok19 (fu : Nat) (x1 : Int) (x2 : Int) (r) (h : soft_Add fu x1 x2 = some r) : PureOK Tryz.prog 19 [.v (.int .u32 x1), .v (.int .u32 x2)] (e19 r) :=
  pure_J mixed (cp := t19 fu ) (t19_ok fu  ) noI_ok i19 (w19 _ fu x1 x2  (fun a0 a1 a2 r h => orE_hit (mkC_at (a := (a0, a1, a2)) (by intro a b h; first | (exact rfl) | (simp only [INJ, IJ] at h; first | exact h | (simp_all [Prod.ext_iff]) )) h))) h
/-! 9: lattice/mat.Dot -/
open Aw (d9)
def d9_at := by have h := tabL Aw.d9.eq_1; simp only [AllAt, Nat.zero_add, Nat.reduceAdd] at h; exact h
theorem i9 : finfo Tryz.prog 9 d9 = some ⟨bodyOf Tryz.f9, [.tmp 4], [24]⟩ := finfo_at Tryz.func9 rfl (by kernel_rfl) (by kernel_rfl)
def e9 : Int → AV := fun r => .v (.int .u32 r)
set_option maxHeartbeats 20000000 in
theorem w9 (cp : CallP) (fu : Nat) (x1 : List Int) (x2 : List Int) (H20_0 : ∀ (a0 : Int) (a1 : Int) r, soft_Mul fu a0 a1 = some r → cp 20 [.v (.int .u32 a0), .v (.int .u32 a1)] = some (.v (.int .u32 r))) (H19_0 : ∀ (a0 : Int) (a1 : Int) r, soft_Add fu a0 a1 = some r → cp 19 [.v (.int .u32 a0), .v (.int .u32 a1)] = some (.v (.int .u32 r))) : J (go Tryz.prog noC cp noI 0 [] d9 fu (fin Tryz.prog [.tmp 4] [24]) (bodyOf Tryz.f9) (initE 0 [.arr x1.length (lm (ik .u32) x1), .arr x2.length (lm (ik .u32) x2)]) [] []) (mat_Dot fu x1 x2) e9 := by
 unfold mat_Dot e9
 conv => arg 1; simp (disch := first | exact Zd | fail) only [bodyOf, Tryz.f9, ZZ, d9_at, simprocAttr]
 refine J.eq go_seq ?_
 conv => arg 1; simp (disch := first | exact Zd | fail) only [ZZ, d9_at, simprocAttr]
 unfold mat_Dot_W1
 refine J.loop (fun (s : Int × Int) => ([(0, .arr x1.length (lm (ik .u32) x1)), (1, .arr x2.length (lm (ik .u32) x2)), (5, .v (.int .u32 s.1)), (11, .v (.int .i64 (imin (x1.length : Int) (x2.length : Int)))), (12, .v (.int .i64 s.2))], [])) (fun next s => mat_Dot_L1 fu x1 x2 (fun x7 x8 => next (x7, x8)) s.1 s.2) (s0 := (0, 0)) ?_ ?_ ?_
 ·first | rfl | (simp only [LN, NN, NT])
 ·first | (simp (disch := first | exact Zd | fail) only [RR, simprocAttr, LN, NN, NT]; done) | (simp (disch := first | exact Zd | fail) only [RR, simprocAttr, LN, fm_app, NN, NT]; done) | rfl
 rintro next k1 hn1 ⟨x7, x8⟩
 let nx1 : Int → Int → Option Int := (fun x7 x8 => next (x7, x8))
 show J _ (mat_Dot_L1 fu x1 x2 nx1 x7 x8) _
 unfold mat_Dot_L1
 conv => arg 1; simp (disch := first | exact Zd | fail) only [ZZ, d9_at, simprocAttr]
 refine J.eq go_seq ?_
 conv => arg 1; simp (disch := first | exact Zd | fail) only [ZZ, d9_at, simprocAttr]
 refine J.ite (fun h1 => ?_) (fun h1 => ?_)
 ·have h1' := decide_eq_true h1
  have h1'' : decide ((imin (x1.length : Int) (x2.length : Int)) ≤ x8) = false := decide_eq_false (by omega)
  conv => arg 1; simp (disch := first | exact Zd | fail) only [ZZ, d9_at, simprocAttr, h1'', h1']
  refine J.eq ret_seq ?_
  refine J.eq go_seq ?_
  refine J.at fun x13 h2 h3 h4 => ?_
  refine J.at fun x14 h5 h6 h7 => ?_
  refine J.bind fun x15 h8 => ?_
  have e_h8 := H20_0 _ _ _ h8
  try simp only [NN, NT, LN, simprocAttr, DT] at e_h8
  refine J.bind fun x16 h9 => ?_
  have e_h9 := H19_0 _ _ _ h9
  try simp only [NN, NT, LN, simprocAttr, DT] at e_h9
  conv => arg 1; simp (disch := first | exact Zd | fail) only [ZZ, d9_at, simprocAttr, h1'', h1', lm_ik h4, lm_ik h7, e_h8, e_h9]
  refine J.eq ret_seq ?_
  conv => arg 1; simp (disch := first | exact Zd | fail) only [ZZ, d9_at, simprocAttr, h1'', h1', lm_ik h4, lm_ik h7, e_h8, e_h9]
  refine J.next (s := (x16, wk .i64 (x8 + 1))) hn1 ?_ ?_
  ·first | rfl | (simp only [LN, NN, NT])
  ·first | (simp (disch := first | exact Zd | fail) only [RR, simprocAttr, LN, NN, NT]; done) | (simp (disch := first | exact Zd | fail) only [RR, simprocAttr, LN, fm_app, NN, NT]; done) | rfl
 ·have h1' := decide_eq_false h1
  have h1'' : decide ((imin (x1.length : Int) (x2.length : Int)) ≤ x8) = true := decide_eq_true (by omega)
  conv => arg 1; simp (disch := first | exact Zd | fail) only [ZZ, d9_at, simprocAttr, h1'', h1']
  refine J.eq ret_seq ?_
  refine J.some ?_
  simp (maxSteps := 20000000) (disch := first | exact Zd | fail) only [ZZ, d9_at, simprocAttr, h1'', h1', FF, LN, NN, NT]
noncomputable def t9 (fu : Nat) : CallP := orE 20 (mkC (fun (t : Int × Int) => ([.v (.int .u32 t.1), .v (.int .u32 t.2)] : List AV)) (fun t => soft_Mul fu t.1 t.2) e20) (orE 19 (mkC (fun (t : Int × Int) => ([.v (.int .u32 t.1), .v (.int .u32 t.2)] : List AV)) (fun t => soft_Add fu t.1 t.2) e19) (noP))
theorem t9_ok (fu : Nat) : CpOK Tryz.prog (t9 fu ) := orE_ok (orE_ok (noP_ok) (mkC_ok (fun t b h => ok19 fu t.1 t.2  b h))) (mkC_ok (fun t b h => ok20 fu t.1 t.2  b h))
theorem ok9 (fu : Nat) (x1 : List Int) (x2 : List Int) (r) (h : mat_Dot fu x1 x2 = some r) : PureOK Tryz.prog 9 [.arr x1.length (lm (ik .u32) x1), .arr x2.length (lm (ik .u32) x2)] (e9 r) :=
  pure_J mixed (cp := t9 fu ) (t9_ok fu  ) noI_ok i9 (w9 _ fu x1 x2  (fun a0 a1 r h => orE_hit (mkC_at (a := (a0, a1)) (by intro a b h; first | (exact rfl) | (simp only [INJ, IJ] at h; first | exact h | (simp_all [Prod.ext_iff]) )) h)) (fun a0 a1 r h => orE_miss (by decide) (orE_hit (mkC_at (a := (a0, a1)) (by intro a b h; first | (exact rfl) | (simp only [INJ, IJ] at h; first | exact h | (simp_all [Prod.ext_iff]) )) h)))) h
/-! 51: lattice/mat.times -/
open Aw (d51)
def d51_at := by have h := tabL Aw.d51.eq_1; simp only [AllAt, Nat.zero_add, Nat.reduceAdd] at h; exact h
noncomputable def b51 : Code := bodyOf Tryz.f51
theorem go_b51 {C : Cfg} {cp : CallP} {ci : CallI} {lvl : Nat} {prot : List Id} {D : List (Nat × List Nat)} {n : Nat} {K : KK} {e : Env} {h : Heap} {fs : List Fr} : go Tryz.prog C cp ci lvl prot D n K b51 e h fs = go Tryz.prog C cp ci lvl prot D n K (bodyOf Tryz.f51) e h fs := rfl
theorem i51 : finfo Tryz.prog 51 d51 = some ⟨b51, [], []⟩ := finfo_at Tryz.func51 rfl (by kernel_rfl) (by kernel_rfl)
/-! 52: lattice/mat.product$1 -/
open Aw (d52)
def d52_at := by have h := tabL Aw.d52.eq_1; simp only [AllAt, Nat.zero_add, Nat.reduceAdd] at h; exact h
noncomputable def b52 : Code := bodyOf Tryz.f52
theorem go_b52 {C : Cfg} {cp : CallP} {ci : CallI} {lvl : Nat} {prot : List Id} {D : List (Nat × List Nat)} {n : Nat} {K : KK} {e : Env} {h : Heap} {fs : List Fr} : go Tryz.prog C cp ci lvl prot D n K b52 e h fs = go Tryz.prog C cp ci lvl prot D n K (bodyOf Tryz.f52) e h fs := rfl
theorem i52 : finfo Tryz.prog 52 d52 = some ⟨b52, [], []⟩ := finfo_at Tryz.func52 rfl (by kernel_rfl) (by kernel_rfl)
/-! 28: lattice/mat.product -/
open Aw (d28)
def d28_at := by have h := tabL Aw.d28.eq_1; simp only [AllAt, Nat.zero_add, Nat.reduceAdd] at h; exact h
theorem i28 : finfo Tryz.prog 28 d28 = some ⟨bodyOf Tryz.f28, [.tmp 4], [22]⟩ := finfo_at Tryz.func28 rfl (by kernel_rfl) (by kernel_rfl)
def e28 : (List Int) → AV := fun r => .fresh 1 r.length (lm (ik .u32) r)
set_option maxHeartbeats 20000000 in
theorem w28 (cp : CallP) (fu : Nat) (x1 : T_Tensor) (x2 : T_Tensor) (H49_0 : ∀ (a0 : List Int) (a1 : List Int) r, shape_Broadcast fu a0 a1 = some r → cp 49 [.arr a0.length (lm (ik .i64) a0), .arr a1.length (lm (ik .i64) a1)] = some (.tuple [.fresh 1 r.1.length (lm (ik .i64) r.1), .v (.int .i64 r.2)])) (H27_0 : ∀ (a0 : List Int) r, shape_Size fu a0 = some r → cp 27 [.arr a0.length (lm (ik .i64) a0)] = some (.tuple [.v (.int .i64 r.1), .v (.int .i64 r.2)])) (H50_0 : ∀ (a0 : List Int) (a1 : List Int) (a2 : Int) r, shape_From fu a0 a1 a2 = some r → cp 50 [.arr a0.length (lm (ik .i64) a0), .arr a1.length (lm (ik .i64) a1), .v (.int .i64 a2)] = some (.tuple [.v (.int .i64 r.1), .v (.int .i64 r.2)])) (H107_0 : ∀ (a0 : T_mat_grid) (a1 : Int) r, mat_grid_down fu a0 a1 = some r → cp 107 [.agg (c_T_mat_grid a0), .v (.int .i64 a1)] = some (.fresh 1 r.length (lm (ik .u32) r))) (H108_0 : ∀ (a0 : T_mat_grid) (a1 : Int) r, mat_grid_across fu a0 a1 = some r → cp 108 [.agg (c_T_mat_grid a0), .v (.int .i64 a1)] = some (.fresh 1 r.length (lm (ik .u32) r))) (H9_0 : ∀ (a0 : List Int) (a1 : List Int) r, mat_Dot fu a0 a1 = some r → cp 9 [.arr a0.length (lm (ik .u32) a0), .arr a1.length (lm (ik .u32) a1)] = some (.v (.int .u32 r))) : J (go Tryz.prog (inlC [51, 52]) cp (ciE Tryz.prog (inlC [51, 52]) cp (ciE Tryz.prog (inlC [51, 52]) cp noI fu 52 d52 ⟨b52, [], []⟩ noI) fu 51 d51 ⟨b51, [], []⟩ (ciE Tryz.prog (inlC [51, 52]) cp noI fu 52 d52 ⟨b52, [], []⟩ noI)) 0 [] d28 fu (fin Tryz.prog [.tmp 4] [22]) (bodyOf Tryz.f28) (initE 0 [.agg (c_T_Tensor x1), .agg (c_T_Tensor x2)]) [] []) (mat_product fu x1 x2) e28 := by
 unfold mat_product e28
 conv => arg 1; simp (disch := first | exact Zd | fail) only [bodyOf, Tryz.f28, ZZ, d28_at, simprocAttr, RI, RIk, initE, RL]
 refine J.joinS (fun (t : List Int) => ([(2, .ptr (0, 2, 0) 0 0), (3, .ptr (0, 3, 0) 0 0), (5, .arr t.length (lm (ik .i64) t)), (6, .arr x2.fDims.length (lm (ik .i64) x2.fDims))], [((0, 2, 0), .bx true ([.v (.int .i64 x1.fType), .arr x1.fDims.length (lm (ik .i64) x1.fDims), .arr x1.fF.length (lm (ik .u32) x1.fF), .arr x1.fI.length (lm (ik .i64) x1.fI), .arr x1.fB.length (lm (bk) x1.fB)])), ((0, 3, 0), .bx true ([.v (.int .i64 x2.fType), .arr x2.fDims.length (lm (ik .i64) x2.fDims), .arr x2.fF.length (lm (ik .u32) x2.fF), .arr x2.fI.length (lm (ik .i64) x2.fI), .arr x2.fB.length (lm (bk) x2.fB)]))])) (fun t => mat_product_k1 fu x1 x2 t) ?_ (fun hj1 => ?_)
 ·rintro x3
  show J _ (mat_product_k1 fu x1 x2 x3) _
  unfold mat_product_k1
  refine J.joinS (fun (t : List Int) => ([(2, .ptr (0, 2, 0) 0 0), (3, .ptr (0, 3, 0) 0 0), (5, .arr x3.length (lm (ik .i64) x3)), (6, .arr t.length (lm (ik .i64) t))], [((0, 2, 0), .bx true ([.v (.int .i64 x1.fType), .arr x1.fDims.length (lm (ik .i64) x1.fDims), .arr x1.fF.length (lm (ik .u32) x1.fF), .arr x1.fI.length (lm (ik .i64) x1.fI), .arr x1.fB.length (lm (bk) x1.fB)])), ((0, 3, 0), .bx true ([.v (.int .i64 x2.fType), .arr x2.fDims.length (lm (ik .i64) x2.fDims), .arr x2.fF.length (lm (ik .u32) x2.fF), .arr x2.fI.length (lm (ik .i64) x2.fI), .arr x2.fB.length (lm (bk) x2.fB)]))])) (fun t => mat_product_k2 fu x1 x2 x3 t) ?_ (fun hj2 => ?_)
  ·rintro x4
   show J _ (mat_product_k2 fu x1 x2 x3 x4) _
   unfold mat_product_k2
   refine J.at fun x5 h1 h2 h3 => ?_
   refine J.at fun x6 h4 h5 h6 => ?_
   refine J.at fun x7 h7 h8 h9 => ?_
   refine J.at fun x8 h10 h11 h12 => ?_
   refine J.chk fun h13 => ?_
   refine J.chk fun h14 => ?_
   refine J.bind fun x9 h15 => ?_
   have e_h15 := H49_0 _ _ _ h15
   try simp only [NN, NT, LN, simprocAttr, DT] at e_h15
   refine J.bind fun x10 h16 => ?_
   have e_h16 := H27_0 _ _ h16
   try simp only [NN, NT, LN, simprocAttr, DT] at e_h16
   conv => arg 1; simp (disch := first | exact Zd | fail) only [ZZ, d28_at, simprocAttr, RI, RIk, initE, RL, lm_ik h3, lm_ik h6, lm_ik h9, lm_ik h12, e_h15, e_h16]
   refine J.eq go_seq ?_
   conv => arg 1; simp (disch := first | exact Zd | fail) only [ZZ, d28_at, simprocAttr, RI, RIk, initE, RL, lm_ik h3, lm_ik h6, lm_ik h9, lm_ik h12, e_h15, e_h16]
   unfold mat_product_W1
   refine J.loop (fun (s : Int × Int × (List Int) × Int) => ([(5, .arr x3.length (lm (ik .i64) x3)), (6, .arr x4.length (lm (ik .i64) x4)), (7, .v (.int .i64 (wk .i64 ((x3.length : Int) - 2)))), (8, .v (.int .i64 (wk .i64 ((x4.length : Int) - 2)))), (9, .ptr (0, 9, 0) 0 0), (10, .ptr (0, 10, 0) 0 0), (11, .own (0, 86, 0) 0 x9.1.length x9.1.length), (15, .ptr (0, 15, 0) 0 0), (94, .v (.int .i64 x10.1)), (95, .v (.int .i64 s.2.2.2))], [((0, 9, 0), .bx true ([.arr x1.fF.length (lm (ik .u32) x1.fF), .v (.int .i64 s.1), .v (.int .i64 x5), .v (.int .i64 1), .v (.int .i64 x6), .v (.int .i64 x5)])), ((0, 10, 0), .bx true ([.arr x2.fF.length (lm (ik .u32) x2.fF), .v (.int .i64 s.2.1), .v (.int .i64 x7), .v (.int .i64 1), .v (.int .i64 x8), .v (.int .i64 x7)])), ((0, 86, 0), .sl true true 1 x9.1.length (lm (ik .i64) x9.1)), ((0, 15, 0), .bx true ([.own (0, 15, 78) 0 s.2.2.1.length s.2.2.1.length])), ((0, 15, 78), .sl true true 1 s.2.2.1.length (lm (ik .u32) s.2.2.1))])) (fun next s => mat_product_L1 fu x1 x2 x3 x4 x5 x6 x7 x8 x9 x10 (fun x48 x49 x50 x51 => next (x48, x49, x50, x51)) s.1 s.2.1 s.2.2.1 s.2.2.2) (s0 := (0, 0, ([] : List Int), 0)) ?_ ?_ ?_
   ·first | rfl | (simp only [LN, NN, NT])
   ·first | (simp (disch := first | exact Zd | fail) only [RR, simprocAttr, LN, NN, NT]; done) | (simp (disch := first | exact Zd | fail) only [RR, simprocAttr, LN, fm_app, NN, NT]; done) | rfl
   rintro next k1 hn1 ⟨x48, x49, x50, x51⟩
   let nx1 : Int → Int → (List Int) → Int → Option (List Int) := (fun x48 x49 x50 x51 => next (x48, x49, x50, x51))
   show J _ (mat_product_L1 fu x1 x2 x3 x4 x5 x6 x7 x8 x9 x10 nx1 x48 x49 x50 x51) _
   unfold mat_product_L1
   conv => arg 1; simp (disch := first | exact Zd | fail) only [ZZ, d28_at, simprocAttr, go_b51, bodyOf, Tryz.f51, d51_at, go_b52, bodyOf, Tryz.f52, d52_at, RI, RIk, initE, RL, lm_ik h3, lm_ik h6, lm_ik h9, lm_ik h12, e_h15, e_h16]
   refine J.eq go_seq ?_
   conv => arg 1; simp (disch := first | exact Zd | fail) only [ZZ, d28_at, simprocAttr, go_b51, bodyOf, Tryz.f51, d51_at, go_b52, bodyOf, Tryz.f52, d52_at, RI, RIk, initE, RL, lm_ik h3, lm_ik h6, lm_ik h9, lm_ik h12, e_h15, e_h16]
   refine J.ite (fun h17 => ?_) (fun h17 => ?_)
   ·have h17' := decide_eq_true h17
    have h17'' : decide (x10.1 ≤ x51) = false := decide_eq_false (by omega)
    conv => arg 1; simp (disch := first | exact Zd | fail) only [ZZ, d28_at, simprocAttr, go_b51, bodyOf, Tryz.f51, d51_at, go_b52, bodyOf, Tryz.f52, d52_at, RI, RIk, initE, RL, lm_ik h3, lm_ik h6, lm_ik h9, lm_ik h12, e_h15, e_h16, h17'', h17']
    refine J.eq ret_seq ?_
    refine J.eq go_seq ?_
    refine J.bind fun x89 h18 => ?_
    have e_h18 := H50_0 _ _ _ _ h18
    try simp only [NN, NT, LN, simprocAttr, DT] at e_h18
    refine J.bind fun x90 h19 => ?_
    have e_h19 := H50_0 _ _ _ _ h19
    try simp only [NN, NT, LN, simprocAttr, DT] at e_h19
    conv => arg 1; simp (disch := first | exact Zd | fail) only [ZZ, d28_at, simprocAttr, go_b51, bodyOf, Tryz.f51, d51_at, go_b52, bodyOf, Tryz.f52, d52_at, RI, RIk, initE, RL, lm_ik h3, lm_ik h6, lm_ik h9, lm_ik h12, e_h15, e_h16, h17'', h17', e_h18, e_h19]
    refine J.joinS (fun (t : List (List Int)) => ([(2, .fn 52 [] [.ptr (0, 15, 0) 0 0]), (3, .ptr (1, 3, 0) 0 0), (6, .own (1, 6, 77) 0 t.length t.length)], [((0, 9, 0), .bx true ([.arr x1.fF.length (lm (ik .u32) x1.fF), .v (.int .i64 (wk .i64 ((wk .i64 (x89.1 * x6)) * x5))), .v (.int .i64 x5), .v (.int .i64 1), .v (.int .i64 x6), .v (.int .i64 x5)])), ((0, 10, 0), .bx true ([.arr x2.fF.length (lm (ik .u32) x2.fF), .v (.int .i64 (wk .i64 ((wk .i64 (x90.1 * x8)) * x7))), .v (.int .i64 x7), .v (.int .i64 1), .v (.int .i64 x8), .v (.int .i64 x7)])), ((0, 86, 0), .sl true true 1 x9.1.length (lm (ik .i64) x9.1)), ((0, 15, 0), .bx true ([.own (0, 15, 78) 0 x50.length x50.length])), ((0, 15, 78), .sl true true 1 x50.length (lm (ik .u32) x50)), ((1, 3, 0), .bx true ([.arr x1.fF.length (lm (ik .u32) x1.fF), .v (.int .i64 (wk .i64 ((wk .i64 (x89.1 * x6)) * x5))), .v (.int .i64 x5), .v (.int .i64 1), .v (.int .i64 x6), .v (.int .i64 x5)])), ((1, 4, 0), .bx true ([.arr x2.fF.length (lm (ik .u32) x2.fF), .v (.int .i64 (wk .i64 ((wk .i64 (x90.1 * x8)) * x7))), .v (.int .i64 x7), .v (.int .i64 1), .v (.int .i64 x8), .v (.int .i64 x7)])), ((1, 6, 77), .sl true true 1 t.length (lm (avl (ik .u32)) t))])) (fun t => mat_product_k3 fu nx1 x1 x5 x6 x7 x8 x50 x51 x89 x90 t) ?_ (fun hj3 => ?_)
    ·rintro x91
     show J _ (mat_product_k3 fu nx1 x1 x5 x6 x7 x8 x50 x51 x89 x90 x91) _
     unfold mat_product_k3
     conv => arg 1; simp (disch := first | exact Zd | fail) only [ZZ, d28_at, simprocAttr, go_b51, bodyOf, Tryz.f51, d51_at, go_b52, bodyOf, Tryz.f52, d52_at, RI, RIk, initE, RL, lm_ik h3, lm_ik h6, lm_ik h9, lm_ik h12, e_h15, e_h16, h17'', h17', e_h18, e_h19]
     unfold mat_product_W2
     refine J.loop (fun (s : (List Int) × Int) => ([(2, .fn 52 [] [.ptr (0, 15, 0) 0 0]), (3, .ptr (1, 3, 0) 0 0), (6, .own (1, 6, 77) 0 x91.length x91.length), (25, .v (.int .i64 x6)), (26, .v (.int .i64 s.2))], [((0, 9, 0), .bx true ([.arr x1.fF.length (lm (ik .u32) x1.fF), .v (.int .i64 (wk .i64 ((wk .i64 (x89.1 * x6)) * x5))), .v (.int .i64 x5), .v (.int .i64 1), .v (.int .i64 x6), .v (.int .i64 x5)])), ((0, 10, 0), .bx true ([.arr x2.fF.length (lm (ik .u32) x2.fF), .v (.int .i64 (wk .i64 ((wk .i64 (x90.1 * x8)) * x7))), .v (.int .i64 x7), .v (.int .i64 1), .v (.int .i64 x8), .v (.int .i64 x7)])), ((0, 86, 0), .sl true true 1 x9.1.length (lm (ik .i64) x9.1)), ((0, 15, 0), .bx true ([.own (0, 15, 78) 0 s.1.length s.1.length])), ((0, 15, 78), .sl true true 1 s.1.length (lm (ik .u32) s.1)), ((1, 3, 0), .bx true ([.arr x1.fF.length (lm (ik .u32) x1.fF), .v (.int .i64 (wk .i64 ((wk .i64 (x89.1 * x6)) * x5))), .v (.int .i64 x5), .v (.int .i64 1), .v (.int .i64 x6), .v (.int .i64 x5)])), ((1, 6, 77), .sl true true 1 x91.length (lm (avl (ik .u32)) x91))])) (fun next s => mat_product_L2 fu nx1 x1 x5 x6 x7 x8 x51 x89 x90 x91 (fun x101 x102 => next (x101, x102)) s.1 s.2) (s0 := (x50, 0)) ?_ ?_ ?_
     ·first | rfl | (simp only [LN, NN, NT])
     ·first | (simp (disch := first | exact Zd | fail) only [RR, simprocAttr, LN, NN, NT]; done) | (simp (disch := first | exact Zd | fail) only [RR, simprocAttr, LN, fm_app, NN, NT]; done) | rfl
     rintro next k2 hn2 ⟨x101, x102⟩
     let nx2 : (List Int) → Int → Option (List Int) := (fun x101 x102 => next (x101, x102))
     show J _ (mat_product_L2 fu nx1 x1 x5 x6 x7 x8 x51 x89 x90 x91 nx2 x101 x102) _
     unfold mat_product_L2
     conv => arg 1; simp (disch := first | exact Zd | fail) only [ZZ, d28_at, simprocAttr, go_b51, bodyOf, Tryz.f51, d51_at, go_b52, bodyOf, Tryz.f52, d52_at, RI, RIk, initE, RL, lm_ik h3, lm_ik h6, lm_ik h9, lm_ik h12, e_h15, e_h16, h17'', h17', e_h18, e_h19]
     refine J.eq go_seq ?_
     conv => arg 1; simp (disch := first | exact Zd | fail) only [ZZ, d28_at, simprocAttr, go_b51, bodyOf, Tryz.f51, d51_at, go_b52, bodyOf, Tryz.f52, d52_at, RI, RIk, initE, RL, lm_ik h3, lm_ik h6, lm_ik h9, lm_ik h12, e_h15, e_h16, h17'', h17', e_h18, e_h19]
     refine J.ite (fun h20 => ?_) (fun h20 => ?_)
     ·have h20' := decide_eq_true h20
      have h20'' : decide (x6 ≤ x102) = false := decide_eq_false (by omega)
      conv => arg 1; simp (disch := first | exact Zd | fail) only [ZZ, d28_at, simprocAttr, go_b51, bodyOf, Tryz.f51, d51_at, go_b52, bodyOf, Tryz.f52, d52_at, RI, RIk, initE, RL, lm_ik h3, lm_ik h6, lm_ik h9, lm_ik h12, e_h15, e_h16, h17'', h17', e_h18, e_h19, h20'', h20']
      refine J.eq ret_seq ?_
      refine J.eq go_seq ?_
      refine J.bind fun x112 h21 => ?_
      have e_h21 := H108_0 _ _ _ h21
      try simp only [NN, NT, LN, simprocAttr, DT] at e_h21
      conv => arg 1; simp (disch := first | exact Zd | fail) only [ZZ, d28_at, simprocAttr, go_b51, bodyOf, Tryz.f51, d51_at, go_b52, bodyOf, Tryz.f52, d52_at, RI, RIk, initE, RL, lm_ik h3, lm_ik h6, lm_ik h9, lm_ik h12, e_h15, e_h16, h17'', h17', e_h18, e_h19, h20'', h20', e_h21]
      unfold mat_product_W3
      refine J.loop (fun (s : (List Int) × Int) => ([(2, .fn 52 [] [.ptr (0, 15, 0) 0 0]), (3, .ptr (1, 3, 0) 0 0), (6, .own (1, 6, 77) 0 x91.length x91.length), (9, .own (1, 31, 0) 0 x112.length x112.length), (25, .v (.int .i64 x6)), (26, .v (.int .i64 x102)), (32, .own (1, 6, 77) 0 x91.length x91.length), (33, .v (.int .i64 (x91.length : Int))), (34, .v (.int .i64 s.2))], [((0, 9, 0), .bx true ([.arr x1.fF.length (lm (ik .u32) x1.fF), .v (.int .i64 (wk .i64 ((wk .i64 (x89.1 * x6)) * x5))), .v (.int .i64 x5), .v (.int .i64 1), .v (.int .i64 x6), .v (.int .i64 x5)])), ((0, 10, 0), .bx true ([.arr x2.fF.length (lm (ik .u32) x2.fF), .v (.int .i64 (wk .i64 ((wk .i64 (x90.1 * x8)) * x7))), .v (.int .i64 x7), .v (.int .i64 1), .v (.int .i64 x8), .v (.int .i64 x7)])), ((0, 86, 0), .sl true true 1 x9.1.length (lm (ik .i64) x9.1)), ((0, 15, 0), .bx true ([.own (0, 15, 78) 0 s.1.length s.1.length])), ((0, 15, 78), .sl true true 1 s.1.length (lm (ik .u32) s.1)), ((1, 3, 0), .bx true ([.arr x1.fF.length (lm (ik .u32) x1.fF), .v (.int .i64 (wk .i64 ((wk .i64 (x89.1 * x6)) * x5))), .v (.int .i64 x5), .v (.int .i64 1), .v (.int .i64 x6), .v (.int .i64 x5)])), ((1, 6, 77), .sl true true 1 x91.length (lm (avl (ik .u32)) x91)), ((1, 31, 0), .sl true true 1 x112.length (lm (ik .u32) x112))])) (fun next s => mat_product_L3 fu nx2 x91 x102 x112 (fun x115 x116 => next (x115, x116)) s.1 s.2) (s0 := (x101, 0)) ?_ ?_ ?_
      ·first | rfl | (simp only [LN, NN, NT])
      ·first | (simp (disch := first | exact Zd | fail) only [RR, simprocAttr, LN, NN, NT]; done) | (simp (disch := first | exact Zd | fail) only [RR, simprocAttr, LN, fm_app, NN, NT]; done) | rfl
      rintro next k3 hn3 ⟨x115, x116⟩
      let nx3 : (List Int) → Int → Option (List Int) := (fun x115 x116 => next (x115, x116))
      show J _ (mat_product_L3 fu nx2 x91 x102 x112 nx3 x115 x116) _
      unfold mat_product_L3
      conv => arg 1; simp (disch := first | exact Zd | fail) only [ZZ, d28_at, simprocAttr, go_b51, bodyOf, Tryz.f51, d51_at, go_b52, bodyOf, Tryz.f52, d52_at, RI, RIk, initE, RL, lm_ik h3, lm_ik h6, lm_ik h9, lm_ik h12, e_h15, e_h16, h17'', h17', e_h18, e_h19, h20'', h20', e_h21]
      refine J.eq go_seq ?_
      conv => arg 1; simp (disch := first | exact Zd | fail) only [ZZ, d28_at, simprocAttr, go_b51, bodyOf, Tryz.f51, d51_at, go_b52, bodyOf, Tryz.f52, d52_at, RI, RIk, initE, RL, lm_ik h3, lm_ik h6, lm_ik h9, lm_ik h12, e_h15, e_h16, h17'', h17', e_h18, e_h19, h20'', h20', e_h21]
      refine J.ite (fun h22 => ?_) (fun h22 => ?_)
      ·have h22' := decide_eq_true h22
       have h22'' : decide ((x91.length : Int) ≤ x116) = false := decide_eq_false (by omega)
       conv => arg 1; simp (disch := first | exact Zd | fail) only [ZZ, d28_at, simprocAttr, go_b51, bodyOf, Tryz.f51, d51_at, go_b52, bodyOf, Tryz.f52, d52_at, RI, RIk, initE, RL, lm_ik h3, lm_ik h6, lm_ik h9, lm_ik h12, e_h15, e_h16, h17'', h17', e_h18, e_h19, h20'', h20', e_h21, h22'', h22']
       refine J.eq ret_seq ?_
       refine J.eq go_seq ?_
       refine J.at fun x119 h23 h24 h25 => ?_
       refine J.bind fun x120 h26 => ?_
       have e_h26 := H9_0 _ _ _ h26
       try simp only [NN, NT, LN, simprocAttr, DT] at e_h26
       refine J.chk fun h27 => ?_
       conv => arg 1; simp (disch := first | exact Zd | fail) only [ZZ, d28_at, simprocAttr, go_b51, bodyOf, Tryz.f51, d51_at, go_b52, bodyOf, Tryz.f52, d52_at, RI, RIk, initE, RL, lm_ik h3, lm_ik h6, lm_ik h9, lm_ik h12, e_h15, e_h16, h17'', h17', e_h18, e_h19, h20'', h20', e_h21, h22'', h22', lm_avl h25, e_h26]
       refine J.eq ret_seq ?_
       conv => arg 1; simp (disch := first | exact Zd | fail) only [ZZ, d28_at, simprocAttr, go_b51, bodyOf, Tryz.f51, d51_at, go_b52, bodyOf, Tryz.f52, d52_at, RI, RIk, initE, RL, lm_ik h3, lm_ik h6, lm_ik h9, lm_ik h12, e_h15, e_h16, h17'', h17', e_h18, e_h19, h20'', h20', e_h21, h22'', h22', lm_avl h25, e_h26]
       refine J.next (s := (x115 ++ ([x120]), wk .i64 (x116 + 1))) hn3 ?_ ?_
       ·first | rfl | (simp only [LN, NN, NT])
       ·first | (simp (disch := first | exact Zd | fail) only [RR, simprocAttr, LN, NN, NT]; done) | (simp (disch := first | exact Zd | fail) only [RR, simprocAttr, LN, fm_app, NN, NT]; done) | rfl
      ·have h22' := decide_eq_false h22
       have h22'' : decide ((x91.length : Int) ≤ x116) = true := decide_eq_true (by omega)
       conv => arg 1; simp (disch := first | exact Zd | fail) only [ZZ, d28_at, simprocAttr, go_b51, bodyOf, Tryz.f51, d51_at, go_b52, bodyOf, Tryz.f52, d52_at, RI, RIk, initE, RL, lm_ik h3, lm_ik h6, lm_ik h9, lm_ik h12, e_h15, e_h16, h17'', h17', e_h18, e_h19, h20'', h20', e_h21, h22'', h22']
       refine J.eq ret_seq ?_
       conv => arg 1; simp (disch := first | exact Zd | fail) only [ZZ, d28_at, simprocAttr, go_b51, bodyOf, Tryz.f51, d51_at, go_b52, bodyOf, Tryz.f52, d52_at, RI, RIk, initE, RL, lm_ik h3, lm_ik h6, lm_ik h9, lm_ik h12, e_h15, e_h16, h17'', h17', e_h18, e_h19, h20'', h20', e_h21, h22'', h22']
       refine J.next (s := (x115, wk .i64 (x102 + 1))) hn2 ?_ ?_
       ·first | rfl | (simp only [LN, NN, NT])
       ·first | (simp (disch := first | exact Zd | fail) only [RR, simprocAttr, LN, NN, NT]; done) | (simp (disch := first | exact Zd | fail) only [RR, simprocAttr, LN, fm_app, NN, NT]; done) | rfl
     ·have h20' := decide_eq_false h20
      have h20'' : decide (x6 ≤ x102) = true := decide_eq_true (by omega)
      conv => arg 1; simp (disch := first | exact Zd | fail) only [ZZ, d28_at, simprocAttr, go_b51, bodyOf, Tryz.f51, d51_at, go_b52, bodyOf, Tryz.f52, d52_at, RI, RIk, initE, RL, lm_ik h3, lm_ik h6, lm_ik h9, lm_ik h12, e_h15, e_h16, h17'', h17', e_h18, e_h19, h20'', h20']
      refine J.eq ret_seq ?_
      conv => arg 1; simp (disch := first | exact Zd | fail) only [ZZ, d28_at, simprocAttr, go_b51, bodyOf, Tryz.f51, d51_at, go_b52, bodyOf, Tryz.f52, d52_at, RI, RIk, initE, RL, lm_ik h3, lm_ik h6, lm_ik h9, lm_ik h12, e_h15, e_h16, h17'', h17', e_h18, e_h19, h20'', h20']
      refine J.next (s := (wk .i64 ((wk .i64 (x89.1 * x6)) * x5), wk .i64 ((wk .i64 (x90.1 * x8)) * x7), x101, wk .i64 (x51 + 1))) hn1 ?_ ?_
      ·first | rfl | (simp only [LN, NN, NT])
      ·first | (simp (disch := first | exact Zd | fail) only [RR, simprocAttr, LN, NN, NT]; done) | (simp (disch := first | exact Zd | fail) only [RR, simprocAttr, LN, fm_app, NN, NT]; done) | rfl
    ·conv => arg 1; simp (disch := first | exact Zd | fail) only [ZZ, d28_at, simprocAttr, go_b51, bodyOf, Tryz.f51, d51_at, go_b52, bodyOf, Tryz.f52, d52_at, RI, RIk, initE, RL, lm_ik h3, lm_ik h6, lm_ik h9, lm_ik h12, e_h15, e_h16, h17'', h17', e_h18, e_h19]
     unfold mat_product_W4
     refine J.loop (fun (s : (List (List Int)) × Int) => ([(2, .fn 52 [] [.ptr (0, 15, 0) 0 0]), (3, .ptr (1, 3, 0) 0 0), (4, .ptr (1, 4, 0) 0 0), (6, .own (1, 6, 77) 0 s.1.length s.1.length), (13, .v (.int .i64 x7)), (14, .v (.int .i64 s.2))], [((0, 9, 0), .bx true ([.arr x1.fF.length (lm (ik .u32) x1.fF), .v (.int .i64 (wk .i64 ((wk .i64 (x89.1 * x6)) * x5))), .v (.int .i64 x5), .v (.int .i64 1), .v (.int .i64 x6), .v (.int .i64 x5)])), ((0, 10, 0), .bx true ([.arr x2.fF.length (lm (ik .u32) x2.fF), .v (.int .i64 (wk .i64 ((wk .i64 (x90.1 * x8)) * x7))), .v (.int .i64 x7), .v (.int .i64 1), .v (.int .i64 x8), .v (.int .i64 x7)])), ((0, 86, 0), .sl true true 1 x9.1.length (lm (ik .i64) x9.1)), ((0, 15, 0), .bx true ([.own (0, 15, 78) 0 x50.length x50.length])), ((0, 15, 78), .sl true true 1 x50.length (lm (ik .u32) x50)), ((1, 3, 0), .bx true ([.arr x1.fF.length (lm (ik .u32) x1.fF), .v (.int .i64 (wk .i64 ((wk .i64 (x89.1 * x6)) * x5))), .v (.int .i64 x5), .v (.int .i64 1), .v (.int .i64 x6), .v (.int .i64 x5)])), ((1, 4, 0), .bx true ([.arr x2.fF.length (lm (ik .u32) x2.fF), .v (.int .i64 (wk .i64 ((wk .i64 (x90.1 * x8)) * x7))), .v (.int .i64 x7), .v (.int .i64 1), .v (.int .i64 x8), .v (.int .i64 x7)])), ((1, 6, 77), .sl true true 1 s.1.length (lm (avl (ik .u32)) s.1))])) (fun next s => mat_product_L4 fu nx1 x1 x2 x5 x6 x7 x8 x50 x51 x89 x90 (fun x122 x123 => next (x122, x123)) s.1 s.2) (s0 := (([] : List (List Int)), 0)) ?_ ?_ ?_
     ·first | rfl | (simp only [LN, NN, NT])
     ·first | (simp (disch := first | exact Zd | fail) only [RR, simprocAttr, LN, NN, NT]; done) | (simp (disch := first | exact Zd | fail) only [RR, simprocAttr, LN, fm_app, NN, NT]; done) | rfl
     rintro next k4 hn4 ⟨x122, x123⟩
     let nx4 : (List (List Int)) → Int → Option (List Int) := (fun x122 x123 => next (x122, x123))
     show J _ (mat_product_L4 fu nx1 x1 x2 x5 x6 x7 x8 x50 x51 x89 x90 nx4 x122 x123) _
     unfold mat_product_L4
     conv => arg 1; simp (disch := first | exact Zd | fail) only [ZZ, d28_at, simprocAttr, go_b51, bodyOf, Tryz.f51, d51_at, go_b52, bodyOf, Tryz.f52, d52_at, RI, RIk, initE, RL, lm_ik h3, lm_ik h6, lm_ik h9, lm_ik h12, e_h15, e_h16, h17'', h17', e_h18, e_h19]
     refine J.eq go_seq ?_
     conv => arg 1; simp (disch := first | exact Zd | fail) only [ZZ, d28_at, simprocAttr, go_b51, bodyOf, Tryz.f51, d51_at, go_b52, bodyOf, Tryz.f52, d52_at, RI, RIk, initE, RL, lm_ik h3, lm_ik h6, lm_ik h9, lm_ik h12, e_h15, e_h16, h17'', h17', e_h18, e_h19]
     refine J.ite (fun h28 => ?_) (fun h28 => ?_)
     ·have h28' := decide_eq_true h28
      have h28'' : decide (x7 ≤ x123) = false := decide_eq_false (by omega)
      conv => arg 1; simp (disch := first | exact Zd | fail) only [ZZ, d28_at, simprocAttr, go_b51, bodyOf, Tryz.f51, d51_at, go_b52, bodyOf, Tryz.f52, d52_at, RI, RIk, initE, RL, lm_ik h3, lm_ik h6, lm_ik h9, lm_ik h12, e_h15, e_h16, h17'', h17', e_h18, e_h19, h28'', h28']
      refine J.eq ret_seq ?_
      refine J.eq go_seq ?_
      refine J.bind fun x125 h29 => ?_
      have e_h29 := H107_0 _ _ _ h29
      try simp only [NN, NT, LN, simprocAttr, DT] at e_h29
      refine J.chk fun h30 => ?_
      conv => arg 1; simp (disch := first | exact Zd | fail) only [ZZ, d28_at, simprocAttr, go_b51, bodyOf, Tryz.f51, d51_at, go_b52, bodyOf, Tryz.f52, d52_at, RI, RIk, initE, RL, lm_ik h3, lm_ik h6, lm_ik h9, lm_ik h12, e_h15, e_h16, h17'', h17', e_h18, e_h19, h28'', h28', e_h29]
      refine J.eq ret_seq ?_
      conv => arg 1; simp (disch := first | exact Zd | fail) only [ZZ, d28_at, simprocAttr, go_b51, bodyOf, Tryz.f51, d51_at, go_b52, bodyOf, Tryz.f52, d52_at, RI, RIk, initE, RL, lm_ik h3, lm_ik h6, lm_ik h9, lm_ik h12, e_h15, e_h16, h17'', h17', e_h18, e_h19, h28'', h28', e_h29]
      refine J.next (s := (x122 ++ ([x125]), wk .i64 (x123 + 1))) hn4 ?_ ?_
      ·first | rfl | (simp only [LN, NN, NT])
      ·first | (simp (disch := first | exact Zd | fail) only [RR, simprocAttr, LN, NN, NT]; done) | (simp (disch := first | exact Zd | fail) only [RR, simprocAttr, LN, fm_app, NN, NT]; done) | rfl
     ·have h28' := decide_eq_false h28
      have h28'' : decide (x7 ≤ x123) = true := decide_eq_true (by omega)
      conv => arg 1; simp (disch := first | exact Zd | fail) only [ZZ, d28_at, simprocAttr, go_b51, bodyOf, Tryz.f51, d51_at, go_b52, bodyOf, Tryz.f52, d52_at, RI, RIk, initE, RL, lm_ik h3, lm_ik h6, lm_ik h9, lm_ik h12, e_h15, e_h16, h17'', h17', e_h18, e_h19, h28'', h28']
      refine J.jmp (t := x122) hj3 ?_ ?_
      ·first | rfl | (simp only [LN, NN, NT])
      ·first | (simp (disch := first | exact Zd | fail) only [RR, simprocAttr, LN, NN, NT]; done) | (simp (disch := first | exact Zd | fail) only [RR, simprocAttr, LN, fm_app, NN, NT]; done) | rfl
   ·have h17' := decide_eq_false h17
    have h17'' : decide (x10.1 ≤ x51) = true := decide_eq_true (by omega)
    conv => arg 1; simp (disch := first | exact Zd | fail) only [ZZ, d28_at, simprocAttr, go_b51, bodyOf, Tryz.f51, d51_at, go_b52, bodyOf, Tryz.f52, d52_at, RI, RIk, initE, RL, lm_ik h3, lm_ik h6, lm_ik h9, lm_ik h12, e_h15, e_h16, h17'', h17']
    refine J.eq ret_seq ?_
    refine J.some ?_
    simp (maxSteps := 20000000) (disch := first | exact Zd | fail) only [ZZ, d28_at, simprocAttr, go_b51, bodyOf, Tryz.f51, d51_at, go_b52, bodyOf, Tryz.f52, d52_at, RI, RIk, initE, RL, lm_ik h3, lm_ik h6, lm_ik h9, lm_ik h12, e_h15, e_h16, h17'', h17', FF, LN, NN, NT]
  ·conv => arg 1; simp (disch := first | exact Zd | fail) only [ZZ, d28_at, simprocAttr, go_b51, bodyOf, Tryz.f51, d51_at, go_b52, bodyOf, Tryz.f52, d52_at, RI, RIk, initE, RL]
   refine J.ite (fun h31 => ?_) (fun h31 => ?_)
   ·have h31' := decide_eq_true h31
    refine J.at fun x126 h32 h33 h34 => ?_
    replace h34 : x2.fDims[0]? = some x126 := h34
    conv => arg 1; simp (disch := first | exact Zd | fail) only [ZZ, d28_at, simprocAttr, go_b51, bodyOf, Tryz.f51, d51_at, go_b52, bodyOf, Tryz.f52, d52_at, RI, RIk, initE, RL, h31', lm_ik h34]
    refine J.jmp (t := [x126, 1]) hj2 ?_ ?_
    ·first | rfl | (simp only [LN, NN, NT])
    ·first | (simp (disch := first | exact Zd | fail) only [RR, simprocAttr, LN, NN, NT]; done) | (simp (disch := first | exact Zd | fail) only [RR, simprocAttr, LN, fm_app, NN, NT]; done) | rfl
   ·have h31' := decide_eq_false h31
    conv => arg 1; simp (disch := first | exact Zd | fail) only [ZZ, d28_at, simprocAttr, go_b51, bodyOf, Tryz.f51, d51_at, go_b52, bodyOf, Tryz.f52, d52_at, RI, RIk, initE, RL, h31']
    refine J.jmp (t := x2.fDims) hj2 ?_ ?_
    ·first | rfl | (simp only [LN, NN, NT])
    ·first | (simp (disch := first | exact Zd | fail) only [RR, simprocAttr, LN, NN, NT]; done) | (simp (disch := first | exact Zd | fail) only [RR, simprocAttr, LN, fm_app, NN, NT]; done) | rfl
 ·conv => arg 1; simp (disch := first | exact Zd | fail) only [ZZ, d28_at, simprocAttr, go_b51, bodyOf, Tryz.f51, d51_at, go_b52, bodyOf, Tryz.f52, d52_at, RI, RIk, initE, RL]
  refine J.ite (fun h35 => ?_) (fun h35 => ?_)
  ·have h35' := decide_eq_true h35
   refine J.at fun x127 h36 h37 h38 => ?_
   replace h38 : x1.fDims[0]? = some x127 := h38
   conv => arg 1; simp (disch := first | exact Zd | fail) only [ZZ, d28_at, simprocAttr, go_b51, bodyOf, Tryz.f51, d51_at, go_b52, bodyOf, Tryz.f52, d52_at, RI, RIk, initE, RL, h35', lm_ik h38]
   refine J.jmp (t := [1, x127]) hj1 ?_ ?_
   ·first | rfl | (simp only [LN, NN, NT])
   ·first | (simp (disch := first | exact Zd | fail) only [RR, simprocAttr, LN, NN, NT]; done) | (simp (disch := first | exact Zd | fail) only [RR, simprocAttr, LN, fm_app, NN, NT]; done) | rfl
  ·have h35' := decide_eq_false h35
   conv => arg 1; simp (disch := first | exact Zd | fail) only [ZZ, d28_at, simprocAttr, go_b51, bodyOf, Tryz.f51, d51_at, go_b52, bodyOf, Tryz.f52, d52_at, RI, RIk, initE, RL, h35']
   refine J.jmp (t := x1.fDims) hj1 ?_ ?_
   ·first | rfl | (simp only [LN, NN, NT])
   ·first | (simp (disch := first | exact Zd | fail) only [RR, simprocAttr, LN, NN, NT]; done) | (simp (disch := first | exact Zd | fail) only [RR, simprocAttr, LN, fm_app, NN, NT]; done) | rfl
noncomputable def t28 (fu : Nat) : CallP := orE 49 (mkC (fun (t : (List Int) × (List Int)) => ([.arr t.1.length (lm (ik .i64) t.1), .arr t.2.length (lm (ik .i64) t.2)] : List AV)) (fun t => shape_Broadcast fu t.1 t.2) e49) (orE 27 (mkC (fun (t : List Int) => ([.arr t.length (lm (ik .i64) t)] : List AV)) (fun t => shape_Size fu t) e27) (orE 50 (mkC (fun (t : (List Int) × (List Int) × Int) => ([.arr t.1.length (lm (ik .i64) t.1), .arr t.2.1.length (lm (ik .i64) t.2.1), .v (.int .i64 t.2.2)] : List AV)) (fun t => shape_From fu t.1 t.2.1 t.2.2) e50) (orE 107 (mkC (fun (t : T_mat_grid × Int) => ([.agg (c_T_mat_grid t.1), .v (.int .i64 t.2)] : List AV)) (fun t => mat_grid_down fu t.1 t.2) e107) (orE 108 (mkC (fun (t : T_mat_grid × Int) => ([.agg (c_T_mat_grid t.1), .v (.int .i64 t.2)] : List AV)) (fun t => mat_grid_across fu t.1 t.2) e108) (orE 9 (mkC (fun (t : (List Int) × (List Int)) => ([.arr t.1.length (lm (ik .u32) t.1), .arr t.2.length (lm (ik .u32) t.2)] : List AV)) (fun t => mat_Dot fu t.1 t.2) e9) (noP))))))
theorem t28_ok (fu : Nat) : CpOK Tryz.prog (t28 fu ) := orE_ok (orE_ok (orE_ok (orE_ok (orE_ok (orE_ok (noP_ok) (mkC_ok (fun t b h => ok9 fu t.1 t.2  b h))) (mkC_ok (fun t b h => ok108 fu t.1 t.2  b h))) (mkC_ok (fun t b h => ok107 fu t.1 t.2  b h))) (mkC_ok (fun t b h => ok50 fu t.1 t.2.1 t.2.2  b h))) (mkC_ok (fun t b h => ok27 fu t  b h))) (mkC_ok (fun t b h => ok49 fu t.1 t.2  b h))
theorem ok28 (fu : Nat) (x1 : T_Tensor) (x2 : T_Tensor) (r) (h : mat_product fu x1 x2 = some r) : PureOK Tryz.prog 28 [.agg (c_T_Tensor x1), .agg (c_T_Tensor x2)] (e28 r) :=
  pure_J mixed (cp := t28 fu ) (t28_ok fu  ) (ciE_ok mixed (t28_ok fu  ) (ciE_ok mixed (t28_ok fu  ) noI_ok i52 noI_ok) i51 (ciE_ok mixed (t28_ok fu  ) noI_ok i52 noI_ok)) i28 (w28 _ fu x1 x2  (fun a0 a1 r h => orE_hit (mkC_at (a := (a0, a1)) (by intro a b h; first | (exact rfl) | (simp only [INJ, IJ] at h; first | exact h | (simp_all [Prod.ext_iff]) )) h)) (fun a0 r h => orE_miss (by decide) (orE_hit (mkC_at (a := a0) (by intro a b h; first | (exact rfl) | (simp only [INJ, IJ] at h; first | exact h | (simp_all [Prod.ext_iff]) )) h))) (fun a0 a1 a2 r h => orE_miss (by decide) (orE_miss (by decide) (orE_hit (mkC_at (a := (a0, a1, a2)) (by intro a b h; first | (exact rfl) | (simp only [INJ, IJ] at h; first | exact h | (simp_all [Prod.ext_iff]) )) h)))) (fun a0 a1 r h => orE_miss (by decide) (orE_miss (by decide) (orE_miss (by decide) (orE_hit (mkC_at (a := (a0, a1)) (by intro a b h; first | (exact rfl) | (simp only [INJ, IJ] at h; first | exact h | (simp_all [Prod.ext_iff]) )) h))))) (fun a0 a1 r h => orE_miss (by decide) (orE_miss (by decide) (orE_miss (by decide) (orE_miss (by decide) (orE_hit (mkC_at (a := (a0, a1)) (by intro a b h; first | (exact rfl) | (simp only [INJ, IJ] at h; first | exact h | (simp_all [Prod.ext_iff]) )) h)))))) (fun a0 a1 r h => orE_miss (by decide) (orE_miss (by decide) (orE_miss (by decide) (orE_miss (by decide) (orE_miss (by decide) (orE_hit (mkC_at (a := (a0, a1)) (by intro a b h; first | (exact rfl) | (simp only [INJ, IJ] at h; first | exact h | (simp_all [Prod.ext_iff]) )) h)))))))) h
end Go.Av
