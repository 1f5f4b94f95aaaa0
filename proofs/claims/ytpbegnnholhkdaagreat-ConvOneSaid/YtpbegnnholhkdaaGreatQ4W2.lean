/- The walks of the plain functions, part 2. Made by a program of mine. Conditions: none. -/
import Derived.Test.YtpbegnnholhkdaaGreatQ4W1
set_option linter.unusedVariables false
set_option linter.unusedSimpArgs false
set_option linter.defProp false
set_option maxRecDepth 20000
open Go Go.Proofs
namespace Go.Av
open Aw (d9 d30 d34 d35 d36 d38 d57 d58 d59 d60 d63 d64 d65 d66 d77 d78 d80 d81 d82 d83 d84 d85 d87 d88 d89 d90 d91 d103 d109 d111 d112 d113 d117 d118 d119 d120 d149)
/-! 67: (lattice/infer.ask).wrong -/
open Aw (d67)
def d67_at := by have h := tabL Aw.d67.eq_1; simp only [AllAt, Nat.zero_add, Nat.reduceAdd] at h; exact h
theorem i67 : finfo Tryz.prog 67 d67 = some ⟨bodyOf Tryz.f67, [.tmp 2], [32]⟩ := finfo_at Tryz.func67 rfl (by kernel_rfl) (by kernel_rfl)
def e67 : Int → AV := fun r => .v (.int .i64 r)
set_option maxHeartbeats 20000000 in
theorem w67 (cp : CallP) (fu : Nat) (x1 : T_infer_ask) (H30_0 : ∀ (a0 : List Int) r, shape_Size fu a0 = some r → cp 30 [.arr a0.length (lm (ik .i64) a0)] = some (.tuple [.v (.int .i64 r.1), .v (.int .i64 r.2)])) (H87_0 : ∀ (a0 : T_infer_ask) (a1 : Int) r, infer_ask_has fu a0 a1 = some r → cp 87 [.agg (c_T_infer_ask a0), .v (.int .i64 a1)] = some (.v (.bool r))) (H88_0 : ∀ (a0 : T_infer_ask) r, infer_ask_typed fu a0 = some r → cp 88 [.agg (c_T_infer_ask a0)] = some (.v (.bool r))) (H89_0 : ∀ (a0 : T_infer_ask) r, infer_ask_attributes fu a0 = some r → cp 89 [.agg (c_T_infer_ask a0)] = some (.v (.bool r))) (H90_0 : ∀ (a0 : T_infer_ask) r, infer_ask_told fu a0 = some r → cp 90 [.agg (c_T_infer_ask a0)] = some (.v (.int .i64 r))) : J (go Tryz.prog noC cp noI 0 [] d67 fu (fin Tryz.prog [.tmp 2] [32]) (bodyOf Tryz.f67) (initE 0 [.agg (c_T_infer_ask x1)]) [] []) (infer_ask_wrong fu x1) e67 := by
 unfold infer_ask_wrong e67
 refine J.chk fun h1 => ?_
 conv => arg 1; simp (disch := first | exact Zd | fail) only [bodyOf, Tryz.f67, ZZ, d67_at, simprocAttr, h1]
 refine J.joinS (fun (t : Unit) => ([(1, .ptr (0, 1, 0) 0 0)], [((0, 1, 0), .bx true ([.v (.int .i64 75), .v (.int .i64 x1.fs.fAxis), .arr x1.fs.fAxes.length (lm (ik .i64) x1.fs.fAxes), .v (.bool x1.fs.fHasAxes), .v (.bool x1.fs.fKeep), .v (.bool x1.fs.fNoop), .v (.bool x1.fs.fLast), .v (.bool x1.fs.fZero), .arr x1.fs.fPerm.length (lm (ik .i64) x1.fs.fPerm), .v (.bool x1.fs.fHasPerm), .v (.int .u32 x1.fs.fAlpha), .v (.int .u32 x1.fs.fBeta), .v (.int .u32 x1.fs.fEpsilon), .v (.bool x1.fs.fLow), .v (.bool x1.fs.fHigh), .v (.bool x1.fs.fFmod), .v (.int .i64 x1.fs.fTo), .v (.int .i64 x1.fs.fMode), .v (.bool x1.fs.fTransA), .v (.bool x1.fs.fTransB), .v (.int .i64 x1.fs.fGroup), .arr x1.fs.fKernel.length (lm (ik .i64) x1.fs.fKernel), .arr x1.fs.fStrides.length (lm (ik .i64) x1.fs.fStrides), .arr x1.fs.fPads.length (lm (ik .i64) x1.fs.fPads), .arr x1.fs.fDilations.length (lm (ik .i64) x1.fs.fDilations), .v (.int .i64 x1.fs.fAuto), .v (.bool x1.fs.fCeil), .v (.bool x1.fs.fCount), .v (.int .i64 x1.fs.fBlock), .v (.int .i64 x1.fs.fStart), .v (.int .i64 x1.fs.fEnd), .v (.bool x1.fs.fHasEnd), .v (.int .i64 x1.fs.fValue.fType), .arr x1.fs.fValue.fDims.length (lm (ik .i64) x1.fs.fValue.fDims), .arr x1.fs.fValue.fF.length (lm (ik .u32) x1.fs.fValue.fF), .arr x1.fs.fValue.fI.length (lm (ik .i64) x1.fs.fValue.fI), .arr x1.fs.fValue.fB.length (lm (bk) x1.fs.fValue.fB), .arr x1.fin.length (fm c_T_Val x1.fin), .v (.int .i64 x1.fouts)]))])) (fun t => infer_ask_wrong_k1 fu x1) ?_ (fun hj1 => ?_)
 ·rintro ⟨⟩
  show J _ (infer_ask_wrong_k1 fu x1) _
  unfold infer_ask_wrong_k1
  refine J.eq go_seq ?_
  refine J.bind fun x2 h2 => ?_
  have e_h2 := H88_0 _ _ h2
  try simp only [NN, NT, LN, simprocAttr, DT] at e_h2
  conv => arg 1; simp (disch := first | exact Zd | fail) only [ZZ, d67_at, simprocAttr, h1, e_h2]
  refine J.ite (fun h3 => ?_) (fun h3 => ?_)
  ·have h3' : x2 = true := h3
   refine J.bind fun x3 h4 => ?_
   have e_h4 := H89_0 _ _ h4
   try simp only [NN, NT, LN, simprocAttr, DT] at e_h4
   conv => arg 1; simp (disch := first | exact Zd | fail) only [ZZ, d67_at, simprocAttr, h1, e_h2, h3', e_h4]
   refine J.ite (fun h5 => ?_) (fun h5 => ?_)
   ·have h5' : x3 = true := h5
    conv => arg 1; simp (disch := first | exact Zd | fail) only [ZZ, d67_at, simprocAttr, h1, e_h2, h3', e_h4, h5']
    refine J.eq ret_seq ?_
    refine J.bind fun x4 h6 => ?_
    have e_h6 := H90_0 _ _ h6
    try simp only [NN, NT, LN, simprocAttr, DT] at e_h6
    refine J.some ?_
    simp (maxSteps := 20000000) (disch := first | exact Zd | fail) only [ZZ, d67_at, simprocAttr, h1, e_h2, h3', e_h4, h5', e_h6, FF, LN, NN, NT]
   ·have h5' : x3 = false := Bool.eq_false_iff.2 h5
    refine J.some ?_
    simp (maxSteps := 20000000) (disch := first | exact Zd | fail) only [ZZ, d67_at, simprocAttr, h1, e_h2, h3', e_h4, h5', FF, LN, NN, NT]
  ·have h3' : x2 = false := Bool.eq_false_iff.2 h3
   refine J.some ?_
   simp (maxSteps := 20000000) (disch := first | exact Zd | fail) only [ZZ, d67_at, simprocAttr, h1, e_h2, h3', FF, LN, NN, NT]
 ·conv => arg 1; simp (disch := first | exact Zd | fail) only [ZZ, d67_at, simprocAttr, h1]
  unfold infer_ask_wrong_W1
  refine J.loop (fun (s : Int) => ([(1, .ptr (0, 1, 0) 0 0), (8, .arr x1.fin.length (fm c_T_Val x1.fin)), (9, .v (.int .i64 (x1.fin.length : Int))), (10, .v (.int .i64 s))], [((0, 1, 0), .bx true ([.v (.int .i64 75), .v (.int .i64 x1.fs.fAxis), .arr x1.fs.fAxes.length (lm (ik .i64) x1.fs.fAxes), .v (.bool x1.fs.fHasAxes), .v (.bool x1.fs.fKeep), .v (.bool x1.fs.fNoop), .v (.bool x1.fs.fLast), .v (.bool x1.fs.fZero), .arr x1.fs.fPerm.length (lm (ik .i64) x1.fs.fPerm), .v (.bool x1.fs.fHasPerm), .v (.int .u32 x1.fs.fAlpha), .v (.int .u32 x1.fs.fBeta), .v (.int .u32 x1.fs.fEpsilon), .v (.bool x1.fs.fLow), .v (.bool x1.fs.fHigh), .v (.bool x1.fs.fFmod), .v (.int .i64 x1.fs.fTo), .v (.int .i64 x1.fs.fMode), .v (.bool x1.fs.fTransA), .v (.bool x1.fs.fTransB), .v (.int .i64 x1.fs.fGroup), .arr x1.fs.fKernel.length (lm (ik .i64) x1.fs.fKernel), .arr x1.fs.fStrides.length (lm (ik .i64) x1.fs.fStrides), .arr x1.fs.fPads.length (lm (ik .i64) x1.fs.fPads), .arr x1.fs.fDilations.length (lm (ik .i64) x1.fs.fDilations), .v (.int .i64 x1.fs.fAuto), .v (.bool x1.fs.fCeil), .v (.bool x1.fs.fCount), .v (.int .i64 x1.fs.fBlock), .v (.int .i64 x1.fs.fStart), .v (.int .i64 x1.fs.fEnd), .v (.bool x1.fs.fHasEnd), .v (.int .i64 x1.fs.fValue.fType), .arr x1.fs.fValue.fDims.length (lm (ik .i64) x1.fs.fValue.fDims), .arr x1.fs.fValue.fF.length (lm (ik .u32) x1.fs.fValue.fF), .arr x1.fs.fValue.fI.length (lm (ik .i64) x1.fs.fValue.fI), .arr x1.fs.fValue.fB.length (lm (bk) x1.fs.fValue.fB), .arr x1.fin.length (fm c_T_Val x1.fin), .v (.int .i64 x1.fouts)]))])) (fun next s => infer_ask_wrong_L1 fu x1 next s) (s0 := 0) ?_ ?_ ?_
  ·first | rfl | (simp only [LN, NN, NT])
  ·first | (simp (disch := first | exact Zd | fail) only [RR, simprocAttr, LN, NN, NT]; done) | (simp (disch := first | exact Zd | fail) only [RR, simprocAttr, LN, fm_app, NN, NT]; done) | rfl
  rintro nx1 k1 hn1 x8
  show J _ (infer_ask_wrong_L1 fu x1 nx1 x8) _
  unfold infer_ask_wrong_L1
  conv => arg 1; simp (disch := first | exact Zd | fail) only [ZZ, d67_at, simprocAttr, h1]
  refine J.eq go_seq ?_
  conv => arg 1; simp (disch := first | exact Zd | fail) only [ZZ, d67_at, simprocAttr, h1]
  refine J.ite (fun h7 => ?_) (fun h7 => ?_)
  ·have h7' := decide_eq_true h7
   have h7'' : decide ((x1.fin.length : Int) ≤ x8) = false := decide_eq_false (by omega)
   conv => arg 1; simp (disch := first | exact Zd | fail) only [ZZ, d67_at, simprocAttr, h1, h7'', h7']
   refine J.eq ret_seq ?_
   refine J.eq go_seq ?_
   refine J.at fun x12 h8 h9 h10 => ?_
   refine J.bind fun x13 h11 => ?_
   have e_h11 := H30_0 _ _ h11
   try simp only [NN, NT, LN, simprocAttr, DT] at e_h11
   conv => arg 1; simp (disch := first | exact Zd | fail) only [ZZ, d67_at, simprocAttr, h1, h7'', h7', fm_cut c_T_Val_len h10, fm_fit c_T_Val_len h10, fm_at c_T_Val_len h10, fm_at0 c_T_Val_len h10, e_h11]
   refine J.eq go_seq ?_
   refine J.bind fun x14 h12 => ?_
   have e_h12 := H87_0 _ _ _ h12
   try simp only [NN, NT, LN, simprocAttr, DT] at e_h12
   conv => arg 1; simp (disch := first | exact Zd | fail) only [ZZ, d67_at, simprocAttr, h1, h7'', h7', fm_cut c_T_Val_len h10, fm_fit c_T_Val_len h10, fm_at c_T_Val_len h10, fm_at0 c_T_Val_len h10, e_h11, e_h12]
   refine J.ite (fun h13 => ?_) (fun h13 => ?_)
   ·have h13' : x14 = true := h13
    conv => arg 1; simp (disch := first | exact Zd | fail) only [ZZ, d67_at, simprocAttr, h1, h7'', h7', fm_cut c_T_Val_len h10, fm_fit c_T_Val_len h10, fm_at c_T_Val_len h10, fm_at0 c_T_Val_len h10, e_h11, e_h12, h13']
    refine J.eq ret_seq ?_
    conv => arg 1; simp (disch := first | exact Zd | fail) only [ZZ, d67_at, simprocAttr, h1, h7'', h7', fm_cut c_T_Val_len h10, fm_fit c_T_Val_len h10, fm_at c_T_Val_len h10, fm_at0 c_T_Val_len h10, e_h11, e_h12, h13']
    refine J.ite (fun h14 => ?_) (fun h14 => ?_)
    ·have h14' := decide_eq_true h14
     conv => arg 1; simp (disch := first | exact Zd | fail) only [ZZ, d67_at, simprocAttr, h1, h7'', h7', fm_cut c_T_Val_len h10, fm_fit c_T_Val_len h10, fm_at c_T_Val_len h10, fm_at0 c_T_Val_len h10, e_h11, e_h12, h13', h14']
     refine J.eq ret_seq ?_
     conv => arg 1; simp (disch := first | exact Zd | fail) only [ZZ, d67_at, simprocAttr, h1, h7'', h7', fm_cut c_T_Val_len h10, fm_fit c_T_Val_len h10, fm_at c_T_Val_len h10, fm_at0 c_T_Val_len h10, e_h11, e_h12, h13', h14']
     refine J.next (s := wk .i64 (x8 + 1)) hn1 ?_ ?_
     ·first | rfl | (simp only [LN, NN, NT])
     ·first | (simp (disch := first | exact Zd | fail) only [RR, simprocAttr, LN, NN, NT]; done) | (simp (disch := first | exact Zd | fail) only [RR, simprocAttr, LN, fm_app, NN, NT]; done) | rfl
    ·have h14' := decide_eq_false h14
     refine J.some ?_
     simp (maxSteps := 20000000) (disch := first | exact Zd | fail) only [ZZ, d67_at, simprocAttr, h1, h7'', h7', fm_cut c_T_Val_len h10, fm_fit c_T_Val_len h10, fm_at c_T_Val_len h10, fm_at0 c_T_Val_len h10, e_h11, e_h12, h13', h14', FF, LN, NN, NT]
   ·have h13' : x14 = false := Bool.eq_false_iff.2 h13
    conv => arg 1; simp (disch := first | exact Zd | fail) only [ZZ, d67_at, simprocAttr, h1, h7'', h7', fm_cut c_T_Val_len h10, fm_fit c_T_Val_len h10, fm_at c_T_Val_len h10, fm_at0 c_T_Val_len h10, e_h11, e_h12, h13']
    refine J.eq ret_seq ?_
    conv => arg 1; simp (disch := first | exact Zd | fail) only [ZZ, d67_at, simprocAttr, h1, h7'', h7', fm_cut c_T_Val_len h10, fm_fit c_T_Val_len h10, fm_at c_T_Val_len h10, fm_at0 c_T_Val_len h10, e_h11, e_h12, h13']
    refine J.eq ret_seq ?_
    conv => arg 1; simp (disch := first | exact Zd | fail) only [ZZ, d67_at, simprocAttr, h1, h7'', h7', fm_cut c_T_Val_len h10, fm_fit c_T_Val_len h10, fm_at c_T_Val_len h10, fm_at0 c_T_Val_len h10, e_h11, e_h12, h13']
    refine J.next (s := wk .i64 (x8 + 1)) hn1 ?_ ?_
    ·first | rfl | (simp only [LN, NN, NT])
    ·first | (simp (disch := first | exact Zd | fail) only [RR, simprocAttr, LN, NN, NT]; done) | (simp (disch := first | exact Zd | fail) only [RR, simprocAttr, LN, fm_app, NN, NT]; done) | rfl
  ·have h7' := decide_eq_false h7
   have h7'' : decide ((x1.fin.length : Int) ≤ x8) = true := decide_eq_true (by omega)
   conv => arg 1; simp (disch := first | exact Zd | fail) only [ZZ, d67_at, simprocAttr, h1, h7'', h7']
   refine J.jmp (t := ()) hj1 ?_ ?_
   ·first | rfl | (simp only [LN, NN, NT])
   ·first | (simp (disch := first | exact Zd | fail) only [RR, simprocAttr, LN, NN, NT]; done) | (simp (disch := first | exact Zd | fail) only [RR, simprocAttr, LN, fm_app, NN, NT]; done) | rfl
noncomputable def t67 (fu : Nat) : CallP := orE 30 (mkC (fun (t : List Int) => ([.arr t.length (lm (ik .i64) t)] : List AV)) (fun t => shape_Size fu t) e30) (orE 87 (mkC (fun (t : T_infer_ask × Int) => ([.agg (c_T_infer_ask t.1), .v (.int .i64 t.2)] : List AV)) (fun t => infer_ask_has fu t.1 t.2) e87) (orE 88 (mkC (fun (t : T_infer_ask) => ([.agg (c_T_infer_ask t)] : List AV)) (fun t => infer_ask_typed fu t) e88) (orE 89 (mkC (fun (t : T_infer_ask) => ([.agg (c_T_infer_ask t)] : List AV)) (fun t => infer_ask_attributes fu t) e89) (orE 90 (mkC (fun (t : T_infer_ask) => ([.agg (c_T_infer_ask t)] : List AV)) (fun t => infer_ask_told fu t) e90) (noP)))))
theorem t67_ok (fu : Nat) : CpOK Tryz.prog (t67 fu ) := orE_ok (orE_ok (orE_ok (orE_ok (orE_ok (noP_ok) (mkC_ok (fun t b h => ok90 fu t  b h))) (mkC_ok (fun t b h => ok89 fu t  b h))) (mkC_ok (fun t b h => ok88 fu t  b h))) (mkC_ok (fun t b h => ok87 fu t.1 t.2  b h))) (mkC_ok (fun t b h => ok30 fu t  b h))
theorem ok67 (fu : Nat) (x1 : T_infer_ask) (r) (h : infer_ask_wrong fu x1 = some r) : PureOK Tryz.prog 67 [.agg (c_T_infer_ask x1)] (e67 r) :=
  pure_J mixed (cp := t67 fu ) (t67_ok fu  ) noI_ok i67 (w67 _ fu x1  (fun a0 r h => orE_hit (mkC_at (a := a0) (by intro a b h; first | (exact rfl) | (simp only [INJ, IJ] at h; first | exact h | (simp_all [Prod.ext_iff]) )) h)) (fun a0 a1 r h => orE_miss (by decide) (orE_hit (mkC_at (a := (a0, a1)) (by intro a b h; first | (exact rfl) | (simp only [INJ, IJ] at h; first | exact h | (simp_all [Prod.ext_iff]) )) h))) (fun a0 r h => orE_miss (by decide) (orE_miss (by decide) (orE_hit (mkC_at (a := a0) (by intro a b h; first | (exact rfl) | (simp only [INJ, IJ] at h; first | exact h | (simp_all [Prod.ext_iff]) )) h)))) (fun a0 r h => orE_miss (by decide) (orE_miss (by decide) (orE_miss (by decide) (orE_hit (mkC_at (a := a0) (by intro a b h; first | (exact rfl) | (simp only [INJ, IJ] at h; first | exact h | (simp_all [Prod.ext_iff]) )) h))))) (fun a0 r h => orE_miss (by decide) (orE_miss (by decide) (orE_miss (by decide) (orE_miss (by decide) (orE_hit (mkC_at (a := a0) (by intro a b h; first | (exact rfl) | (simp only [INJ, IJ] at h; first | exact h | (simp_all [Prod.ext_iff]) )) h))))))) h
/-! 94: lattice/infer.misfit -/
def d94 : List (Nat × List Nat) := [(0, [0, 1]), (0, []), (0, [])]
def d94_at := by have h := tabL d94.eq_1; simp only [AllAt, Nat.zero_add, Nat.reduceAdd] at h; exact h
theorem i94 : finfo Tryz.prog 94 d94 = some ⟨bodyOf Tryz.f94, [.tmp 0, .tmp 1], [98, 32]⟩ := finfo_at Tryz.func94 rfl (by kernel_rfl) (by kernel_rfl)
def e94 : ((List (List Int)) × Int) → AV := fun r => .tuple [.arr r.1.length (lm (avl (ik .i64)) r.1), .v (.int .i64 r.2)]
set_option maxHeartbeats 20000000 in
theorem w94 (cp : CallP) (fu : Nat) : J (go Tryz.prog noC cp noI 0 [] d94 fu (finS Tryz.prog [.tmp 0, .tmp 1] [98, 32]) (bodyOf Tryz.f94) (initE 0 []) [] []) (infer_misfit fu) e94 := by
 unfold infer_misfit e94
 refine J.some ?_
 simp (maxSteps := 20000000) (disch := first | exact Zd | fail) only [bodyOf, Tryz.f94, ZZ, d94_at, simprocAttr, SE, FF, LN, NN, NT]
noncomputable def t94 (fu : Nat) : CallP := noP
theorem t94_ok (fu : Nat) : CpOK Tryz.prog (t94 fu ) := noP_ok
theorem ok94 (fu : Nat) (r) (h : infer_misfit fu = some r) : PureOK Tryz.prog 94 [] (e94 r) :=
  pureS_J mixed (cp := t94 fu ) (t94_ok fu  ) noI_ok i94 (w94 _ fu   ) h
/-! 156: lattice/infer.number -/
open Aw (d156)
def d156_at := by have h := tabL Aw.d156.eq_1; simp only [AllAt, Nat.zero_add, Nat.reduceAdd] at h; exact h
theorem i156 : finfo Tryz.prog 156 d156 = some ⟨bodyOf Tryz.f156, [.tmp 6], [3]⟩ := finfo_at Tryz.func156 rfl (by kernel_rfl) (by kernel_rfl)
def e156 : Int → AV := fun r => .v (.int .i64 r)
set_option maxHeartbeats 20000000 in
theorem w156 (cp : CallP) (fu : Nat) (x1 : List Int) (x2 : Int) (x3 : Int) : J (go Tryz.prog noC cp noI 0 [] d156 fu (fin Tryz.prog [.tmp 6] [3]) (bodyOf Tryz.f156) (initE 0 [.arr x1.length (lm (ik .i64) x1), .v (.int .i64 x2), .v (.int .i64 x3)]) [] []) (infer_number fu x1 x2 x3) e156 := by
 unfold infer_number e156
 conv => arg 1; simp (disch := first | exact Zd | fail) only [bodyOf, Tryz.f156, ZZ, d156_at, simprocAttr]
 refine J.eq go_seq ?_
 conv => arg 1; simp (disch := first | exact Zd | fail) only [ZZ, d156_at, simprocAttr]
 refine J.ite (fun h1 => ?_) (fun h1 => ?_)
 ·have h1' := decide_eq_true h1
  refine J.some ?_
  simp (maxSteps := 20000000) (disch := first | exact Zd | fail) only [ZZ, d156_at, simprocAttr, h1', FF, LN, NN, NT]
 ·have h1' := decide_eq_false h1
  conv => arg 1; simp (disch := first | exact Zd | fail) only [ZZ, d156_at, simprocAttr, h1']
  refine J.eq ret_seq ?_
  refine J.at fun x4 h2 h3 h4 => ?_
  refine J.some ?_
  simp (maxSteps := 20000000) (disch := first | exact Zd | fail) only [ZZ, d156_at, simprocAttr, h1', lm_ik h4, FF, LN, NN, NT]
noncomputable def t156 (fu : Nat) : CallP := noP
theorem t156_ok (fu : Nat) : CpOK Tryz.prog (t156 fu ) := noP_ok
theorem ok156 (fu : Nat) (x1 : List Int) (x2 : Int) (x3 : Int) (r) (h : infer_number fu x1 x2 x3 = some r) : PureOK Tryz.prog 156 [.arr x1.length (lm (ik .i64) x1), .v (.int .i64 x2), .v (.int .i64 x3)] (e156 r) :=
  pure_J mixed (cp := t156 fu ) (t156_ok fu  ) noI_ok i156 (w156 _ fu x1 x2 x3  ) h
/-! 108: lattice/infer.ranged$1 -/
open Aw (d108)
def d108_at := by have h := tabL Aw.d108.eq_1; simp only [AllAt, Nat.zero_add, Nat.reduceAdd] at h; exact h
theorem i108 : finfo Tryz.prog 108 d108 = some ⟨bodyOf Tryz.f108, [.tmp 3], [4]⟩ := finfo_at Tryz.func108 rfl (by kernel_rfl) (by kernel_rfl)
def e108 : Bool → AV := fun r => .v (.bool r)
set_option maxHeartbeats 20000000 in
theorem w108 (cp : CallP) (fu : Nat) (x1 : Int) (x2 : Int) : J (go Tryz.prog noC cp noI 0 [] d108 fu (fin Tryz.prog [.tmp 3] [4]) (bodyOf Tryz.f108) (initE 0 [.v (.int .i64 x1), .ref [.v (.int .i64 x2)] 0]) [] []) (infer_ranged_1 fu x1 x2) e108 := by
 unfold infer_ranged_1 e108
 conv => arg 1; simp (disch := first | exact Zd | fail) only [bodyOf, Tryz.f108, ZZ, d108_at, simprocAttr]
 refine J.eq go_seq ?_
 conv => arg 1; simp (disch := first | exact Zd | fail) only [ZZ, d108_at, simprocAttr]
 refine J.ite (fun h1 => ?_) (fun h1 => ?_)
 ·have h1' := decide_eq_true h1
  have h1'' : decide (x2 ≤ x1) = false := decide_eq_false (by omega)
  conv => arg 1; simp (disch := first | exact Zd | fail) only [ZZ, d108_at, simprocAttr, h1'', h1']
  refine J.eq ret_seq ?_
  refine J.some ?_
  simp (maxSteps := 20000000) (disch := first | exact Zd | fail) only [ZZ, d108_at, simprocAttr, h1'', h1', FF, LN, NN, NT]
 ·have h1' := decide_eq_false h1
  have h1'' : decide (x2 ≤ x1) = true := decide_eq_true (by omega)
  conv => arg 1; simp (disch := first | exact Zd | fail) only [ZZ, d108_at, simprocAttr, h1'', h1']
  refine J.eq ret_seq ?_
  refine J.some ?_
  simp (maxSteps := 20000000) (disch := first | exact Zd | fail) only [ZZ, d108_at, simprocAttr, h1'', h1', FF, LN, NN, NT]
noncomputable def t108 (fu : Nat) : CallP := noP
theorem t108_ok (fu : Nat) : CpOK Tryz.prog (t108 fu ) := noP_ok
theorem ok108 (fu : Nat) (x1 : Int) (x2 : Int) (r) (h : infer_ranged_1 fu x1 x2 = some r) : PureOK Tryz.prog 108 [.v (.int .i64 x1), .ref [.v (.int .i64 x2)] 0] (e108 r) :=
  pure_J mixed (cp := t108 fu ) (t108_ok fu  ) noI_ok i108 (w108 _ fu x1 x2  ) h
/-! 79: lattice/infer.ranged -/
open Aw (d79)
def d79_at := by have h := tabL Aw.d79.eq_1; simp only [AllAt, Nat.zero_add, Nat.reduceAdd] at h; exact h
theorem i79 : finfo Tryz.prog 79 d79 = some ⟨bodyOf Tryz.f79, [.tmp 4], [4]⟩ := finfo_at Tryz.func79 rfl (by kernel_rfl) (by kernel_rfl)
def e79 : Bool → AV := fun r => .v (.bool r)
set_option maxHeartbeats 20000000 in
theorem w79 (cp : CallP) (fu : Nat) (x1 : Int) (x2 : List Int) (H57_0 : ∀ (a0 : List Int) (c1 : Int) r, slices_ContainsFunc_int fu a0 (fun y0 => infer_ranged_1 fu y0 c1) = some r → cp 57 [.arr a0.length (lm (ik .i64) a0), .fn 108 [] [.ref [.v (.int .i64 c1)] 0]] = some (.v (.bool r))) : J (go Tryz.prog noC cp noI 0 [] d79 fu (fin Tryz.prog [.tmp 4] [4]) (bodyOf Tryz.f79) (initE 0 [.v (.int .i64 x1), .arr x2.length (lm (ik .i64) x2)]) [] []) (infer_ranged fu x1 x2) e79 := by
 unfold infer_ranged e79
 refine J.bind fun x3 h1 => ?_
 have e_h1 := H57_0 _ _ _ h1
 try simp only [NN, NT, LN, simprocAttr, DT] at e_h1
 refine J.some ?_
 simp (maxSteps := 20000000) (disch := first | exact Zd | fail) only [bodyOf, Tryz.f79, ZZ, d79_at, simprocAttr, e_h1, FF, LN, NN, NT]
noncomputable def t79 (fu : Nat) : CallP := orE 57 (mkC (fun (t : (List Int) × Int) => ([.arr t.1.length (lm (ik .i64) t.1), .fn 108 [] [.ref [.v (.int .i64 t.2)] 0]] : List AV)) (fun t => slices_ContainsFunc_int fu t.1 (fun y0 => infer_ranged_1 fu y0 t.2)) e57) (noP)
theorem t79_ok (fu : Nat) : CpOK Tryz.prog (t79 fu ) := orE_ok (noP_ok) (mkC_ok (fun t b h => ok57 fu t.1 (fun y0 => infer_ranged_1 fu y0 t.2) 108 [.ref [.v (.int .i64 t.2)] 0] (Capt.ref Capt.nil) (fun y0 r h => ok108 fu y0 t.2 r h) b h))
theorem ok79 (fu : Nat) (x1 : Int) (x2 : List Int) (r) (h : infer_ranged fu x1 x2 = some r) : PureOK Tryz.prog 79 [.v (.int .i64 x1), .arr x2.length (lm (ik .i64) x2)] (e79 r) :=
  pure_J mixed (cp := t79 fu ) (t79_ok fu  ) noI_ok i79 (w79 _ fu x1 x2  (fun a0 c1 r h => orE_hit (mkC_at (a := (a0, c1)) (by intro a b h; first | (exact rfl) | (simp only [INJ, IJ] at h; first | exact h | (simp_all [Prod.ext_iff]) )) h))) h
/-! 62: lattice/infer.Window -/
open Aw (d62)
def d62_at := by have h := tabL Aw.d62.eq_1; simp only [AllAt, Nat.zero_add, Nat.reduceAdd] at h; exact h
theorem i62 : finfo Tryz.prog 62 d62 = some ⟨bodyOf Tryz.f62, [.tmp 16, .tmp 17, .tmp 18], [3, 3, 32]⟩ := finfo_at Tryz.func62 rfl (by kernel_rfl) (by kernel_rfl)
def e62 : (Int × Int × Int) → AV := fun r => .tuple [.v (.int .i64 r.1), .v (.int .i64 r.2.1), .v (.int .i64 r.2.2)]
set_option maxHeartbeats 20000000 in
theorem w62 (cp : CallP) (fu : Nat) (x1 : Int) (x2 : Int) (x3 : Int) (x4 : Int) (x5 : Int) (x6 : Int) (x7 : Int) (x8 : Bool) (H79_0 : ∀ (a0 : Int) (a1 : List Int) r, infer_ranged fu a0 a1 = some r → cp 79 [.v (.int .i64 a0), .arr a1.length (lm (ik .i64) a1)] = some (.v (.bool r))) : J (go Tryz.prog noC cp noI 0 [] d62 fu (fin Tryz.prog [.tmp 16, .tmp 17, .tmp 18] [3, 3, 32]) (bodyOf Tryz.f62) (initE 0 [.v (.int .i64 x1), .v (.int .i64 x2), .v (.int .i64 x3), .v (.int .i64 x4), .v (.int .i64 x5), .v (.int .i64 x6), .v (.int .i64 x7), .v (.bool x8)]) [] []) (infer_Window fu x1 x2 x3 x4 x5 x6 x7 x8) e62 := by
 unfold infer_Window e62
 conv => arg 1; simp (disch := first | exact Zd | fail) only [bodyOf, Tryz.f62, ZZ, d62_at, simprocAttr]
 refine J.joinS (fun (t : Unit) => ([(0, .v (.int .i64 x1)), (1, .v (.int .i64 x2)), (2, .v (.int .i64 x3)), (3, .v (.int .i64 x4)), (4, .v (.int .i64 x5)), (5, .v (.int .i64 x6)), (6, .v (.int .i64 x7)), (7, .v (.bool x8))], [])) (fun t => infer_Window_k1 fu x1 x2 x3 x4 x5 x6 x7 x8) ?_ (fun hj1 => ?_)
 ·rintro ⟨⟩
  show J _ (infer_Window_k1 fu x1 x2 x3 x4 x5 x6 x7 x8) _
  unfold infer_Window_k1
  conv => arg 1; simp (disch := first | exact Zd | fail) only [ZZ, d62_at, simprocAttr]
  refine J.joinS (fun (t : Int × Int) => ([(0, .v (.int .i64 x1)), (2, .v (.int .i64 x3)), (4, .v (.int .i64 t.1)), (5, .v (.int .i64 t.2)), (7, .v (.bool x8)), (19, .v (.int .i64 (wk .i64 ((wk .i64 ((wk .i64 (x2 - 1)) * x4)) + 1))))], [])) (fun t => infer_Window_k2 fu x1 x2 x3 x4 x8 t.1 t.2) ?_ (fun hj2 => ?_)
  ·rintro ⟨x9, x10⟩
   show J _ (infer_Window_k2 fu x1 x2 x3 x4 x8 x9 x10) _
   unfold infer_Window_k2
   conv => arg 1; simp (disch := first | exact Zd | fail) only [ZZ, d62_at, simprocAttr]
   refine J.eq go_seq ?_
   conv => arg 1; simp (disch := first | exact Zd | fail) only [ZZ, d62_at, simprocAttr]
   refine J.ite (fun h1 => ?_) (fun h1 => ?_)
   ·have h1' := decide_eq_true h1
    have h1'' : decide (0 ≤ (wk .i64 ((wk .i64 ((wk .i64 (x1 + x9)) + x10)) - (wk .i64 ((wk .i64 ((wk .i64 (x2 - 1)) * x4)) + 1))))) = false := decide_eq_false (by omega)
    refine J.some ?_
    simp (maxSteps := 20000000) (disch := first | exact Zd | fail) only [ZZ, d62_at, simprocAttr, h1'', h1', FF, LN, NN, NT]
   ·have h1' := decide_eq_false h1
    have h1'' : decide (0 ≤ (wk .i64 ((wk .i64 ((wk .i64 (x1 + x9)) + x10)) - (wk .i64 ((wk .i64 ((wk .i64 (x2 - 1)) * x4)) + 1))))) = true := decide_eq_true (by omega)
    conv => arg 1; simp (disch := first | exact Zd | fail) only [ZZ, d62_at, simprocAttr, h1'', h1']
    refine J.eq ret_seq ?_
    refine J.chk fun h2 => ?_
    conv => arg 1; simp (disch := first | exact Zd | fail) only [ZZ, d62_at, simprocAttr, h1'', h1']
    refine J.eq go_seq ?_
    refine J.eq go_seq ?_
    conv => arg 1; simp (disch := first | exact Zd | fail) only [ZZ, d62_at, simprocAttr, h1'', h1']
    refine J.ite (fun h3 => ?_) (fun h3 => ?_)
    ·have h3' : x8 = true := h3
     conv => arg 1; simp (disch := first | exact Zd | fail) only [ZZ, d62_at, simprocAttr, h1'', h1', h3']
     refine J.ite (fun h4 => ?_) (fun h4 => ?_)
     ·have h4' := decide_eq_true h4
      have h4'' : decide ((Int.tmod (wk .i64 ((wk .i64 ((wk .i64 (x1 + x9)) + x10)) - (wk .i64 ((wk .i64 ((wk .i64 (x2 - 1)) * x4)) + 1)))) x3) ≤ 0) = false := decide_eq_false (by omega)
      conv => arg 1; simp (disch := first | exact Zd | fail) only [ZZ, d62_at, simprocAttr, h1'', h1', h3', h4'', h4']
      refine J.eq ret_seq ?_
      conv => arg 1; simp (disch := first | exact Zd | fail) only [ZZ, d62_at, simprocAttr, h1'', h1', h3', h4'', h4']
      refine J.ite (fun h5 => ?_) (fun h5 => ?_)
      ·have h5' := decide_eq_true h5
       have h5'' : decide ((wk .i64 (x1 + x9)) ≤ (wk .i64 ((wk .i64 ((wk .i64 (Int.tdiv (wk .i64 ((wk .i64 ((wk .i64 (x1 + x9)) + x10)) - (wk .i64 ((wk .i64 ((wk .i64 (x2 - 1)) * x4)) + 1)))) x3)) + 1)) * x3))) = false := decide_eq_false (by omega)
       conv => arg 1; simp (disch := first | exact Zd | fail) only [ZZ, d62_at, simprocAttr, h1'', h1', h3', h4'', h4', h5'', h5']
       refine J.eq ret_seq ?_
       refine J.some ?_
       simp (maxSteps := 20000000) (disch := first | exact Zd | fail) only [ZZ, d62_at, simprocAttr, h1'', h1', h3', h4'', h4', h5'', h5', FF, LN, NN, NT]
      ·have h5' := decide_eq_false h5
       have h5'' : decide ((wk .i64 (x1 + x9)) ≤ (wk .i64 ((wk .i64 ((wk .i64 (Int.tdiv (wk .i64 ((wk .i64 ((wk .i64 (x1 + x9)) + x10)) - (wk .i64 ((wk .i64 ((wk .i64 (x2 - 1)) * x4)) + 1)))) x3)) + 1)) * x3))) = true := decide_eq_true (by omega)
       conv => arg 1; simp (disch := first | exact Zd | fail) only [ZZ, d62_at, simprocAttr, h1'', h1', h3', h4'', h4', h5'', h5']
       refine J.eq ret_seq ?_
       refine J.some ?_
       simp (maxSteps := 20000000) (disch := first | exact Zd | fail) only [ZZ, d62_at, simprocAttr, h1'', h1', h3', h4'', h4', h5'', h5', FF, LN, NN, NT]
     ·have h4' := decide_eq_false h4
      have h4'' : decide ((Int.tmod (wk .i64 ((wk .i64 ((wk .i64 (x1 + x9)) + x10)) - (wk .i64 ((wk .i64 ((wk .i64 (x2 - 1)) * x4)) + 1)))) x3) ≤ 0) = true := decide_eq_true (by omega)
      conv => arg 1; simp (disch := first | exact Zd | fail) only [ZZ, d62_at, simprocAttr, h1'', h1', h3', h4'', h4']
      refine J.eq ret_seq ?_
      conv => arg 1; simp (disch := first | exact Zd | fail) only [ZZ, d62_at, simprocAttr, h1'', h1', h3', h4'', h4']
      refine J.eq ret_seq ?_
      refine J.some ?_
      simp (maxSteps := 20000000) (disch := first | exact Zd | fail) only [ZZ, d62_at, simprocAttr, h1'', h1', h3', h4'', h4', FF, LN, NN, NT]
    ·have h3' : x8 = false := Bool.eq_false_iff.2 h3
     conv => arg 1; simp (disch := first | exact Zd | fail) only [ZZ, d62_at, simprocAttr, h1'', h1', h3']
     refine J.eq ret_seq ?_
     conv => arg 1; simp (disch := first | exact Zd | fail) only [ZZ, d62_at, simprocAttr, h1'', h1', h3']
     refine J.eq ret_seq ?_
     refine J.some ?_
     simp (maxSteps := 20000000) (disch := first | exact Zd | fail) only [ZZ, d62_at, simprocAttr, h1'', h1', h3', FF, LN, NN, NT]
  ·conv => arg 1; simp (disch := first | exact Zd | fail) only [ZZ, d62_at, simprocAttr]
   refine J.eq go_seq ?_
   conv => arg 1; simp (disch := first | exact Zd | fail) only [ZZ, d62_at, simprocAttr]
   refine J.ite (fun h6 => ?_) (fun h6 => ?_)
   ·have h6' := decide_eq_true h6
    conv => arg 1; simp (disch := first | exact Zd | fail) only [ZZ, d62_at, simprocAttr, h6']
    refine J.eq ret_seq ?_
    refine J.chk fun h7 => ?_
    conv => arg 1; simp (disch := first | exact Zd | fail) only [ZZ, d62_at, simprocAttr, h6']
    refine J.eq go_seq ?_
    conv => arg 1; simp (disch := first | exact Zd | fail) only [ZZ, d62_at, simprocAttr, h6']
    refine J.ite (fun h8 => ?_) (fun h8 => ?_)
    ·have h8' := decide_eq_true h8
     refine J.some ?_
     simp (maxSteps := 20000000) (disch := first | exact Zd | fail) only [ZZ, d62_at, simprocAttr, h6', h8', FF, LN, NN, NT]
    ·have h8' := decide_eq_false h8
     conv => arg 1; simp (disch := first | exact Zd | fail) only [ZZ, d62_at, simprocAttr, h6', h8']
     refine J.eq ret_seq ?_
     conv => arg 1; simp (disch := first | exact Zd | fail) only [ZZ, d62_at, simprocAttr, h6', h8']
     refine J.eq go_seq ?_
     conv => arg 1; simp (disch := first | exact Zd | fail) only [ZZ, d62_at, simprocAttr, h6', h8']
     refine J.ite (fun h9 => ?_) (fun h9 => ?_)
     ·exact J.none
     ·have h9' := decide_eq_false h9
      conv => arg 1; simp (disch := first | exact Zd | fail) only [ZZ, d62_at, simprocAttr, h6', h8', h9']
      refine J.eq ret_seq ?_
      refine J.some ?_
      simp (maxSteps := 20000000) (disch := first | exact Zd | fail) only [ZZ, d62_at, simprocAttr, h6', h8', h9', FF, LN, NN, NT]
   ·have h6' := decide_eq_false h6
    conv => arg 1; simp (disch := first | exact Zd | fail) only [ZZ, d62_at, simprocAttr, h6']
    refine J.eq ret_seq ?_
    conv => arg 1; simp (disch := first | exact Zd | fail) only [ZZ, d62_at, simprocAttr, h6']
    refine J.ite (fun h10 => ?_) (fun h10 => ?_)
    ·have h10' := decide_eq_true h10
     refine J.chk fun h11 => ?_
     conv => arg 1; simp (disch := first | exact Zd | fail) only [ZZ, d62_at, simprocAttr, h6', h10']
     refine J.eq go_seq ?_
     conv => arg 1; simp (disch := first | exact Zd | fail) only [ZZ, d62_at, simprocAttr, h6', h10']
     refine J.ite (fun h12 => ?_) (fun h12 => ?_)
     ·have h12' := decide_eq_true h12
      refine J.some ?_
      simp (maxSteps := 20000000) (disch := first | exact Zd | fail) only [ZZ, d62_at, simprocAttr, h6', h10', h12', FF, LN, NN, NT]
     ·have h12' := decide_eq_false h12
      conv => arg 1; simp (disch := first | exact Zd | fail) only [ZZ, d62_at, simprocAttr, h6', h10', h12']
      refine J.eq ret_seq ?_
      conv => arg 1; simp (disch := first | exact Zd | fail) only [ZZ, d62_at, simprocAttr, h6', h10', h12']
      refine J.eq go_seq ?_
      conv => arg 1; simp (disch := first | exact Zd | fail) only [ZZ, d62_at, simprocAttr, h6', h10', h12']
      refine J.eq ret_seq ?_
      refine J.some ?_
      simp (maxSteps := 20000000) (disch := first | exact Zd | fail) only [ZZ, d62_at, simprocAttr, h6', h10', h12', FF, LN, NN, NT]
    ·have h10' := decide_eq_false h10
     conv => arg 1; simp (disch := first | exact Zd | fail) only [ZZ, d62_at, simprocAttr, h6', h10']
     refine J.ite (fun h13 => ?_) (fun h13 => ?_)
     ·have h13' := decide_eq_true h13
      conv => arg 1; simp (disch := first | exact Zd | fail) only [ZZ, d62_at, simprocAttr, h6', h10', h13']
      refine J.jmp (t := (0, 0)) hj2 ?_ ?_
      ·first | rfl | (simp only [LN, NN, NT])
      ·first | (simp (disch := first | exact Zd | fail) only [RR, simprocAttr, LN, NN, NT]; done) | (simp (disch := first | exact Zd | fail) only [RR, simprocAttr, LN, fm_app, NN, NT]; done) | rfl
     ·have h13' := decide_eq_false h13
      conv => arg 1; simp (disch := first | exact Zd | fail) only [ZZ, d62_at, simprocAttr, h6', h10', h13']
      refine J.jmp (t := (x5, x6)) hj2 ?_ ?_
      ·first | rfl | (simp only [LN, NN, NT])
      ·first | (simp (disch := first | exact Zd | fail) only [RR, simprocAttr, LN, NN, NT]; done) | (simp (disch := first | exact Zd | fail) only [RR, simprocAttr, LN, fm_app, NN, NT]; done) | rfl
 ·refine J.eq go_seq ?_
  refine J.bind fun x11 h14 => ?_
  have e_h14 := H79_0 _ _ _ h14
  try simp only [NN, NT, LN, simprocAttr, DT] at e_h14
  conv => arg 1; simp (disch := first | exact Zd | fail) only [ZZ, d62_at, simprocAttr, e_h14]
  refine J.ite (fun h15 => ?_) (fun h15 => ?_)
  ·have h15' : x11 = true := h15
   refine J.bind fun x12 h16 => ?_
   have e_h16 := H79_0 _ _ _ h16
   try simp only [NN, NT, LN, simprocAttr, DT] at e_h16
   conv => arg 1; simp (disch := first | exact Zd | fail) only [ZZ, d62_at, simprocAttr, e_h14, h15', e_h16]
   refine J.eq ret_seq ?_
   conv => arg 1; simp (disch := first | exact Zd | fail) only [ZZ, d62_at, simprocAttr, e_h14, h15', e_h16]
   refine J.ite (fun h17 => ?_) (fun h17 => ?_)
   ·have h17' : x12 = true := h17
    conv => arg 1; simp (disch := first | exact Zd | fail) only [ZZ, d62_at, simprocAttr, e_h14, h15', e_h16, h17']
    refine J.jmp (t := ()) hj1 ?_ ?_
    ·first | rfl | (simp only [LN, NN, NT])
    ·first | (simp (disch := first | exact Zd | fail) only [RR, simprocAttr, LN, NN, NT]; done) | (simp (disch := first | exact Zd | fail) only [RR, simprocAttr, LN, fm_app, NN, NT]; done) | rfl
   ·have h17' : x12 = false := Bool.eq_false_iff.2 h17
    refine J.some ?_
    simp (maxSteps := 20000000) (disch := first | exact Zd | fail) only [ZZ, d62_at, simprocAttr, e_h14, h15', e_h16, h17', FF, LN, NN, NT]
  ·have h15' : x11 = false := Bool.eq_false_iff.2 h15
   conv => arg 1; simp (disch := first | exact Zd | fail) only [ZZ, d62_at, simprocAttr, e_h14, h15']
   refine J.eq ret_seq ?_
   refine J.some ?_
   simp (maxSteps := 20000000) (disch := first | exact Zd | fail) only [ZZ, d62_at, simprocAttr, e_h14, h15', FF, LN, NN, NT]
noncomputable def t62 (fu : Nat) : CallP := orE 79 (mkC (fun (t : Int × (List Int)) => ([.v (.int .i64 t.1), .arr t.2.length (lm (ik .i64) t.2)] : List AV)) (fun t => infer_ranged fu t.1 t.2) e79) (noP)
theorem t62_ok (fu : Nat) : CpOK Tryz.prog (t62 fu ) := orE_ok (noP_ok) (mkC_ok (fun t b h => ok79 fu t.1 t.2  b h))
theorem ok62 (fu : Nat) (x1 : Int) (x2 : Int) (x3 : Int) (x4 : Int) (x5 : Int) (x6 : Int) (x7 : Int) (x8 : Bool) (r) (h : infer_Window fu x1 x2 x3 x4 x5 x6 x7 x8 = some r) : PureOK Tryz.prog 62 [.v (.int .i64 x1), .v (.int .i64 x2), .v (.int .i64 x3), .v (.int .i64 x4), .v (.int .i64 x5), .v (.int .i64 x6), .v (.int .i64 x7), .v (.bool x8)] (e62 r) :=
  pure_J mixed (cp := t62 fu ) (t62_ok fu  ) noI_ok i62 (w62 _ fu x1 x2 x3 x4 x5 x6 x7 x8  (fun a0 a1 r h => orE_hit (mkC_at (a := (a0, a1)) (by intro a b h; first | (exact rfl) | (simp only [INJ, IJ] at h; first | exact h | (simp_all [Prod.ext_iff]) )) h))) h
/-! 142: (lattice/infer.ask).windows -/
open Aw (d142)
def d142_at := by have h := tabL Aw.d142.eq_1; simp only [AllAt, Nat.zero_add, Nat.reduceAdd] at h; exact h
theorem i142 : finfo Tryz.prog 142 d142 = some ⟨bodyOf Tryz.f142, [.tmp 4, .tmp 5], [22, 4]⟩ := finfo_at Tryz.func142 rfl (by kernel_rfl) (by kernel_rfl)
def e142 : ((List Int) × Bool) → AV := fun r => .tuple [.fresh 1 r.1.length (lm (ik .i64) r.1), .v (.bool r.2)]
set_option maxHeartbeats 20000000 in
theorem w142 (cp : CallP) (fu : Nat) (x1 : T_infer_ask) (x2 : List Int) (H91_0 : ∀ (a0 : T_infer_ask) (a1 : Int) r, infer_ask_dims fu a0 a1 = some r → cp 91 [.agg (c_T_infer_ask a0), .v (.int .i64 a1)] = some (.arr r.length (lm (ik .i64) r))) (H156_0 : ∀ (a0 : List Int) (a1 : Int) (a2 : Int) r, infer_number fu a0 a1 a2 = some r → cp 156 [.arr a0.length (lm (ik .i64) a0), .v (.int .i64 a1), .v (.int .i64 a2)] = some (.v (.int .i64 r))) (H62_0 : ∀ (a0 : Int) (a1 : Int) (a2 : Int) (a3 : Int) (a4 : Int) (a5 : Int) (a6 : Int) (a7 : Bool) r, infer_Window fu a0 a1 a2 a3 a4 a5 a6 a7 = some r → cp 62 [.v (.int .i64 a0), .v (.int .i64 a1), .v (.int .i64 a2), .v (.int .i64 a3), .v (.int .i64 a4), .v (.int .i64 a5), .v (.int .i64 a6), .v (.bool a7)] = some (.tuple [.v (.int .i64 r.1), .v (.int .i64 r.2.1), .v (.int .i64 r.2.2)])) : J (go Tryz.prog noC cp noI 0 [] d142 fu (fin Tryz.prog [.tmp 4, .tmp 5] [22, 4]) (bodyOf Tryz.f142) (initE 0 [.agg (c_T_infer_ask x1), .arr x2.length (lm (ik .i64) x2)]) [] []) (infer_ask_windows fu x1 x2) e142 := by
 unfold infer_ask_windows e142
 refine J.chk fun h1 => ?_
 conv => arg 1; simp (disch := first | exact Zd | fail) only [bodyOf, Tryz.f142, ZZ, d142_at, simprocAttr, h1]
 refine J.eq go_seq ?_
 conv => arg 1; simp (disch := first | exact Zd | fail) only [ZZ, d142_at, simprocAttr, h1]
 unfold infer_ask_windows_W1
 refine J.loop (fun (s : (List Int) × Int) => ([(1, .arr x2.length (lm (ik .i64) x2)), (2, .ptr (0, 2, 0) 0 0), (6, .own (0, 6, 77) 0 s.1.length s.1.length), (7, .ptr (0, 7, 0) 0 0), (14, .v (.int .i64 s.2))], [((0, 2, 0), .bx true ([.v (.int .i64 75), .v (.int .i64 x1.fs.fAxis), .arr x1.fs.fAxes.length (lm (ik .i64) x1.fs.fAxes), .v (.bool x1.fs.fHasAxes), .v (.bool x1.fs.fKeep), .v (.bool x1.fs.fNoop), .v (.bool x1.fs.fLast), .v (.bool x1.fs.fZero), .arr x1.fs.fPerm.length (lm (ik .i64) x1.fs.fPerm), .v (.bool x1.fs.fHasPerm), .v (.int .u32 x1.fs.fAlpha), .v (.int .u32 x1.fs.fBeta), .v (.int .u32 x1.fs.fEpsilon), .v (.bool x1.fs.fLow), .v (.bool x1.fs.fHigh), .v (.bool x1.fs.fFmod), .v (.int .i64 x1.fs.fTo), .v (.int .i64 x1.fs.fMode), .v (.bool x1.fs.fTransA), .v (.bool x1.fs.fTransB), .v (.int .i64 x1.fs.fGroup), .arr x1.fs.fKernel.length (lm (ik .i64) x1.fs.fKernel), .arr x1.fs.fStrides.length (lm (ik .i64) x1.fs.fStrides), .arr x1.fs.fPads.length (lm (ik .i64) x1.fs.fPads), .arr x1.fs.fDilations.length (lm (ik .i64) x1.fs.fDilations), .v (.int .i64 x1.fs.fAuto), .v (.bool x1.fs.fCeil), .v (.bool x1.fs.fCount), .v (.int .i64 x1.fs.fBlock), .v (.int .i64 x1.fs.fStart), .v (.int .i64 x1.fs.fEnd), .v (.bool x1.fs.fHasEnd), .v (.int .i64 x1.fs.fValue.fType), .arr x1.fs.fValue.fDims.length (lm (ik .i64) x1.fs.fValue.fDims), .arr x1.fs.fValue.fF.length (lm (ik .u32) x1.fs.fValue.fF), .arr x1.fs.fValue.fI.length (lm (ik .i64) x1.fs.fValue.fI), .arr x1.fs.fValue.fB.length (lm (bk) x1.fs.fValue.fB), .arr x1.fin.length (fm c_T_Val x1.fin), .v (.int .i64 x1.fouts)])), ((0, 6, 77), .sl true true 1 s.1.length (lm (ik .i64) s.1)), ((0, 7, 0), .bx true ([.v (.int .i64 x1.fs.fAxis), .arr x1.fs.fAxes.length (lm (ik .i64) x1.fs.fAxes), .v (.bool x1.fs.fHasAxes), .v (.bool x1.fs.fKeep), .v (.bool x1.fs.fNoop), .v (.bool x1.fs.fLast), .v (.bool x1.fs.fZero), .arr x1.fs.fPerm.length (lm (ik .i64) x1.fs.fPerm), .v (.bool x1.fs.fHasPerm), .v (.int .u32 x1.fs.fAlpha), .v (.int .u32 x1.fs.fBeta), .v (.int .u32 x1.fs.fEpsilon), .v (.bool x1.fs.fLow), .v (.bool x1.fs.fHigh), .v (.bool x1.fs.fFmod), .v (.int .i64 x1.fs.fTo), .v (.int .i64 x1.fs.fMode), .v (.bool x1.fs.fTransA), .v (.bool x1.fs.fTransB), .v (.int .i64 x1.fs.fGroup), .arr x1.fs.fKernel.length (lm (ik .i64) x1.fs.fKernel), .arr x1.fs.fStrides.length (lm (ik .i64) x1.fs.fStrides), .arr x1.fs.fPads.length (lm (ik .i64) x1.fs.fPads), .arr x1.fs.fDilations.length (lm (ik .i64) x1.fs.fDilations), .v (.int .i64 x1.fs.fAuto), .v (.bool x1.fs.fCeil), .v (.bool x1.fs.fCount), .v (.int .i64 x1.fs.fBlock), .v (.int .i64 x1.fs.fStart), .v (.int .i64 x1.fs.fEnd), .v (.bool x1.fs.fHasEnd), .v (.int .i64 x1.fs.fValue.fType), .arr x1.fs.fValue.fDims.length (lm (ik .i64) x1.fs.fValue.fDims), .arr x1.fs.fValue.fF.length (lm (ik .u32) x1.fs.fValue.fF), .arr x1.fs.fValue.fI.length (lm (ik .i64) x1.fs.fValue.fI), .arr x1.fs.fValue.fB.length (lm (bk) x1.fs.fValue.fB)]))])) (fun next s => infer_ask_windows_L1 fu x1 x2 (fun x11 x12 => next (x11, x12)) s.1 s.2) (s0 := (([] : List Int), 0)) ?_ ?_ ?_
 ·first | rfl | (simp only [LN, NN, NT])
 ·first | (simp (disch := first | exact Zd | fail) only [RR, simprocAttr, LN, NN, NT]; done) | (simp (disch := first | exact Zd | fail) only [RR, simprocAttr, LN, fm_app, NN, NT]; done) | rfl
 rintro next k1 hn1 ⟨x11, x12⟩
 let nx1 : (List Int) → Int → Option ((List Int) × Bool) := (fun x11 x12 => next (x11, x12))
 show J _ (infer_ask_windows_L1 fu x1 x2 nx1 x11 x12) _
 unfold infer_ask_windows_L1
 conv => arg 1; simp (disch := first | exact Zd | fail) only [ZZ, d142_at, simprocAttr, h1]
 refine J.eq go_seq ?_
 conv => arg 1; simp (disch := first | exact Zd | fail) only [ZZ, d142_at, simprocAttr, h1]
 refine J.ite (fun h2 => ?_) (fun h2 => ?_)
 ·have h2' := decide_eq_true h2
  have h2'' : decide (2 ≤ x12) = false := decide_eq_false (by omega)
  conv => arg 1; simp (disch := first | exact Zd | fail) only [ZZ, d142_at, simprocAttr, h1, h2'', h2']
  refine J.eq ret_seq ?_
  refine J.eq go_seq ?_
  refine J.bind fun x21 h3 => ?_
  have e_h3 := H91_0 _ _ _ h3
  try simp only [NN, NT, LN, simprocAttr, DT] at e_h3
  refine J.at fun x22 h4 h5 h6 => ?_
  refine J.at fun x23 h7 h8 h9 => ?_
  refine J.bind fun x24 h10 => ?_
  have e_h10 := H156_0 _ _ _ _ h10
  try simp only [NN, NT, LN, simprocAttr, DT] at e_h10
  refine J.bind fun x25 h11 => ?_
  have e_h11 := H156_0 _ _ _ _ h11
  try simp only [NN, NT, LN, simprocAttr, DT] at e_h11
  refine J.bind fun x26 h12 => ?_
  have e_h12 := H156_0 _ _ _ _ h12
  try simp only [NN, NT, LN, simprocAttr, DT] at e_h12
  refine J.bind fun x27 h13 => ?_
  have e_h13 := H156_0 _ _ _ _ h13
  try simp only [NN, NT, LN, simprocAttr, DT] at e_h13
  refine J.bind fun x28 h14 => ?_
  have e_h14 := H62_0 _ _ _ _ _ _ _ _ _ h14
  try simp only [NN, NT, LN, simprocAttr, DT] at e_h14
  conv => arg 1; simp (disch := first | exact Zd | fail) only [ZZ, d142_at, simprocAttr, h1, h2'', h2', e_h3, lm_ik h6, lm_ik h9, e_h10, e_h11, e_h12, e_h13, e_h14]
  refine J.eq go_seq ?_
  conv => arg 1; simp (disch := first | exact Zd | fail) only [ZZ, d142_at, simprocAttr, h1, h2'', h2', e_h3, lm_ik h6, lm_ik h9, e_h10, e_h11, e_h12, e_h13, e_h14]
  refine J.ite (fun h15 => ?_) (fun h15 => ?_)
  ·have h15' := decide_eq_true h15
   conv => arg 1; simp (disch := first | exact Zd | fail) only [ZZ, d142_at, simprocAttr, h1, h2'', h2', e_h3, lm_ik h6, lm_ik h9, e_h10, e_h11, e_h12, e_h13, e_h14, h15']
   refine J.eq ret_seq ?_
   refine J.chk fun h16 => ?_
   conv => arg 1; simp (disch := first | exact Zd | fail) only [ZZ, d142_at, simprocAttr, h1, h2'', h2', e_h3, lm_ik h6, lm_ik h9, e_h10, e_h11, e_h12, e_h13, e_h14, h15']
   refine J.eq ret_seq ?_
   conv => arg 1; simp (disch := first | exact Zd | fail) only [ZZ, d142_at, simprocAttr, h1, h2'', h2', e_h3, lm_ik h6, lm_ik h9, e_h10, e_h11, e_h12, e_h13, e_h14, h15']
   refine J.next (s := (x11 ++ ([x28.1]), wk .i64 (x12 + 1))) hn1 ?_ ?_
   ·first | rfl | (simp only [LN, NN, NT])
   ·first | (simp (disch := first | exact Zd | fail) only [RR, simprocAttr, LN, NN, NT]; done) | (simp (disch := first | exact Zd | fail) only [RR, simprocAttr, LN, fm_app, NN, NT]; done) | rfl
  ·have h15' := decide_eq_false h15
   refine J.some ?_
   simp (maxSteps := 20000000) (disch := first | exact Zd | fail) only [ZZ, d142_at, simprocAttr, h1, h2'', h2', e_h3, lm_ik h6, lm_ik h9, e_h10, e_h11, e_h12, e_h13, e_h14, h15', FF, LN, NN, NT]
 ·have h2' := decide_eq_false h2
  have h2'' : decide (2 ≤ x12) = true := decide_eq_true (by omega)
  conv => arg 1; simp (disch := first | exact Zd | fail) only [ZZ, d142_at, simprocAttr, h1, h2'', h2']
  refine J.eq ret_seq ?_
  refine J.some ?_
  simp (maxSteps := 20000000) (disch := first | exact Zd | fail) only [ZZ, d142_at, simprocAttr, h1, h2'', h2', FF, LN, NN, NT]
noncomputable def t142 (fu : Nat) : CallP := orE 91 (mkC (fun (t : T_infer_ask × Int) => ([.agg (c_T_infer_ask t.1), .v (.int .i64 t.2)] : List AV)) (fun t => infer_ask_dims fu t.1 t.2) e91) (orE 156 (mkC (fun (t : (List Int) × Int × Int) => ([.arr t.1.length (lm (ik .i64) t.1), .v (.int .i64 t.2.1), .v (.int .i64 t.2.2)] : List AV)) (fun t => infer_number fu t.1 t.2.1 t.2.2) e156) (orE 62 (mkC (fun (t : Int × Int × Int × Int × Int × Int × Int × Bool) => ([.v (.int .i64 t.1), .v (.int .i64 t.2.1), .v (.int .i64 t.2.2.1), .v (.int .i64 t.2.2.2.1), .v (.int .i64 t.2.2.2.2.1), .v (.int .i64 t.2.2.2.2.2.1), .v (.int .i64 t.2.2.2.2.2.2.1), .v (.bool t.2.2.2.2.2.2.2)] : List AV)) (fun t => infer_Window fu t.1 t.2.1 t.2.2.1 t.2.2.2.1 t.2.2.2.2.1 t.2.2.2.2.2.1 t.2.2.2.2.2.2.1 t.2.2.2.2.2.2.2) e62) (noP)))
theorem t142_ok (fu : Nat) : CpOK Tryz.prog (t142 fu ) := orE_ok (orE_ok (orE_ok (noP_ok) (mkC_ok (fun t b h => ok62 fu t.1 t.2.1 t.2.2.1 t.2.2.2.1 t.2.2.2.2.1 t.2.2.2.2.2.1 t.2.2.2.2.2.2.1 t.2.2.2.2.2.2.2  b h))) (mkC_ok (fun t b h => ok156 fu t.1 t.2.1 t.2.2  b h))) (mkC_ok (fun t b h => ok91 fu t.1 t.2  b h))
theorem ok142 (fu : Nat) (x1 : T_infer_ask) (x2 : List Int) (r) (h : infer_ask_windows fu x1 x2 = some r) : PureOK Tryz.prog 142 [.agg (c_T_infer_ask x1), .arr x2.length (lm (ik .i64) x2)] (e142 r) :=
  pure_J mixed (cp := t142 fu ) (t142_ok fu  ) noI_ok i142 (w142 _ fu x1 x2  (fun a0 a1 r h => orE_hit (mkC_at (a := (a0, a1)) (by intro a b h; first | (exact rfl) | (simp only [INJ, IJ] at h; first | exact h | (simp_all [Prod.ext_iff]) )) h)) (fun a0 a1 a2 r h => orE_miss (by decide) (orE_hit (mkC_at (a := (a0, a1, a2)) (by intro a b h; first | (exact rfl) | (simp only [INJ, IJ] at h; first | exact h | (simp_all [Prod.ext_iff]) )) h))) (fun a0 a1 a2 a3 a4 a5 a6 a7 r h => orE_miss (by decide) (orE_miss (by decide) (orE_hit (mkC_at (a := (a0, a1, a2, a3, a4, a5, a6, a7)) (by intro a b h; first | (exact rfl) | (simp only [INJ, IJ] at h; first | exact h | (simp_all [Prod.ext_iff]) )) h))))) h
/-! 102: lattice/infer.one -/
open Aw (d102)
def d102_at := by have h := tabL Aw.d102.eq_1; simp only [AllAt, Nat.zero_add, Nat.reduceAdd] at h; exact h
theorem i102 : finfo Tryz.prog 102 d102 = some ⟨bodyOf Tryz.f102, [.tmp 2, .tmp 3], [98, 32]⟩ := finfo_at Tryz.func102 rfl (by kernel_rfl) (by kernel_rfl)
def e102 : ((List (List Int)) × Int) → AV := fun r => .tuple [.arr r.1.length (lm (avl (ik .i64)) r.1), .v (.int .i64 r.2)]
set_option maxHeartbeats 20000000 in
theorem w102 (cp : CallP) (fu : Nat) (x1 : List Int) : J (go Tryz.prog noC cp noI 0 [] d102 fu (finS Tryz.prog [.tmp 2, .tmp 3] [98, 32]) (bodyOf Tryz.f102) (initE 0 [.arr x1.length (lm (ik .i64) x1)]) [] []) (infer_one fu x1) e102 := by
 unfold infer_one e102
 refine J.some ?_
 simp (maxSteps := 20000000) (disch := first | exact Zd | fail) only [bodyOf, Tryz.f102, ZZ, d102_at, simprocAttr, SE, FF, LN, NN, NT]
noncomputable def t102 (fu : Nat) : CallP := noP
theorem t102_ok (fu : Nat) : CpOK Tryz.prog (t102 fu ) := noP_ok
theorem ok102 (fu : Nat) (x1 : List Int) (r) (h : infer_one fu x1 = some r) : PureOK Tryz.prog 102 [.arr x1.length (lm (ik .i64) x1)] (e102 r) :=
  pureS_J mixed (cp := t102 fu ) (t102_ok fu  ) noI_ok i102 (w102 _ fu x1  ) h
/-! 99: (lattice/infer.ask).conv -/
open Aw (d99)
def d99_at := by have h := tabL Aw.d99.eq_1; simp only [AllAt, Nat.zero_add, Nat.reduceAdd] at h; exact h
theorem i99 : finfo Tryz.prog 99 d99 = some ⟨bodyOf Tryz.f99, [.tmp 2, .tmp 3], [98, 32]⟩ := finfo_at Tryz.func99 rfl (by kernel_rfl) (by kernel_rfl)
def e99 : ((List (List Int)) × Int) → AV := fun r => .tuple [.arr r.1.length (lm (avl (ik .i64)) r.1), .v (.int .i64 r.2)]
set_option maxHeartbeats 20000000 in
theorem w99 (cp : CallP) (fu : Nat) (x1 : T_infer_ask) (H91_0 : ∀ (a0 : T_infer_ask) (a1 : Int) r, infer_ask_dims fu a0 a1 = some r → cp 91 [.agg (c_T_infer_ask a0), .v (.int .i64 a1)] = some (.arr r.length (lm (ik .i64) r))) (H94_0 : ∀ r, infer_misfit fu = some r → cp 94 [] = some (.tuple [.arr r.1.length (lm (avl (ik .i64)) r.1), .v (.int .i64 r.2)])) (H87_0 : ∀ (a0 : T_infer_ask) (a1 : Int) r, infer_ask_has fu a0 a1 = some r → cp 87 [.agg (c_T_infer_ask a0), .v (.int .i64 a1)] = some (.v (.bool r))) (H128_0 : ∀ (a0 : List Int) (a1 : List Int) r, slices_Equal_int fu a0 a1 = some r → cp 128 [.arr a0.length (lm (ik .i64) a0), .arr a1.length (lm (ik .i64) a1)] = some (.v (.bool r))) (H142_0 : ∀ (a0 : T_infer_ask) (a1 : List Int) r, infer_ask_windows fu a0 a1 = some r → cp 142 [.agg (c_T_infer_ask a0), .arr a1.length (lm (ik .i64) a1)] = some (.tuple [.fresh 1 r.1.length (lm (ik .i64) r.1), .v (.bool r.2)])) (H102_0 : ∀ (a0 : List Int) r, infer_one fu a0 = some r → cp 102 [.arr a0.length (lm (ik .i64) a0)] = some (.tuple [.arr r.1.length (lm (avl (ik .i64)) r.1), .v (.int .i64 r.2)])) : J (go Tryz.prog noCs cp noI 0 [] d99 fu (finS Tryz.prog [.tmp 2, .tmp 3] [98, 32]) (bodyOf Tryz.f99) (initE 0 [.agg (c_T_infer_ask x1)]) [] []) (infer_ask_conv fu x1) e99 := by
 unfold infer_ask_conv e99
 refine J.chk fun h1 => ?_
 refine J.bind fun x2 h2 => ?_
 have e_h2 := H91_0 _ _ _ h2
 try simp only [NN, NT, LN, simprocAttr, DT] at e_h2
 refine J.bind fun x3 h3 => ?_
 have e_h3 := H91_0 _ _ _ h3
 try simp only [NN, NT, LN, simprocAttr, DT] at e_h3
 conv => arg 1; simp (disch := first | exact Zd | fail) only [bodyOf, Tryz.f99, ZZ, d99_at, simprocAttr, aop_callC, aq_callC, SE, h1, e_h2, e_h3]
 refine J.joinS (fun (t : Unit) => ([(1, .ptr (0, 1, 0) 0 0), (4, .arr x2.length (lm (ik .i64) x2)), (5, .arr x3.length (lm (ik .i64) x3))], [((0, 1, 0), .bx true ([.v (.int .i64 75), .v (.int .i64 x1.fs.fAxis), .arr x1.fs.fAxes.length (lm (ik .i64) x1.fs.fAxes), .v (.bool x1.fs.fHasAxes), .v (.bool x1.fs.fKeep), .v (.bool x1.fs.fNoop), .v (.bool x1.fs.fLast), .v (.bool x1.fs.fZero), .arr x1.fs.fPerm.length (lm (ik .i64) x1.fs.fPerm), .v (.bool x1.fs.fHasPerm), .v (.int .u32 x1.fs.fAlpha), .v (.int .u32 x1.fs.fBeta), .v (.int .u32 x1.fs.fEpsilon), .v (.bool x1.fs.fLow), .v (.bool x1.fs.fHigh), .v (.bool x1.fs.fFmod), .v (.int .i64 x1.fs.fTo), .v (.int .i64 x1.fs.fMode), .v (.bool x1.fs.fTransA), .v (.bool x1.fs.fTransB), .v (.int .i64 x1.fs.fGroup), .arr x1.fs.fKernel.length (lm (ik .i64) x1.fs.fKernel), .arr x1.fs.fStrides.length (lm (ik .i64) x1.fs.fStrides), .arr x1.fs.fPads.length (lm (ik .i64) x1.fs.fPads), .arr x1.fs.fDilations.length (lm (ik .i64) x1.fs.fDilations), .v (.int .i64 x1.fs.fAuto), .v (.bool x1.fs.fCeil), .v (.bool x1.fs.fCount), .v (.int .i64 x1.fs.fBlock), .v (.int .i64 x1.fs.fStart), .v (.int .i64 x1.fs.fEnd), .v (.bool x1.fs.fHasEnd), .v (.int .i64 x1.fs.fValue.fType), .arr x1.fs.fValue.fDims.length (lm (ik .i64) x1.fs.fValue.fDims), .arr x1.fs.fValue.fF.length (lm (ik .u32) x1.fs.fValue.fF), .arr x1.fs.fValue.fI.length (lm (ik .i64) x1.fs.fValue.fI), .arr x1.fs.fValue.fB.length (lm (bk) x1.fs.fValue.fB), .arr x1.fin.length (fm c_T_Val x1.fin), .v (.int .i64 x1.fouts)]))])) (fun t => infer_ask_conv_k1 fu x1 x2 x3) ?_ (fun hj1 => ?_)
 ·rintro ⟨⟩
  show J _ (infer_ask_conv_k1 fu x1 x2 x3) _
  unfold infer_ask_conv_k1
  refine J.joinS (fun (t : Unit) => ([(1, .ptr (0, 1, 0) 0 0), (4, .arr x2.length (lm (ik .i64) x2)), (5, .arr x3.length (lm (ik .i64) x3))], [((0, 1, 0), .bx true ([.v (.int .i64 75), .v (.int .i64 x1.fs.fAxis), .arr x1.fs.fAxes.length (lm (ik .i64) x1.fs.fAxes), .v (.bool x1.fs.fHasAxes), .v (.bool x1.fs.fKeep), .v (.bool x1.fs.fNoop), .v (.bool x1.fs.fLast), .v (.bool x1.fs.fZero), .arr x1.fs.fPerm.length (lm (ik .i64) x1.fs.fPerm), .v (.bool x1.fs.fHasPerm), .v (.int .u32 x1.fs.fAlpha), .v (.int .u32 x1.fs.fBeta), .v (.int .u32 x1.fs.fEpsilon), .v (.bool x1.fs.fLow), .v (.bool x1.fs.fHigh), .v (.bool x1.fs.fFmod), .v (.int .i64 x1.fs.fTo), .v (.int .i64 x1.fs.fMode), .v (.bool x1.fs.fTransA), .v (.bool x1.fs.fTransB), .v (.int .i64 x1.fs.fGroup), .arr x1.fs.fKernel.length (lm (ik .i64) x1.fs.fKernel), .arr x1.fs.fStrides.length (lm (ik .i64) x1.fs.fStrides), .arr x1.fs.fPads.length (lm (ik .i64) x1.fs.fPads), .arr x1.fs.fDilations.length (lm (ik .i64) x1.fs.fDilations), .v (.int .i64 x1.fs.fAuto), .v (.bool x1.fs.fCeil), .v (.bool x1.fs.fCount), .v (.int .i64 x1.fs.fBlock), .v (.int .i64 x1.fs.fStart), .v (.int .i64 x1.fs.fEnd), .v (.bool x1.fs.fHasEnd), .v (.int .i64 x1.fs.fValue.fType), .arr x1.fs.fValue.fDims.length (lm (ik .i64) x1.fs.fValue.fDims), .arr x1.fs.fValue.fF.length (lm (ik .u32) x1.fs.fValue.fF), .arr x1.fs.fValue.fI.length (lm (ik .i64) x1.fs.fValue.fI), .arr x1.fs.fValue.fB.length (lm (bk) x1.fs.fValue.fB), .arr x1.fin.length (fm c_T_Val x1.fin), .v (.int .i64 x1.fouts)]))])) (fun t => infer_ask_conv_k2 fu x1 x2 x3) ?_ (fun hj2 => ?_)
  ·rintro ⟨⟩
   show J _ (infer_ask_conv_k2 fu x1 x2 x3) _
   unfold infer_ask_conv_k2
   refine J.chk fun h4 => ?_
   refine J.bind fun x4 h5 => ?_
   have e_h5 := H142_0 _ _ _ h5
   try simp only [NN, NT, LN, simprocAttr, DT] at e_h5
   conv => arg 1; simp (disch := first | exact Zd | fail) only [ZZ, d99_at, simprocAttr, aop_callC, aq_callC, SE, h1, e_h2, e_h3, e_h5]
   refine J.eq go_seq ?_
   conv => arg 1; simp (disch := first | exact Zd | fail) only [ZZ, d99_at, simprocAttr, aop_callC, aq_callC, SE, h1, e_h2, e_h3, e_h5]
   refine J.ite (fun h6 => ?_) (fun h6 => ?_)
   ·have h6' : x4.2 = true := h6
    conv => arg 1; simp (disch := first | exact Zd | fail) only [ZZ, d99_at, simprocAttr, aop_callC, aq_callC, SE, h1, e_h2, e_h3, e_h5, h6']
    refine J.eq ret_seq ?_
    refine J.at fun x5 h7 h8 h9 => ?_
    replace h9 : x2[0]? = some x5 := h9
    refine J.at fun x6 h10 h11 h12 => ?_
    replace h12 : x3[0]? = some x6 := h12
    refine J.at fun x7 h13 h14 h15 => ?_
    replace h15 : x4.1[0]? = some x7 := h15
    refine J.at fun x8 h16 h17 h18 => ?_
    replace h18 : x4.1[1]? = some x8 := h18
    refine J.bind fun x9 h19 => ?_
    have e_h19 := H102_0 _ _ h19
    try simp only [NN, NT, LN, simprocAttr, DT] at e_h19
    refine J.some ?_
    simp (maxSteps := 20000000) (disch := first | exact Zd | fail) only [ZZ, d99_at, simprocAttr, aop_callC, aq_callC, SE, h1, e_h2, e_h3, e_h5, h6', lm_ik h9, lm_ik h12, lm_ik h15, lm_ik h18, e_h19, FF, LN, NN, NT]
   ·have h6' : x4.2 = false := Bool.eq_false_iff.2 h6
    refine J.bind fun x10 h20 => ?_
    have e_h20 := H94_0  _ h20
    try simp only [NN, NT, LN, simprocAttr, DT] at e_h20
    refine J.some ?_
    simp (maxSteps := 20000000) (disch := first | exact Zd | fail) only [ZZ, d99_at, simprocAttr, aop_callC, aq_callC, SE, h1, e_h2, e_h3, e_h5, h6', e_h20, FF, LN, NN, NT]
  ·refine J.eq go_seq ?_
   refine J.bind fun x11 h21 => ?_
   have e_h21 := H87_0 _ _ _ h21
   try simp only [NN, NT, LN, simprocAttr, DT] at e_h21
   conv => arg 1; simp (disch := first | exact Zd | fail) only [ZZ, d99_at, simprocAttr, aop_callC, aq_callC, SE, h1, e_h2, e_h3, e_h21]
   refine J.ite (fun h22 => ?_) (fun h22 => ?_)
   ·have h22' : x11 = true := h22
    refine J.bind fun x12 h23 => ?_
    have e_h23 := H91_0 _ _ _ h23
    try simp only [NN, NT, LN, simprocAttr, DT] at e_h23
    refine J.chk fun h24 => ?_
    refine J.bind fun x13 h25 => ?_
    have e_h25 := H128_0 _ _ _ h25
    try simp only [NN, NT, LN, simprocAttr, DT] at e_h25
    conv => arg 1; simp (disch := first | exact Zd | fail) only [ZZ, d99_at, simprocAttr, aop_callC, aq_callC, SE, h1, e_h2, e_h3, e_h21, h22', e_h23, e_h25]
    refine J.ite (fun h26 => ?_) (fun h26 => ?_)
    ·have h26' : x13 = true := h26
     conv => arg 1; simp (disch := first | exact Zd | fail) only [ZZ, d99_at, simprocAttr, aop_callC, aq_callC, SE, h1, e_h2, e_h3, e_h21, h22', e_h23, e_h25, h26']
     refine J.ite (fun h27 => ?_) (fun h27 => ?_)
     ·have h27' := decide_eq_true h27
      have h27'' : decide ((x1.fs.fKernel.length : Int) ≤ 0) = false := decide_eq_false (by omega)
      refine J.chk fun h28 => ?_
      refine J.bind fun x14 h29 => ?_
      have e_h29 := H128_0 _ _ _ h29
      try simp only [NN, NT, LN, simprocAttr, DT] at e_h29
      conv => arg 1; simp (disch := first | exact Zd | fail) only [ZZ, d99_at, simprocAttr, aop_callC, aq_callC, SE, h1, e_h2, e_h3, e_h21, h22', e_h23, e_h25, h26', h27'', h27', e_h29]
      refine J.eq ret_seq ?_
      conv => arg 1; simp (disch := first | exact Zd | fail) only [ZZ, d99_at, simprocAttr, aop_callC, aq_callC, SE, h1, e_h2, e_h3, e_h21, h22', e_h23, e_h25, h26', h27'', h27', e_h29]
      refine J.ite (fun h30 => ?_) (fun h30 => ?_)
      ·have h30' : x14 = true := h30
       conv => arg 1; simp (disch := first | exact Zd | fail) only [ZZ, d99_at, simprocAttr, aop_callC, aq_callC, SE, h1, e_h2, e_h3, e_h21, h22', e_h23, e_h25, h26', h27'', h27', e_h29, h30']
       refine J.jmp (t := ()) hj2 ?_ ?_
       ·first | rfl | (simp only [LN, NN, NT])
       ·first | (simp (disch := first | exact Zd | fail) only [RR, simprocAttr, LN, NN, NT]; done) | (simp (disch := first | exact Zd | fail) only [RR, simprocAttr, LN, fm_app, NN, NT]; done) | rfl
      ·have h30' : x14 = false := Bool.eq_false_iff.2 h30
       refine J.bind fun x15 h31 => ?_
       have e_h31 := H94_0  _ h31
       try simp only [NN, NT, LN, simprocAttr, DT] at e_h31
       refine J.some ?_
       simp (maxSteps := 20000000) (disch := first | exact Zd | fail) only [ZZ, d99_at, simprocAttr, aop_callC, aq_callC, SE, h1, e_h2, e_h3, e_h21, h22', e_h23, e_h25, h26', h27'', h27', e_h29, h30', e_h31, FF, LN, NN, NT]
     ·have h27' := decide_eq_false h27
      have h27'' : decide ((x1.fs.fKernel.length : Int) ≤ 0) = true := decide_eq_true (by omega)
      conv => arg 1; simp (disch := first | exact Zd | fail) only [ZZ, d99_at, simprocAttr, aop_callC, aq_callC, SE, h1, e_h2, e_h3, e_h21, h22', e_h23, e_h25, h26', h27'', h27']
      refine J.eq ret_seq ?_
      conv => arg 1; simp (disch := first | exact Zd | fail) only [ZZ, d99_at, simprocAttr, aop_callC, aq_callC, SE, h1, e_h2, e_h3, e_h21, h22', e_h23, e_h25, h26', h27'', h27']
      refine J.jmp (t := ()) hj2 ?_ ?_
      ·first | rfl | (simp only [LN, NN, NT])
      ·first | (simp (disch := first | exact Zd | fail) only [RR, simprocAttr, LN, NN, NT]; done) | (simp (disch := first | exact Zd | fail) only [RR, simprocAttr, LN, fm_app, NN, NT]; done) | rfl
    ·have h26' : x13 = false := Bool.eq_false_iff.2 h26
     conv => arg 1; simp (disch := first | exact Zd | fail) only [ZZ, d99_at, simprocAttr, aop_callC, aq_callC, SE, h1, e_h2, e_h3, e_h21, h22', e_h23, e_h25, h26']
     refine J.eq ret_seq ?_
     refine J.bind fun x16 h32 => ?_
     have e_h32 := H94_0  _ h32
     try simp only [NN, NT, LN, simprocAttr, DT] at e_h32
     refine J.some ?_
     simp (maxSteps := 20000000) (disch := first | exact Zd | fail) only [ZZ, d99_at, simprocAttr, aop_callC, aq_callC, SE, h1, e_h2, e_h3, e_h21, h22', e_h23, e_h25, h26', e_h32, FF, LN, NN, NT]
   ·have h22' : x11 = false := Bool.eq_false_iff.2 h22
    conv => arg 1; simp (disch := first | exact Zd | fail) only [ZZ, d99_at, simprocAttr, aop_callC, aq_callC, SE, h1, e_h2, e_h3, e_h21, h22']
    refine J.ite (fun h33 => ?_) (fun h33 => ?_)
    ·have h33' := decide_eq_true h33
     have h33'' : decide ((x1.fs.fKernel.length : Int) ≤ 0) = false := decide_eq_false (by omega)
     refine J.chk fun h34 => ?_
     refine J.bind fun x17 h35 => ?_
     have e_h35 := H128_0 _ _ _ h35
     try simp only [NN, NT, LN, simprocAttr, DT] at e_h35
     conv => arg 1; simp (disch := first | exact Zd | fail) only [ZZ, d99_at, simprocAttr, aop_callC, aq_callC, SE, h1, e_h2, e_h3, e_h21, h22', h33'', h33', e_h35]
     refine J.eq ret_seq ?_
     conv => arg 1; simp (disch := first | exact Zd | fail) only [ZZ, d99_at, simprocAttr, aop_callC, aq_callC, SE, h1, e_h2, e_h3, e_h21, h22', h33'', h33', e_h35]
     refine J.ite (fun h36 => ?_) (fun h36 => ?_)
     ·have h36' : x17 = true := h36
      conv => arg 1; simp (disch := first | exact Zd | fail) only [ZZ, d99_at, simprocAttr, aop_callC, aq_callC, SE, h1, e_h2, e_h3, e_h21, h22', h33'', h33', e_h35, h36']
      refine J.jmp (t := ()) hj2 ?_ ?_
      ·first | rfl | (simp only [LN, NN, NT])
      ·first | (simp (disch := first | exact Zd | fail) only [RR, simprocAttr, LN, NN, NT]; done) | (simp (disch := first | exact Zd | fail) only [RR, simprocAttr, LN, fm_app, NN, NT]; done) | rfl
     ·have h36' : x17 = false := Bool.eq_false_iff.2 h36
      refine J.bind fun x18 h37 => ?_
      have e_h37 := H94_0  _ h37
      try simp only [NN, NT, LN, simprocAttr, DT] at e_h37
      refine J.some ?_
      simp (maxSteps := 20000000) (disch := first | exact Zd | fail) only [ZZ, d99_at, simprocAttr, aop_callC, aq_callC, SE, h1, e_h2, e_h3, e_h21, h22', h33'', h33', e_h35, h36', e_h37, FF, LN, NN, NT]
    ·have h33' := decide_eq_false h33
     have h33'' : decide ((x1.fs.fKernel.length : Int) ≤ 0) = true := decide_eq_true (by omega)
     conv => arg 1; simp (disch := first | exact Zd | fail) only [ZZ, d99_at, simprocAttr, aop_callC, aq_callC, SE, h1, e_h2, e_h3, e_h21, h22', h33'', h33']
     refine J.eq ret_seq ?_
     conv => arg 1; simp (disch := first | exact Zd | fail) only [ZZ, d99_at, simprocAttr, aop_callC, aq_callC, SE, h1, e_h2, e_h3, e_h21, h22', h33'', h33']
     refine J.jmp (t := ()) hj2 ?_ ?_
     ·first | rfl | (simp only [LN, NN, NT])
     ·first | (simp (disch := first | exact Zd | fail) only [RR, simprocAttr, LN, NN, NT]; done) | (simp (disch := first | exact Zd | fail) only [RR, simprocAttr, LN, fm_app, NN, NT]; done) | rfl
 ·refine J.eq go_seq ?_
  conv => arg 1; simp (disch := first | exact Zd | fail) only [ZZ, d99_at, simprocAttr, aop_callC, aq_callC, SE, h1, e_h2, e_h3]
  refine J.ite (fun h38 => ?_) (fun h38 => ?_)
  ·have h38' := decide_eq_true h38
   conv => arg 1; simp (disch := first | exact Zd | fail) only [ZZ, d99_at, simprocAttr, aop_callC, aq_callC, SE, h1, e_h2, e_h3, h38']
   refine J.ite (fun h39 => ?_) (fun h39 => ?_)
   ·have h39' := decide_eq_true h39
    refine J.at fun x19 h40 h41 h42 => ?_
    replace h42 : x2[1]? = some x19 := h42
    conv => arg 1; simp (disch := first | exact Zd | fail) only [ZZ, d99_at, simprocAttr, aop_callC, aq_callC, SE, h1, e_h2, e_h3, h38', h39', lm_ik h42]
    refine J.ite (fun h43 => ?_) (fun h43 => ?_)
    ·have h43' := decide_eq_true h43
     conv => arg 1; simp (disch := first | exact Zd | fail) only [ZZ, d99_at, simprocAttr, aop_callC, aq_callC, SE, h1, e_h2, e_h3, h38', h39', lm_ik h42, h43']
     refine J.eq ret_seq ?_
     refine J.bind fun x20 h44 => ?_
     have e_h44 := H94_0  _ h44
     try simp only [NN, NT, LN, simprocAttr, DT] at e_h44
     refine J.some ?_
     simp (maxSteps := 20000000) (disch := first | exact Zd | fail) only [ZZ, d99_at, simprocAttr, aop_callC, aq_callC, SE, h1, e_h2, e_h3, h38', h39', lm_ik h42, h43', e_h44, FF, LN, NN, NT]
    ·have h43' := decide_eq_false h43
     refine J.at fun x21 h45 h46 h47 => ?_
     replace h47 : x3[0]? = some x21 := h47
     conv => arg 1; simp (disch := first | exact Zd | fail) only [ZZ, d99_at, simprocAttr, aop_callC, aq_callC, SE, h1, e_h2, e_h3, h38', h39', lm_ik h42, h43', lm_ik h47]
     refine J.ite (fun h48 => ?_) (fun h48 => ?_)
     ·have h48' := decide_eq_true h48
      conv => arg 1; simp (disch := first | exact Zd | fail) only [ZZ, d99_at, simprocAttr, aop_callC, aq_callC, SE, h1, e_h2, e_h3, h38', h39', lm_ik h42, h43', lm_ik h47, h48']
      refine J.eq ret_seq ?_
      refine J.bind fun x22 h49 => ?_
      have e_h49 := H94_0  _ h49
      try simp only [NN, NT, LN, simprocAttr, DT] at e_h49
      refine J.some ?_
      simp (maxSteps := 20000000) (disch := first | exact Zd | fail) only [ZZ, d99_at, simprocAttr, aop_callC, aq_callC, SE, h1, e_h2, e_h3, h38', h39', lm_ik h42, h43', lm_ik h47, h48', e_h49, FF, LN, NN, NT]
     ·have h48' := decide_eq_false h48
      refine J.chk fun h50 => ?_
      conv => arg 1; simp (disch := first | exact Zd | fail) only [ZZ, d99_at, simprocAttr, aop_callC, aq_callC, SE, h1, e_h2, e_h3, h38', h39', lm_ik h42, h43', lm_ik h47, h48']
      refine J.ite (fun h51 => ?_) (fun h51 => ?_)
      ·have h51' := decide_eq_true h51
       conv => arg 1; simp (disch := first | exact Zd | fail) only [ZZ, d99_at, simprocAttr, aop_callC, aq_callC, SE, h1, e_h2, e_h3, h38', h39', lm_ik h42, h43', lm_ik h47, h48', h51']
       refine J.ite (fun h52 => ?_) (fun h52 => ?_)
       ·have h52' := decide_eq_true h52
        refine J.at fun x23 h53 h54 h55 => ?_
        replace h55 : x3[1]? = some x23 := h55
        conv => arg 1; simp (disch := first | exact Zd | fail) only [ZZ, d99_at, simprocAttr, aop_callC, aq_callC, SE, h1, e_h2, e_h3, h38', h39', lm_ik h42, h43', lm_ik h47, h48', h51', h52', lm_ik h55]
        refine J.eq ret_seq ?_
        conv => arg 1; simp (disch := first | exact Zd | fail) only [ZZ, d99_at, simprocAttr, aop_callC, aq_callC, SE, h1, e_h2, e_h3, h38', h39', lm_ik h42, h43', lm_ik h47, h48', h51', h52', lm_ik h55]
        refine J.ite (fun h56 => ?_) (fun h56 => ?_)
        ·have h56' := decide_eq_true h56
         conv => arg 1; simp (disch := first | exact Zd | fail) only [ZZ, d99_at, simprocAttr, aop_callC, aq_callC, SE, h1, e_h2, e_h3, h38', h39', lm_ik h42, h43', lm_ik h47, h48', h51', h52', lm_ik h55, h56']
         refine J.jmp (t := ()) hj1 ?_ ?_
         ·first | rfl | (simp only [LN, NN, NT])
         ·first | (simp (disch := first | exact Zd | fail) only [RR, simprocAttr, LN, NN, NT]; done) | (simp (disch := first | exact Zd | fail) only [RR, simprocAttr, LN, fm_app, NN, NT]; done) | rfl
        ·have h56' := decide_eq_false h56
         refine J.bind fun x24 h57 => ?_
         have e_h57 := H94_0  _ h57
         try simp only [NN, NT, LN, simprocAttr, DT] at e_h57
         refine J.some ?_
         simp (maxSteps := 20000000) (disch := first | exact Zd | fail) only [ZZ, d99_at, simprocAttr, aop_callC, aq_callC, SE, h1, e_h2, e_h3, h38', h39', lm_ik h42, h43', lm_ik h47, h48', h51', h52', lm_ik h55, h56', e_h57, FF, LN, NN, NT]
       ·have h52' := decide_eq_false h52
        conv => arg 1; simp (disch := first | exact Zd | fail) only [ZZ, d99_at, simprocAttr, aop_callC, aq_callC, SE, h1, e_h2, e_h3, h38', h39', lm_ik h42, h43', lm_ik h47, h48', h51', h52']
        refine J.eq ret_seq ?_
        refine J.bind fun x25 h58 => ?_
        have e_h58 := H94_0  _ h58
        try simp only [NN, NT, LN, simprocAttr, DT] at e_h58
        refine J.some ?_
        simp (maxSteps := 20000000) (disch := first | exact Zd | fail) only [ZZ, d99_at, simprocAttr, aop_callC, aq_callC, SE, h1, e_h2, e_h3, h38', h39', lm_ik h42, h43', lm_ik h47, h48', h51', h52', e_h58, FF, LN, NN, NT]
      ·have h51' := decide_eq_false h51
       conv => arg 1; simp (disch := first | exact Zd | fail) only [ZZ, d99_at, simprocAttr, aop_callC, aq_callC, SE, h1, e_h2, e_h3, h38', h39', lm_ik h42, h43', lm_ik h47, h48', h51']
       refine J.eq ret_seq ?_
       refine J.bind fun x26 h59 => ?_
       have e_h59 := H94_0  _ h59
       try simp only [NN, NT, LN, simprocAttr, DT] at e_h59
       refine J.some ?_
       simp (maxSteps := 20000000) (disch := first | exact Zd | fail) only [ZZ, d99_at, simprocAttr, aop_callC, aq_callC, SE, h1, e_h2, e_h3, h38', h39', lm_ik h42, h43', lm_ik h47, h48', h51', e_h59, FF, LN, NN, NT]
   ·have h39' := decide_eq_false h39
    conv => arg 1; simp (disch := first | exact Zd | fail) only [ZZ, d99_at, simprocAttr, aop_callC, aq_callC, SE, h1, e_h2, e_h3, h38', h39']
    refine J.eq ret_seq ?_
    refine J.bind fun x27 h60 => ?_
    have e_h60 := H94_0  _ h60
    try simp only [NN, NT, LN, simprocAttr, DT] at e_h60
    refine J.some ?_
    simp (maxSteps := 20000000) (disch := first | exact Zd | fail) only [ZZ, d99_at, simprocAttr, aop_callC, aq_callC, SE, h1, e_h2, e_h3, h38', h39', e_h60, FF, LN, NN, NT]
  ·have h38' := decide_eq_false h38
   conv => arg 1; simp (disch := first | exact Zd | fail) only [ZZ, d99_at, simprocAttr, aop_callC, aq_callC, SE, h1, e_h2, e_h3, h38']
   refine J.eq ret_seq ?_
   refine J.bind fun x28 h61 => ?_
   have e_h61 := H94_0  _ h61
   try simp only [NN, NT, LN, simprocAttr, DT] at e_h61
   refine J.some ?_
   simp (maxSteps := 20000000) (disch := first | exact Zd | fail) only [ZZ, d99_at, simprocAttr, aop_callC, aq_callC, SE, h1, e_h2, e_h3, h38', e_h61, FF, LN, NN, NT]
noncomputable def t99 (fu : Nat) : CallP := orE 91 (mkC (fun (t : T_infer_ask × Int) => ([.agg (c_T_infer_ask t.1), .v (.int .i64 t.2)] : List AV)) (fun t => infer_ask_dims fu t.1 t.2) e91) (orE 94 (mkC (fun (t : Unit) => ([] : List AV)) (fun t => infer_misfit fu ) e94) (orE 87 (mkC (fun (t : T_infer_ask × Int) => ([.agg (c_T_infer_ask t.1), .v (.int .i64 t.2)] : List AV)) (fun t => infer_ask_has fu t.1 t.2) e87) (orE 128 (mkC (fun (t : (List Int) × (List Int)) => ([.arr t.1.length (lm (ik .i64) t.1), .arr t.2.length (lm (ik .i64) t.2)] : List AV)) (fun t => slices_Equal_int fu t.1 t.2) e128) (orE 142 (mkC (fun (t : T_infer_ask × (List Int)) => ([.agg (c_T_infer_ask t.1), .arr t.2.length (lm (ik .i64) t.2)] : List AV)) (fun t => infer_ask_windows fu t.1 t.2) e142) (orE 102 (mkC (fun (t : List Int) => ([.arr t.length (lm (ik .i64) t)] : List AV)) (fun t => infer_one fu t) e102) (noP))))))
theorem t99_ok (fu : Nat) : CpOK Tryz.prog (t99 fu ) := orE_ok (orE_ok (orE_ok (orE_ok (orE_ok (orE_ok (noP_ok) (mkC_ok (fun t b h => ok102 fu t  b h))) (mkC_ok (fun t b h => ok142 fu t.1 t.2  b h))) (mkC_ok (fun t b h => ok128 fu t.1 t.2  b h))) (mkC_ok (fun t b h => ok87 fu t.1 t.2  b h))) (mkC_ok (fun t b h => ok94 fu   b h))) (mkC_ok (fun t b h => ok91 fu t.1 t.2  b h))
theorem ok99 (fu : Nat) (x1 : T_infer_ask) (r) (h : infer_ask_conv fu x1 = some r) : PureOK Tryz.prog 99 [.agg (c_T_infer_ask x1)] (e99 r) :=
  pureS_J mixed (cp := t99 fu ) (t99_ok fu  ) noI_ok i99 (w99 _ fu x1  (fun a0 a1 r h => orE_hit (mkC_at (a := (a0, a1)) (by intro a b h; first | (exact rfl) | (simp only [INJ, IJ] at h; first | exact h | (simp_all [Prod.ext_iff]) )) h)) (fun  r h => orE_miss (by decide) (orE_hit (mkC_at (a := ()) (by intro a b h; first | (exact rfl) | (simp only [INJ, IJ] at h; first | exact h | (simp_all [Prod.ext_iff]) )) h))) (fun a0 a1 r h => orE_miss (by decide) (orE_miss (by decide) (orE_hit (mkC_at (a := (a0, a1)) (by intro a b h; first | (exact rfl) | (simp only [INJ, IJ] at h; first | exact h | (simp_all [Prod.ext_iff]) )) h)))) (fun a0 a1 r h => orE_miss (by decide) (orE_miss (by decide) (orE_miss (by decide) (orE_hit (mkC_at (a := (a0, a1)) (by intro a b h; first | (exact rfl) | (simp only [INJ, IJ] at h; first | exact h | (simp_all [Prod.ext_iff]) )) h))))) (fun a0 a1 r h => orE_miss (by decide) (orE_miss (by decide) (orE_miss (by decide) (orE_miss (by decide) (orE_hit (mkC_at (a := (a0, a1)) (by intro a b h; first | (exact rfl) | (simp only [INJ, IJ] at h; first | exact h | (simp_all [Prod.ext_iff]) )) h)))))) (fun a0 r h => orE_miss (by decide) (orE_miss (by decide) (orE_miss (by decide) (orE_miss (by decide) (orE_miss (by decide) (orE_hit (mkC_at (a := a0) (by intro a b h; first | (exact rfl) | (simp only [INJ, IJ] at h; first | exact h | (simp_all [Prod.ext_iff]) )) h)))))))) h
/-! 68: (lattice/infer.ask).shapes -/
open Aw (d68)
def d68_at := by have h := tabL Aw.d68.eq_1; simp only [AllAt, Nat.zero_add, Nat.reduceAdd] at h; exact h
theorem i68 : finfo Tryz.prog 68 d68 = some ⟨bodyOf Tryz.f68, [.tmp 2, .tmp 3], [98, 32]⟩ := finfo_at Tryz.func68 rfl (by kernel_rfl) (by kernel_rfl)
def e68 : ((List (List Int)) × Int) → AV := fun r => .tuple [.arr r.1.length (lm (avl (ik .i64)) r.1), .v (.int .i64 r.2)]
set_option maxHeartbeats 20000000 in
theorem w68 (cp : CallP) (fu : Nat) (x1 : T_infer_ask) (H91_0 : ∀ (a0 : T_infer_ask) (a1 : Int) r, infer_ask_dims fu a0 a1 = some r → cp 91 [.agg (c_T_infer_ask a0), .v (.int .i64 a1)] = some (.arr r.length (lm (ik .i64) r))) (H99_0 : ∀ (a0 : T_infer_ask) r, infer_ask_conv fu a0 = some r → cp 99 [.agg (c_T_infer_ask a0)] = some (.tuple [.arr r.1.length (lm (avl (ik .i64)) r.1), .v (.int .i64 r.2)])) : J (go Tryz.prog noC cp noI 0 [] d68 fu (finS Tryz.prog [.tmp 2, .tmp 3] [98, 32]) (bodyOf Tryz.f68) (initE 0 [.agg (c_T_infer_ask x1)]) [] []) (infer_ask_shapes fu x1) e68 := by
 unfold infer_ask_shapes e68
 refine J.chk fun h1 => ?_
 refine J.bind fun x2 h2 => ?_
 have e_h2 := H91_0 _ _ _ h2
 try simp only [NN, NT, LN, simprocAttr, DT] at e_h2
 conv => arg 1; simp (disch := first | exact Zd | fail) only [bodyOf, Tryz.f68, ZZ, d68_at, simprocAttr, SE, h1, e_h2]
 refine J.eq go_seq ?_
 conv => arg 1; simp (disch := first | exact Zd | fail) only [ZZ, d68_at, simprocAttr, SE, h1, e_h2]
 refine J.joinS (fun (t : Unit) => ([(1, .ptr (0, 1, 0) 0 0), (4, .arr x2.length (lm (ik .i64) x2)), (9, .v (.int .i64 75)), (10, .v (.bool (decide ((75 : Int) = 42))))], [((0, 1, 0), .bx true ([.v (.int .i64 75), .v (.int .i64 x1.fs.fAxis), .arr x1.fs.fAxes.length (lm (ik .i64) x1.fs.fAxes), .v (.bool x1.fs.fHasAxes), .v (.bool x1.fs.fKeep), .v (.bool x1.fs.fNoop), .v (.bool x1.fs.fLast), .v (.bool x1.fs.fZero), .arr x1.fs.fPerm.length (lm (ik .i64) x1.fs.fPerm), .v (.bool x1.fs.fHasPerm), .v (.int .u32 x1.fs.fAlpha), .v (.int .u32 x1.fs.fBeta), .v (.int .u32 x1.fs.fEpsilon), .v (.bool x1.fs.fLow), .v (.bool x1.fs.fHigh), .v (.bool x1.fs.fFmod), .v (.int .i64 x1.fs.fTo), .v (.int .i64 x1.fs.fMode), .v (.bool x1.fs.fTransA), .v (.bool x1.fs.fTransB), .v (.int .i64 x1.fs.fGroup), .arr x1.fs.fKernel.length (lm (ik .i64) x1.fs.fKernel), .arr x1.fs.fStrides.length (lm (ik .i64) x1.fs.fStrides), .arr x1.fs.fPads.length (lm (ik .i64) x1.fs.fPads), .arr x1.fs.fDilations.length (lm (ik .i64) x1.fs.fDilations), .v (.int .i64 x1.fs.fAuto), .v (.bool x1.fs.fCeil), .v (.bool x1.fs.fCount), .v (.int .i64 x1.fs.fBlock), .v (.int .i64 x1.fs.fStart), .v (.int .i64 x1.fs.fEnd), .v (.bool x1.fs.fHasEnd), .v (.int .i64 x1.fs.fValue.fType), .arr x1.fs.fValue.fDims.length (lm (ik .i64) x1.fs.fValue.fDims), .arr x1.fs.fValue.fF.length (lm (ik .u32) x1.fs.fValue.fF), .arr x1.fs.fValue.fI.length (lm (ik .i64) x1.fs.fValue.fI), .arr x1.fs.fValue.fB.length (lm (bk) x1.fs.fValue.fB), .arr x1.fin.length (fm c_T_Val x1.fin), .v (.int .i64 x1.fouts)]))])) (fun t => infer_ask_shapes_k1 fu x1) ?_ (fun hj1 => ?_)
 ·rintro ⟨⟩
  show J _ (infer_ask_shapes_k1 fu x1) _
  unfold infer_ask_shapes_k1
  conv => arg 1; simp (disch := first | exact Zd | fail) only [ZZ, d68_at, simprocAttr, SE, h1, e_h2]
  refine J.joinS (fun (t : Unit) => ([(1, .ptr (0, 1, 0) 0 0), (4, .arr x2.length (lm (ik .i64) x2)), (9, .v (.int .i64 75)), (10, .v (.bool (decide ((75 : Int) = 42)))), (54, .v (.bool (decide ((75 : Int) = 64))))], [((0, 1, 0), .bx true ([.v (.int .i64 75), .v (.int .i64 x1.fs.fAxis), .arr x1.fs.fAxes.length (lm (ik .i64) x1.fs.fAxes), .v (.bool x1.fs.fHasAxes), .v (.bool x1.fs.fKeep), .v (.bool x1.fs.fNoop), .v (.bool x1.fs.fLast), .v (.bool x1.fs.fZero), .arr x1.fs.fPerm.length (lm (ik .i64) x1.fs.fPerm), .v (.bool x1.fs.fHasPerm), .v (.int .u32 x1.fs.fAlpha), .v (.int .u32 x1.fs.fBeta), .v (.int .u32 x1.fs.fEpsilon), .v (.bool x1.fs.fLow), .v (.bool x1.fs.fHigh), .v (.bool x1.fs.fFmod), .v (.int .i64 x1.fs.fTo), .v (.int .i64 x1.fs.fMode), .v (.bool x1.fs.fTransA), .v (.bool x1.fs.fTransB), .v (.int .i64 x1.fs.fGroup), .arr x1.fs.fKernel.length (lm (ik .i64) x1.fs.fKernel), .arr x1.fs.fStrides.length (lm (ik .i64) x1.fs.fStrides), .arr x1.fs.fPads.length (lm (ik .i64) x1.fs.fPads), .arr x1.fs.fDilations.length (lm (ik .i64) x1.fs.fDilations), .v (.int .i64 x1.fs.fAuto), .v (.bool x1.fs.fCeil), .v (.bool x1.fs.fCount), .v (.int .i64 x1.fs.fBlock), .v (.int .i64 x1.fs.fStart), .v (.int .i64 x1.fs.fEnd), .v (.bool x1.fs.fHasEnd), .v (.int .i64 x1.fs.fValue.fType), .arr x1.fs.fValue.fDims.length (lm (ik .i64) x1.fs.fValue.fDims), .arr x1.fs.fValue.fF.length (lm (ik .u32) x1.fs.fValue.fF), .arr x1.fs.fValue.fI.length (lm (ik .i64) x1.fs.fValue.fI), .arr x1.fs.fValue.fB.length (lm (bk) x1.fs.fValue.fB), .arr x1.fin.length (fm c_T_Val x1.fin), .v (.int .i64 x1.fouts)]))])) (fun t => infer_ask_shapes_k2 fu x1) ?_ (fun hj2 => ?_)
  ·rintro ⟨⟩
   show J _ (infer_ask_shapes_k2 fu x1) _
   unfold infer_ask_shapes_k2
   conv => arg 1; simp (disch := first | exact Zd | fail) only [ZZ, d68_at, simprocAttr, SE, h1, e_h2]
   refine J.joinS (fun (t : Unit) => ([(1, .ptr (0, 1, 0) 0 0), (4, .arr x2.length (lm (ik .i64) x2)), (9, .v (.int .i64 75)), (10, .v (.bool (decide ((75 : Int) = 42)))), (54, .v (.bool (decide ((75 : Int) = 64)))), (78, .v (.bool (decide ((75 : Int) = 71))))], [((0, 1, 0), .bx true ([.v (.int .i64 75), .v (.int .i64 x1.fs.fAxis), .arr x1.fs.fAxes.length (lm (ik .i64) x1.fs.fAxes), .v (.bool x1.fs.fHasAxes), .v (.bool x1.fs.fKeep), .v (.bool x1.fs.fNoop), .v (.bool x1.fs.fLast), .v (.bool x1.fs.fZero), .arr x1.fs.fPerm.length (lm (ik .i64) x1.fs.fPerm), .v (.bool x1.fs.fHasPerm), .v (.int .u32 x1.fs.fAlpha), .v (.int .u32 x1.fs.fBeta), .v (.int .u32 x1.fs.fEpsilon), .v (.bool x1.fs.fLow), .v (.bool x1.fs.fHigh), .v (.bool x1.fs.fFmod), .v (.int .i64 x1.fs.fTo), .v (.int .i64 x1.fs.fMode), .v (.bool x1.fs.fTransA), .v (.bool x1.fs.fTransB), .v (.int .i64 x1.fs.fGroup), .arr x1.fs.fKernel.length (lm (ik .i64) x1.fs.fKernel), .arr x1.fs.fStrides.length (lm (ik .i64) x1.fs.fStrides), .arr x1.fs.fPads.length (lm (ik .i64) x1.fs.fPads), .arr x1.fs.fDilations.length (lm (ik .i64) x1.fs.fDilations), .v (.int .i64 x1.fs.fAuto), .v (.bool x1.fs.fCeil), .v (.bool x1.fs.fCount), .v (.int .i64 x1.fs.fBlock), .v (.int .i64 x1.fs.fStart), .v (.int .i64 x1.fs.fEnd), .v (.bool x1.fs.fHasEnd), .v (.int .i64 x1.fs.fValue.fType), .arr x1.fs.fValue.fDims.length (lm (ik .i64) x1.fs.fValue.fDims), .arr x1.fs.fValue.fF.length (lm (ik .u32) x1.fs.fValue.fF), .arr x1.fs.fValue.fI.length (lm (ik .i64) x1.fs.fValue.fI), .arr x1.fs.fValue.fB.length (lm (bk) x1.fs.fValue.fB), .arr x1.fin.length (fm c_T_Val x1.fin), .v (.int .i64 x1.fouts)]))])) (fun t => infer_ask_shapes_k3 fu x1) ?_ (fun hj3 => ?_)
   ·rintro ⟨⟩
    show J _ (infer_ask_shapes_k3 fu x1) _
    unfold infer_ask_shapes_k3
    refine J.bind fun x3 h3 => ?_
    have e_h3 := H99_0 _ _ h3
    try simp only [NN, NT, LN, simprocAttr, DT] at e_h3
    refine J.some ?_
    simp (maxSteps := 20000000) (disch := first | exact Zd | fail) only [ZZ, d68_at, simprocAttr, SE, h1, e_h2, e_h3, FF, LN, NN, NT]
   ·conv => arg 1; simp (disch := first | exact Zd | fail) only [ZZ, d68_at, simprocAttr, SE, h1, e_h2]
    refine J.jmp (t := ()) hj3 ?_ ?_
    ·first | rfl | (simp only [LN, NN, NT])
    ·first | (simp (disch := first | exact Zd | fail) only [RR, simprocAttr, LN, NN, NT]; done) | (simp (disch := first | exact Zd | fail) only [RR, simprocAttr, LN, fm_app, NN, NT]; done) | rfl
  ·conv => arg 1; simp (disch := first | exact Zd | fail) only [ZZ, d68_at, simprocAttr, SE, h1, e_h2]
   refine J.jmp (t := ()) hj2 ?_ ?_
   ·first | rfl | (simp only [LN, NN, NT])
   ·first | (simp (disch := first | exact Zd | fail) only [RR, simprocAttr, LN, NN, NT]; done) | (simp (disch := first | exact Zd | fail) only [RR, simprocAttr, LN, fm_app, NN, NT]; done) | rfl
 ·conv => arg 1; simp (disch := first | exact Zd | fail) only [ZZ, d68_at, simprocAttr, SE, h1, e_h2]
  refine J.jmp (t := ()) hj1 ?_ ?_
  ·first | rfl | (simp only [LN, NN, NT])
  ·first | (simp (disch := first | exact Zd | fail) only [RR, simprocAttr, LN, NN, NT]; done) | (simp (disch := first | exact Zd | fail) only [RR, simprocAttr, LN, fm_app, NN, NT]; done) | rfl
noncomputable def t68 (fu : Nat) : CallP := orE 91 (mkC (fun (t : T_infer_ask × Int) => ([.agg (c_T_infer_ask t.1), .v (.int .i64 t.2)] : List AV)) (fun t => infer_ask_dims fu t.1 t.2) e91) (orE 99 (mkC (fun (t : T_infer_ask) => ([.agg (c_T_infer_ask t)] : List AV)) (fun t => infer_ask_conv fu t) e99) (noP))
theorem t68_ok (fu : Nat) : CpOK Tryz.prog (t68 fu ) := orE_ok (orE_ok (noP_ok) (mkC_ok (fun t b h => ok99 fu t  b h))) (mkC_ok (fun t b h => ok91 fu t.1 t.2  b h))
theorem ok68 (fu : Nat) (x1 : T_infer_ask) (r) (h : infer_ask_shapes fu x1 = some r) : PureOK Tryz.prog 68 [.agg (c_T_infer_ask x1)] (e68 r) :=
  pureS_J mixed (cp := t68 fu ) (t68_ok fu  ) noI_ok i68 (w68 _ fu x1  (fun a0 a1 r h => orE_hit (mkC_at (a := (a0, a1)) (by intro a b h; first | (exact rfl) | (simp only [INJ, IJ] at h; first | exact h | (simp_all [Prod.ext_iff]) )) h)) (fun a0 r h => orE_miss (by decide) (orE_hit (mkC_at (a := a0) (by intro a b h; first | (exact rfl) | (simp only [INJ, IJ] at h; first | exact h | (simp_all [Prod.ext_iff]) )) h)))) h
/-! 69: (lattice/infer.ask).out -/
open Aw (d69)
def d69_at := by have h := tabL Aw.d69.eq_1; simp only [AllAt, Nat.zero_add, Nat.reduceAdd] at h; exact h
theorem i69 : finfo Tryz.prog 69 d69 = some ⟨bodyOf Tryz.f69, [.tmp 2], [3]⟩ := finfo_at Tryz.func69 rfl (by kernel_rfl) (by kernel_rfl)
def e69 : Int → AV := fun r => .v (.int .i64 r)
set_option maxHeartbeats 20000000 in
theorem w69 (cp : CallP) (fu : Nat) (x1 : T_infer_ask) (H103_0 : ∀ (a0 : T_infer_ask) (a1 : Int) r, infer_ask_val fu a0 a1 = some r → cp 103 [.agg (c_T_infer_ask a0), .v (.int .i64 a1)] = some (.agg [.v (.int .i64 r.fType), .arr r.fDims.length (lm (ik .i64) r.fDims), .v (.bool r.fConst), .v (.int .i64 r.fT.fType), .arr r.fT.fDims.length (lm (ik .i64) r.fT.fDims), .arr r.fT.fF.length (lm (ik .u32) r.fT.fF), .arr r.fT.fI.length (lm (ik .i64) r.fT.fI), .arr r.fT.fB.length (lm (bk) r.fT.fB)])) : J (go Tryz.prog noC cp noI 0 [] d69 fu (fin Tryz.prog [.tmp 2] [3]) (bodyOf Tryz.f69) (initE 0 [.agg (c_T_infer_ask x1)]) [] []) (infer_ask_out fu x1) e69 := by
 unfold infer_ask_out e69
 refine J.chk fun h1 => ?_
 conv => arg 1; simp (disch := first | exact Zd | fail) only [bodyOf, Tryz.f69, ZZ, d69_at, simprocAttr, h1]
 refine J.joinS (fun (t : Unit) => ([(1, .ptr (0, 1, 0) 0 0)], [((0, 1, 0), .bx true ([.v (.int .i64 75), .v (.int .i64 x1.fs.fAxis), .arr x1.fs.fAxes.length (lm (ik .i64) x1.fs.fAxes), .v (.bool x1.fs.fHasAxes), .v (.bool x1.fs.fKeep), .v (.bool x1.fs.fNoop), .v (.bool x1.fs.fLast), .v (.bool x1.fs.fZero), .arr x1.fs.fPerm.length (lm (ik .i64) x1.fs.fPerm), .v (.bool x1.fs.fHasPerm), .v (.int .u32 x1.fs.fAlpha), .v (.int .u32 x1.fs.fBeta), .v (.int .u32 x1.fs.fEpsilon), .v (.bool x1.fs.fLow), .v (.bool x1.fs.fHigh), .v (.bool x1.fs.fFmod), .v (.int .i64 x1.fs.fTo), .v (.int .i64 x1.fs.fMode), .v (.bool x1.fs.fTransA), .v (.bool x1.fs.fTransB), .v (.int .i64 x1.fs.fGroup), .arr x1.fs.fKernel.length (lm (ik .i64) x1.fs.fKernel), .arr x1.fs.fStrides.length (lm (ik .i64) x1.fs.fStrides), .arr x1.fs.fPads.length (lm (ik .i64) x1.fs.fPads), .arr x1.fs.fDilations.length (lm (ik .i64) x1.fs.fDilations), .v (.int .i64 x1.fs.fAuto), .v (.bool x1.fs.fCeil), .v (.bool x1.fs.fCount), .v (.int .i64 x1.fs.fBlock), .v (.int .i64 x1.fs.fStart), .v (.int .i64 x1.fs.fEnd), .v (.bool x1.fs.fHasEnd), .v (.int .i64 x1.fs.fValue.fType), .arr x1.fs.fValue.fDims.length (lm (ik .i64) x1.fs.fValue.fDims), .arr x1.fs.fValue.fF.length (lm (ik .u32) x1.fs.fValue.fF), .arr x1.fs.fValue.fI.length (lm (ik .i64) x1.fs.fValue.fI), .arr x1.fs.fValue.fB.length (lm (bk) x1.fs.fValue.fB), .arr x1.fin.length (fm c_T_Val x1.fin), .v (.int .i64 x1.fouts)]))])) (fun t => infer_ask_out_k1 fu x1) ?_ (fun hj1 => ?_)
 ·rintro ⟨⟩
  show J _ (infer_ask_out_k1 fu x1) _
  unfold infer_ask_out_k1
  refine J.bind fun x2 h2 => ?_
  have e_h2 := H103_0 _ _ _ h2
  try simp only [NN, NT, LN, simprocAttr, DT] at e_h2
  refine J.some ?_
  simp (maxSteps := 20000000) (disch := first | exact Zd | fail) only [ZZ, d69_at, simprocAttr, h1, e_h2, FF, LN, NN, NT]
 ·conv => arg 1; simp (disch := first | exact Zd | fail) only [ZZ, d69_at, simprocAttr, h1]
  refine J.joinS (fun (t : Unit) => ([(1, .ptr (0, 1, 0) 0 0), (4, .v (.int .i64 75)), (5, .v (.bool (decide ((75 : Int) = 41))))], [((0, 1, 0), .bx true ([.v (.int .i64 75), .v (.int .i64 x1.fs.fAxis), .arr x1.fs.fAxes.length (lm (ik .i64) x1.fs.fAxes), .v (.bool x1.fs.fHasAxes), .v (.bool x1.fs.fKeep), .v (.bool x1.fs.fNoop), .v (.bool x1.fs.fLast), .v (.bool x1.fs.fZero), .arr x1.fs.fPerm.length (lm (ik .i64) x1.fs.fPerm), .v (.bool x1.fs.fHasPerm), .v (.int .u32 x1.fs.fAlpha), .v (.int .u32 x1.fs.fBeta), .v (.int .u32 x1.fs.fEpsilon), .v (.bool x1.fs.fLow), .v (.bool x1.fs.fHigh), .v (.bool x1.fs.fFmod), .v (.int .i64 x1.fs.fTo), .v (.int .i64 x1.fs.fMode), .v (.bool x1.fs.fTransA), .v (.bool x1.fs.fTransB), .v (.int .i64 x1.fs.fGroup), .arr x1.fs.fKernel.length (lm (ik .i64) x1.fs.fKernel), .arr x1.fs.fStrides.length (lm (ik .i64) x1.fs.fStrides), .arr x1.fs.fPads.length (lm (ik .i64) x1.fs.fPads), .arr x1.fs.fDilations.length (lm (ik .i64) x1.fs.fDilations), .v (.int .i64 x1.fs.fAuto), .v (.bool x1.fs.fCeil), .v (.bool x1.fs.fCount), .v (.int .i64 x1.fs.fBlock), .v (.int .i64 x1.fs.fStart), .v (.int .i64 x1.fs.fEnd), .v (.bool x1.fs.fHasEnd), .v (.int .i64 x1.fs.fValue.fType), .arr x1.fs.fValue.fDims.length (lm (ik .i64) x1.fs.fValue.fDims), .arr x1.fs.fValue.fF.length (lm (ik .u32) x1.fs.fValue.fF), .arr x1.fs.fValue.fI.length (lm (ik .i64) x1.fs.fValue.fI), .arr x1.fs.fValue.fB.length (lm (bk) x1.fs.fValue.fB), .arr x1.fin.length (fm c_T_Val x1.fin), .v (.int .i64 x1.fouts)]))])) (fun t => infer_ask_out_k2 fu x1) ?_ (fun hj2 => ?_)
  ·rintro ⟨⟩
   show J _ (infer_ask_out_k2 fu x1) _
   unfold infer_ask_out_k2
   conv => arg 1; simp (disch := first | exact Zd | fail) only [ZZ, d69_at, simprocAttr, h1]
   refine J.joinS (fun (t : Unit) => ([(1, .ptr (0, 1, 0) 0 0), (4, .v (.int .i64 75)), (5, .v (.bool (decide ((75 : Int) = 41)))), (17, .v (.bool (decide ((75 : Int) = 71))))], [((0, 1, 0), .bx true ([.v (.int .i64 75), .v (.int .i64 x1.fs.fAxis), .arr x1.fs.fAxes.length (lm (ik .i64) x1.fs.fAxes), .v (.bool x1.fs.fHasAxes), .v (.bool x1.fs.fKeep), .v (.bool x1.fs.fNoop), .v (.bool x1.fs.fLast), .v (.bool x1.fs.fZero), .arr x1.fs.fPerm.length (lm (ik .i64) x1.fs.fPerm), .v (.bool x1.fs.fHasPerm), .v (.int .u32 x1.fs.fAlpha), .v (.int .u32 x1.fs.fBeta), .v (.int .u32 x1.fs.fEpsilon), .v (.bool x1.fs.fLow), .v (.bool x1.fs.fHigh), .v (.bool x1.fs.fFmod), .v (.int .i64 x1.fs.fTo), .v (.int .i64 x1.fs.fMode), .v (.bool x1.fs.fTransA), .v (.bool x1.fs.fTransB), .v (.int .i64 x1.fs.fGroup), .arr x1.fs.fKernel.length (lm (ik .i64) x1.fs.fKernel), .arr x1.fs.fStrides.length (lm (ik .i64) x1.fs.fStrides), .arr x1.fs.fPads.length (lm (ik .i64) x1.fs.fPads), .arr x1.fs.fDilations.length (lm (ik .i64) x1.fs.fDilations), .v (.int .i64 x1.fs.fAuto), .v (.bool x1.fs.fCeil), .v (.bool x1.fs.fCount), .v (.int .i64 x1.fs.fBlock), .v (.int .i64 x1.fs.fStart), .v (.int .i64 x1.fs.fEnd), .v (.bool x1.fs.fHasEnd), .v (.int .i64 x1.fs.fValue.fType), .arr x1.fs.fValue.fDims.length (lm (ik .i64) x1.fs.fValue.fDims), .arr x1.fs.fValue.fF.length (lm (ik .u32) x1.fs.fValue.fF), .arr x1.fs.fValue.fI.length (lm (ik .i64) x1.fs.fValue.fI), .arr x1.fs.fValue.fB.length (lm (bk) x1.fs.fValue.fB), .arr x1.fin.length (fm c_T_Val x1.fin), .v (.int .i64 x1.fouts)]))])) (fun t => infer_ask_out_k3 fu x1) ?_ (fun hj3 => ?_)
   ·rintro ⟨⟩
    show J _ (infer_ask_out_k3 fu x1) _
    unfold infer_ask_out_k3
    conv => arg 1; simp (disch := first | exact Zd | fail) only [ZZ, d69_at, simprocAttr, h1]
    refine J.jmp (t := ()) hj1 ?_ ?_
    ·first | rfl | (simp only [LN, NN, NT])
    ·first | (simp (disch := first | exact Zd | fail) only [RR, simprocAttr, LN, NN, NT]; done) | (simp (disch := first | exact Zd | fail) only [RR, simprocAttr, LN, fm_app, NN, NT]; done) | rfl
   ·conv => arg 1; simp (disch := first | exact Zd | fail) only [ZZ, d69_at, simprocAttr, h1]
    refine J.jmp (t := ()) hj3 ?_ ?_
    ·first | rfl | (simp only [LN, NN, NT])
    ·first | (simp (disch := first | exact Zd | fail) only [RR, simprocAttr, LN, NN, NT]; done) | (simp (disch := first | exact Zd | fail) only [RR, simprocAttr, LN, fm_app, NN, NT]; done) | rfl
  ·conv => arg 1; simp (disch := first | exact Zd | fail) only [ZZ, d69_at, simprocAttr, h1]
   refine J.jmp (t := ()) hj2 ?_ ?_
   ·first | rfl | (simp only [LN, NN, NT])
   ·first | (simp (disch := first | exact Zd | fail) only [RR, simprocAttr, LN, NN, NT]; done) | (simp (disch := first | exact Zd | fail) only [RR, simprocAttr, LN, fm_app, NN, NT]; done) | rfl
noncomputable def t69 (fu : Nat) : CallP := orE 103 (mkC (fun (t : T_infer_ask × Int) => ([.agg (c_T_infer_ask t.1), .v (.int .i64 t.2)] : List AV)) (fun t => infer_ask_val fu t.1 t.2) e103) (noP)
theorem t69_ok (fu : Nat) : CpOK Tryz.prog (t69 fu ) := orE_ok (noP_ok) (mkC_ok (fun t b h => ok103 fu t.1 t.2  b h))
theorem ok69 (fu : Nat) (x1 : T_infer_ask) (r) (h : infer_ask_out fu x1 = some r) : PureOK Tryz.prog 69 [.agg (c_T_infer_ask x1)] (e69 r) :=
  pure_J mixed (cp := t69 fu ) (t69_ok fu  ) noI_ok i69 (w69 _ fu x1  (fun a0 a1 r h => orE_hit (mkC_at (a := (a0, a1)) (by intro a b h; first | (exact rfl) | (simp only [INJ, IJ] at h; first | exact h | (simp_all [Prod.ext_iff]) )) h))) h
/-! 37: lattice/infer.Node -/
open Aw (d37)
def d37_at := by have h := tabL Aw.d37.eq_1; simp only [AllAt, Nat.zero_add, Nat.reduceAdd] at h; exact h
theorem i37 : finfo Tryz.prog 37 d37 = some ⟨bodyOf Tryz.f37, [.tmp 8, .tmp 9], [73, 32]⟩ := finfo_at Tryz.func37 rfl (by kernel_rfl) (by kernel_rfl)
def e37 : ((List T_Val) × Int) → AV := fun r => .tuple [.arr r.1.length (fm c_T_Val r.1), .v (.int .i64 r.2)]
set_option maxHeartbeats 20000000 in
theorem w37 (cp : CallP) (fu : Nat) (x1 : Int) (x2 : T_Setting) (x3 : List T_Val) (x4 : Int) (H66_0 : ∀ (a0 : T_infer_ask) r, infer_ask_complete fu a0 = some r → cp 66 [.agg (c_T_infer_ask a0)] = some (.v (.bool r))) (H67_0 : ∀ (a0 : T_infer_ask) r, infer_ask_wrong fu a0 = some r → cp 67 [.agg (c_T_infer_ask a0)] = some (.v (.int .i64 r))) (H68_0 : ∀ (a0 : T_infer_ask) r, infer_ask_shapes fu a0 = some r → cp 68 [.agg (c_T_infer_ask a0)] = some (.tuple [.arr r.1.length (lm (avl (ik .i64)) r.1), .v (.int .i64 r.2)])) (H30_0 : ∀ (a0 : List Int) r, shape_Size fu a0 = some r → cp 30 [.arr a0.length (lm (ik .i64) a0)] = some (.tuple [.v (.int .i64 r.1), .v (.int .i64 r.2)])) (H69_0 : ∀ (a0 : T_infer_ask) r, infer_ask_out fu a0 = some r → cp 69 [.agg (c_T_infer_ask a0)] = some (.v (.int .i64 r))) (H70_0 : ∀ (a0 : List Int) r, slices_Clone_int fu a0 = some r → cp 70 [.arr a0.length (lm (ik .i64) a0)] = some (.fresh 1 r.length (lm (ik .i64) r))) : J (go Tryz.prog noC cp noI 0 [] d37 fu (finS Tryz.prog [.tmp 8, .tmp 9] [73, 32]) (bodyOf Tryz.f37) (initE 0 [.v (.int .i64 x1), .agg (c_T_Setting x2), .arr x3.length (fm c_T_Val x3), .v (.int .i64 x4)]) [] []) (infer_Node fu x1 x2 x3 x4) e37 := by
 unfold infer_Node e37
 refine J.chk fun h1 => ?_
 conv => arg 1; simp (disch := first | exact Zd | fail) only [bodyOf, Tryz.f37, ZZ, d37_at, simprocAttr, SE, h1]
 refine J.eq go_seq ?_
 refine J.bind fun x5 h2 => ?_
 have e_h2 := H66_0 _ _ h2
 try simp only [NN, NT, LN, simprocAttr, DT] at e_h2
 conv => arg 1; simp (disch := first | exact Zd | fail) only [ZZ, d37_at, simprocAttr, SE, h1, e_h2]
 refine J.ite (fun h3 => ?_) (fun h3 => ?_)
 ·have h3' : x5 = true := h3
  conv => arg 1; simp (disch := first | exact Zd | fail) only [ZZ, d37_at, simprocAttr, SE, h1, e_h2, h3']
  refine J.eq ret_seq ?_
  refine J.eq go_seq ?_
  refine J.bind fun x6 h4 => ?_
  have e_h4 := H67_0 _ _ h4
  try simp only [NN, NT, LN, simprocAttr, DT] at e_h4
  conv => arg 1; simp (disch := first | exact Zd | fail) only [ZZ, d37_at, simprocAttr, SE, h1, e_h2, h3', e_h4]
  refine J.ite (fun h5 => ?_) (fun h5 => ?_)
  ·have h5' := decide_eq_true h5
   conv => arg 1; simp (disch := first | exact Zd | fail) only [ZZ, d37_at, simprocAttr, SE, h1, e_h2, h3', e_h4, h5']
   refine J.eq ret_seq ?_
   refine J.bind fun x7 h6 => ?_
   have e_h6 := H68_0 _ _ h6
   try simp only [NN, NT, LN, simprocAttr, DT] at e_h6
   conv => arg 1; simp (disch := first | exact Zd | fail) only [ZZ, d37_at, simprocAttr, SE, h1, e_h2, h3', e_h4, h5', e_h6]
   refine J.eq go_seq ?_
   conv => arg 1; simp (disch := first | exact Zd | fail) only [ZZ, d37_at, simprocAttr, SE, h1, e_h2, h3', e_h4, h5', e_h6]
   refine J.ite (fun h7 => ?_) (fun h7 => ?_)
   ·have h7' := decide_eq_true h7
    conv => arg 1; simp (disch := first | exact Zd | fail) only [ZZ, d37_at, simprocAttr, SE, h1, e_h2, h3', e_h4, h5', e_h6, h7']
    refine J.eq ret_seq ?_
    conv => arg 1; simp (disch := first | exact Zd | fail) only [ZZ, d37_at, simprocAttr, SE, h1, e_h2, h3', e_h4, h5', e_h6, h7']
    refine J.eq go_seq ?_
    conv => arg 1; simp (disch := first | exact Zd | fail) only [ZZ, d37_at, simprocAttr, SE, h1, e_h2, h3', e_h4, h5', e_h6, h7']
    unfold infer_Node_W1
    refine J.loop (fun (s : (List T_Val) × Int) => ([(10, .ptr (0, 10, 0) 0 0), (14, .own (0, 14, 77) 0 s.1.length s.1.length), (40, .arr x7.1.length (lm (avl (ik .i64)) x7.1)), (41, .v (.int .i64 (x7.1.length : Int))), (42, .v (.int .i64 s.2))], [((0, 10, 0), .bx true ([.v (.int .i64 75), .v (.int .i64 x2.fAxis), .arr x2.fAxes.length (lm (ik .i64) x2.fAxes), .v (.bool x2.fHasAxes), .v (.bool x2.fKeep), .v (.bool x2.fNoop), .v (.bool x2.fLast), .v (.bool x2.fZero), .arr x2.fPerm.length (lm (ik .i64) x2.fPerm), .v (.bool x2.fHasPerm), .v (.int .u32 x2.fAlpha), .v (.int .u32 x2.fBeta), .v (.int .u32 x2.fEpsilon), .v (.bool x2.fLow), .v (.bool x2.fHigh), .v (.bool x2.fFmod), .v (.int .i64 x2.fTo), .v (.int .i64 x2.fMode), .v (.bool x2.fTransA), .v (.bool x2.fTransB), .v (.int .i64 x2.fGroup), .arr x2.fKernel.length (lm (ik .i64) x2.fKernel), .arr x2.fStrides.length (lm (ik .i64) x2.fStrides), .arr x2.fPads.length (lm (ik .i64) x2.fPads), .arr x2.fDilations.length (lm (ik .i64) x2.fDilations), .v (.int .i64 x2.fAuto), .v (.bool x2.fCeil), .v (.bool x2.fCount), .v (.int .i64 x2.fBlock), .v (.int .i64 x2.fStart), .v (.int .i64 x2.fEnd), .v (.bool x2.fHasEnd), .v (.int .i64 x2.fValue.fType), .arr x2.fValue.fDims.length (lm (ik .i64) x2.fValue.fDims), .arr x2.fValue.fF.length (lm (ik .u32) x2.fValue.fF), .arr x2.fValue.fI.length (lm (ik .i64) x2.fValue.fI), .arr x2.fValue.fB.length (lm (bk) x2.fValue.fB), .arr x3.length (fm c_T_Val x3), .v (.int .i64 x4)])), ((0, 14, 77), .sl true true 8 s.1.length (fm c_T_Val s.1))])) (fun next s => infer_Node_L1 fu x2 x3 x4 x7 (fun x12 x13 => next (x12, x13)) s.1 s.2) (s0 := (([] : List T_Val), 0)) ?_ ?_ ?_
    ·first | rfl | (simp only [LN, NN, NT])
    ·first | (simp (disch := first | exact Zd | fail) only [RR, simprocAttr, LN, NN, NT]; done) | (simp (disch := first | exact Zd | fail) only [RR, simprocAttr, LN, fm_app, NN, NT]; done) | rfl
    rintro next k1 hn1 ⟨x12, x13⟩
    let nx1 : (List T_Val) → Int → Option ((List T_Val) × Int) := (fun x12 x13 => next (x12, x13))
    show J _ (infer_Node_L1 fu x2 x3 x4 x7 nx1 x12 x13) _
    unfold infer_Node_L1
    conv => arg 1; simp (disch := first | exact Zd | fail) only [ZZ, d37_at, simprocAttr, SE, h1, e_h2, h3', e_h4, h5', e_h6, h7']
    refine J.eq go_seq ?_
    conv => arg 1; simp (disch := first | exact Zd | fail) only [ZZ, d37_at, simprocAttr, SE, h1, e_h2, h3', e_h4, h5', e_h6, h7']
    refine J.ite (fun h8 => ?_) (fun h8 => ?_)
    ·have h8' := decide_eq_true h8
     have h8'' : decide ((x7.1.length : Int) ≤ x13) = false := decide_eq_false (by omega)
     conv => arg 1; simp (disch := first | exact Zd | fail) only [ZZ, d37_at, simprocAttr, SE, h1, e_h2, h3', e_h4, h5', e_h6, h7', h8'', h8']
     refine J.eq ret_seq ?_
     refine J.eq go_seq ?_
     refine J.at fun x18 h9 h10 h11 => ?_
     conv => arg 1; simp (disch := first | exact Zd | fail) only [ZZ, d37_at, simprocAttr, SE, h1, e_h2, h3', e_h4, h5', e_h6, h7', h8'', h8', lm_avl h11]
     refine J.eq go_seq ?_
     refine J.bind fun x19 h12 => ?_
     have e_h12 := H30_0 _ _ h12
     try simp only [NN, NT, LN, simprocAttr, DT] at e_h12
     conv => arg 1; simp (disch := first | exact Zd | fail) only [ZZ, d37_at, simprocAttr, SE, h1, e_h2, h3', e_h4, h5', e_h6, h7', h8'', h8', lm_avl h11, e_h12]
     refine J.ite (fun h13 => ?_) (fun h13 => ?_)
     ·have h13' := decide_eq_true h13
      conv => arg 1; simp (disch := first | exact Zd | fail) only [ZZ, d37_at, simprocAttr, SE, h1, e_h2, h3', e_h4, h5', e_h6, h7', h8'', h8', lm_avl h11, e_h12, h13']
      refine J.eq ret_seq ?_
      refine J.bind fun x20 h14 => ?_
      have e_h14 := H69_0 _ _ h14
      try simp only [NN, NT, LN, simprocAttr, DT] at e_h14
      refine J.bind fun x21 h15 => ?_
      have e_h15 := H70_0 _ _ h15
      try simp only [NN, NT, LN, simprocAttr, DT] at e_h15
      refine J.chk fun h16 => ?_
      conv => arg 1; simp (disch := first | exact Zd | fail) only [ZZ, d37_at, simprocAttr, SE, h1, e_h2, h3', e_h4, h5', e_h6, h7', h8'', h8', lm_avl h11, e_h12, h13', e_h14, e_h15]
      refine J.eq ret_seq ?_
      conv => arg 1; simp (disch := first | exact Zd | fail) only [ZZ, d37_at, simprocAttr, SE, h1, e_h2, h3', e_h4, h5', e_h6, h7', h8'', h8', lm_avl h11, e_h12, h13', e_h14, e_h15]
      refine J.next (s := (x12 ++ ([T_Val.mk x20 x21 false (T_Tensor.mk 0 ([]) ([]) ([]) ([]))]), wk .i64 (x13 + 1))) hn1 ?_ ?_
      ·first | rfl | (simp only [LN, NN, NT])
      ·first | (simp (disch := first | exact Zd | fail) only [RR, simprocAttr, LN, NN, NT]; done) | (simp (disch := first | exact Zd | fail) only [RR, simprocAttr, LN, fm_app, NN, NT]; done) | rfl
     ·have h13' := decide_eq_false h13
      refine J.some ?_
      simp (maxSteps := 20000000) (disch := first | exact Zd | fail) only [ZZ, d37_at, simprocAttr, SE, h1, e_h2, h3', e_h4, h5', e_h6, h7', h8'', h8', lm_avl h11, e_h12, h13', FF, LN, NN, NT]
    ·have h8' := decide_eq_false h8
     have h8'' : decide ((x7.1.length : Int) ≤ x13) = true := decide_eq_true (by omega)
     conv => arg 1; simp (disch := first | exact Zd | fail) only [ZZ, d37_at, simprocAttr, SE, h1, e_h2, h3', e_h4, h5', e_h6, h7', h8'', h8']
     refine J.eq ret_seq ?_
     refine J.some ?_
     simp (maxSteps := 20000000) (disch := first | exact Zd | fail) only [ZZ, d37_at, simprocAttr, SE, h1, e_h2, h3', e_h4, h5', e_h6, h7', h8'', h8', FF, LN, NN, NT]
   ·have h7' := decide_eq_false h7
    refine J.some ?_
    simp (maxSteps := 20000000) (disch := first | exact Zd | fail) only [ZZ, d37_at, simprocAttr, SE, h1, e_h2, h3', e_h4, h5', e_h6, h7', FF, LN, NN, NT]
  ·have h5' := decide_eq_false h5
   refine J.some ?_
   simp (maxSteps := 20000000) (disch := first | exact Zd | fail) only [ZZ, d37_at, simprocAttr, SE, h1, e_h2, h3', e_h4, h5', FF, LN, NN, NT]
 ·have h3' : x5 = false := Bool.eq_false_iff.2 h3
  refine J.some ?_
  simp (maxSteps := 20000000) (disch := first | exact Zd | fail) only [ZZ, d37_at, simprocAttr, SE, h1, e_h2, h3', FF, LN, NN, NT]
noncomputable def t37 (fu : Nat) : CallP := orE 66 (mkC (fun (t : T_infer_ask) => ([.agg (c_T_infer_ask t)] : List AV)) (fun t => infer_ask_complete fu t) e66) (orE 67 (mkC (fun (t : T_infer_ask) => ([.agg (c_T_infer_ask t)] : List AV)) (fun t => infer_ask_wrong fu t) e67) (orE 68 (mkC (fun (t : T_infer_ask) => ([.agg (c_T_infer_ask t)] : List AV)) (fun t => infer_ask_shapes fu t) e68) (orE 30 (mkC (fun (t : List Int) => ([.arr t.length (lm (ik .i64) t)] : List AV)) (fun t => shape_Size fu t) e30) (orE 69 (mkC (fun (t : T_infer_ask) => ([.agg (c_T_infer_ask t)] : List AV)) (fun t => infer_ask_out fu t) e69) (orE 70 (mkC (fun (t : List Int) => ([.arr t.length (lm (ik .i64) t)] : List AV)) (fun t => slices_Clone_int fu t) e70) (noP))))))
theorem t37_ok (fu : Nat) : CpOK Tryz.prog (t37 fu ) := orE_ok (orE_ok (orE_ok (orE_ok (orE_ok (orE_ok (noP_ok) (mkC_ok (fun t b h => ok70 fu t  b h))) (mkC_ok (fun t b h => ok69 fu t  b h))) (mkC_ok (fun t b h => ok30 fu t  b h))) (mkC_ok (fun t b h => ok68 fu t  b h))) (mkC_ok (fun t b h => ok67 fu t  b h))) (mkC_ok (fun t b h => ok66 fu t  b h))
theorem ok37 (fu : Nat) (x1 : Int) (x2 : T_Setting) (x3 : List T_Val) (x4 : Int) (r) (h : infer_Node fu x1 x2 x3 x4 = some r) : PureOK Tryz.prog 37 [.v (.int .i64 x1), .agg (c_T_Setting x2), .arr x3.length (fm c_T_Val x3), .v (.int .i64 x4)] (e37 r) :=
  pureS_J mixed (cp := t37 fu ) (t37_ok fu  ) noI_ok i37 (w37 _ fu x1 x2 x3 x4  (fun a0 r h => orE_hit (mkC_at (a := a0) (by intro a b h; first | (exact rfl) | (simp only [INJ, IJ] at h; first | exact h | (simp_all [Prod.ext_iff]) )) h)) (fun a0 r h => orE_miss (by decide) (orE_hit (mkC_at (a := a0) (by intro a b h; first | (exact rfl) | (simp only [INJ, IJ] at h; first | exact h | (simp_all [Prod.ext_iff]) )) h))) (fun a0 r h => orE_miss (by decide) (orE_miss (by decide) (orE_hit (mkC_at (a := a0) (by intro a b h; first | (exact rfl) | (simp only [INJ, IJ] at h; first | exact h | (simp_all [Prod.ext_iff]) )) h)))) (fun a0 r h => orE_miss (by decide) (orE_miss (by decide) (orE_miss (by decide) (orE_hit (mkC_at (a := a0) (by intro a b h; first | (exact rfl) | (simp only [INJ, IJ] at h; first | exact h | (simp_all [Prod.ext_iff]) )) h))))) (fun a0 r h => orE_miss (by decide) (orE_miss (by decide) (orE_miss (by decide) (orE_miss (by decide) (orE_hit (mkC_at (a := a0) (by intro a b h; first | (exact rfl) | (simp only [INJ, IJ] at h; first | exact h | (simp_all [Prod.ext_iff]) )) h)))))) (fun a0 r h => orE_miss (by decide) (orE_miss (by decide) (orE_miss (by decide) (orE_miss (by decide) (orE_miss (by decide) (orE_hit (mkC_at (a := a0) (by intro a b h; first | (exact rfl) | (simp only [INJ, IJ] at h; first | exact h | (simp_all [Prod.ext_iff]) )) h)))))))) h
/-! 61: lattice/conv.number -/
open Aw (d61)
def d61_at := by have h := tabL Aw.d61.eq_1; simp only [AllAt, Nat.zero_add, Nat.reduceAdd] at h; exact h
theorem i61 : finfo Tryz.prog 61 d61 = some ⟨bodyOf Tryz.f61, [.tmp 6], [3]⟩ := finfo_at Tryz.func61 rfl (by kernel_rfl) (by kernel_rfl)
def e61 : Int → AV := fun r => .v (.int .i64 r)
set_option maxHeartbeats 20000000 in
theorem w61 (cp : CallP) (fu : Nat) (x1 : List Int) (x2 : Int) (x3 : Int) : J (go Tryz.prog noC cp noI 0 [] d61 fu (fin Tryz.prog [.tmp 6] [3]) (bodyOf Tryz.f61) (initE 0 [.arr x1.length (lm (ik .i64) x1), .v (.int .i64 x2), .v (.int .i64 x3)]) [] []) (conv_number fu x1 x2 x3) e61 := by
 unfold conv_number e61
 conv => arg 1; simp (disch := first | exact Zd | fail) only [bodyOf, Tryz.f61, ZZ, d61_at, simprocAttr]
 refine J.eq go_seq ?_
 conv => arg 1; simp (disch := first | exact Zd | fail) only [ZZ, d61_at, simprocAttr]
 refine J.ite (fun h1 => ?_) (fun h1 => ?_)
 ·have h1' := decide_eq_true h1
  refine J.some ?_
  simp (maxSteps := 20000000) (disch := first | exact Zd | fail) only [ZZ, d61_at, simprocAttr, h1', FF, LN, NN, NT]
 ·have h1' := decide_eq_false h1
  conv => arg 1; simp (disch := first | exact Zd | fail) only [ZZ, d61_at, simprocAttr, h1']
  refine J.eq ret_seq ?_
  refine J.at fun x4 h2 h3 h4 => ?_
  refine J.some ?_
  simp (maxSteps := 20000000) (disch := first | exact Zd | fail) only [ZZ, d61_at, simprocAttr, h1', lm_ik h4, FF, LN, NN, NT]
noncomputable def t61 (fu : Nat) : CallP := noP
theorem t61_ok (fu : Nat) : CpOK Tryz.prog (t61 fu ) := noP_ok
theorem ok61 (fu : Nat) (x1 : List Int) (x2 : Int) (x3 : Int) (r) (h : conv_number fu x1 x2 x3 = some r) : PureOK Tryz.prog 61 [.arr x1.length (lm (ik .i64) x1), .v (.int .i64 x2), .v (.int .i64 x3)] (e61 r) :=
  pure_J mixed (cp := t61 fu ) (t61_ok fu  ) noI_ok i61 (w61 _ fu x1 x2 x3  ) h
/-! 32: lattice/conv.axisOf -/
open Aw (d32)
def d32_at := by have h := tabL Aw.d32.eq_1; simp only [AllAt, Nat.zero_add, Nat.reduceAdd] at h; exact h
theorem i32 : finfo Tryz.prog 32 d32 = some ⟨bodyOf Tryz.f32, [.cell 8 63, .tmp 9], [63, 32]⟩ := finfo_at Tryz.func32 rfl (by kernel_rfl) (by kernel_rfl)
def e32 : (T_conv_axis × Int) → AV := fun r => .tuple [.agg [.v (.int .i64 r.1.fsize), .v (.int .i64 r.1.fkernel), .v (.int .i64 r.1.fstride), .v (.int .i64 r.1.fdilation), .v (.int .i64 r.1.fahead), .v (.int .i64 r.1.fwindows)], .v (.int .i64 r.2)]
set_option maxHeartbeats 20000000 in
theorem w32 (cp : CallP) (fu : Nat) (x1 : T_Setting) (x2 : Int) (x3 : Int) (x4 : Int) (H61_0 : ∀ (a0 : List Int) (a1 : Int) (a2 : Int) r, conv_number fu a0 a1 a2 = some r → cp 61 [.arr a0.length (lm (ik .i64) a0), .v (.int .i64 a1), .v (.int .i64 a2)] = some (.v (.int .i64 r))) (H62_0 : ∀ (a0 : Int) (a1 : Int) (a2 : Int) (a3 : Int) (a4 : Int) (a5 : Int) (a6 : Int) (a7 : Bool) r, infer_Window fu a0 a1 a2 a3 a4 a5 a6 a7 = some r → cp 62 [.v (.int .i64 a0), .v (.int .i64 a1), .v (.int .i64 a2), .v (.int .i64 a3), .v (.int .i64 a4), .v (.int .i64 a5), .v (.int .i64 a6), .v (.bool a7)] = some (.tuple [.v (.int .i64 r.1), .v (.int .i64 r.2.1), .v (.int .i64 r.2.2)])) : J (go Tryz.prog noC cp noI 0 [] d32 fu (fin Tryz.prog [.cell 8 63, .tmp 9] [63, 32]) (bodyOf Tryz.f32) (initE 0 [.agg (c_T_Setting x1), .v (.int .i64 x2), .v (.int .i64 x3), .v (.int .i64 x4)]) [] []) (conv_axisOf fu x1 x2 x3 x4) e32 := by
 unfold conv_axisOf e32
 refine J.bind fun x5 h1 => ?_
 have e_h1 := H61_0 _ _ _ _ h1
 try simp only [NN, NT, LN, simprocAttr, DT] at e_h1
 refine J.bind fun x6 h2 => ?_
 have e_h2 := H61_0 _ _ _ _ h2
 try simp only [NN, NT, LN, simprocAttr, DT] at e_h2
 refine J.bind fun x7 h3 => ?_
 have e_h3 := H61_0 _ _ _ _ h3
 try simp only [NN, NT, LN, simprocAttr, DT] at e_h3
 refine J.bind fun x8 h4 => ?_
 have e_h4 := H61_0 _ _ _ _ h4
 try simp only [NN, NT, LN, simprocAttr, DT] at e_h4
 refine J.bind fun x9 h5 => ?_
 have e_h5 := H62_0 _ _ _ _ _ _ _ _ _ h5
 try simp only [NN, NT, LN, simprocAttr, DT] at e_h5
 refine J.some ?_
 simp (maxSteps := 20000000) (disch := first | exact Zd | fail) only [bodyOf, Tryz.f32, ZZ, d32_at, simprocAttr, RL, e_h1, e_h2, e_h3, e_h4, e_h5, FF, LN, NN, NT]
noncomputable def t32 (fu : Nat) : CallP := orE 61 (mkC (fun (t : (List Int) × Int × Int) => ([.arr t.1.length (lm (ik .i64) t.1), .v (.int .i64 t.2.1), .v (.int .i64 t.2.2)] : List AV)) (fun t => conv_number fu t.1 t.2.1 t.2.2) e61) (orE 62 (mkC (fun (t : Int × Int × Int × Int × Int × Int × Int × Bool) => ([.v (.int .i64 t.1), .v (.int .i64 t.2.1), .v (.int .i64 t.2.2.1), .v (.int .i64 t.2.2.2.1), .v (.int .i64 t.2.2.2.2.1), .v (.int .i64 t.2.2.2.2.2.1), .v (.int .i64 t.2.2.2.2.2.2.1), .v (.bool t.2.2.2.2.2.2.2)] : List AV)) (fun t => infer_Window fu t.1 t.2.1 t.2.2.1 t.2.2.2.1 t.2.2.2.2.1 t.2.2.2.2.2.1 t.2.2.2.2.2.2.1 t.2.2.2.2.2.2.2) e62) (noP))
theorem t32_ok (fu : Nat) : CpOK Tryz.prog (t32 fu ) := orE_ok (orE_ok (noP_ok) (mkC_ok (fun t b h => ok62 fu t.1 t.2.1 t.2.2.1 t.2.2.2.1 t.2.2.2.2.1 t.2.2.2.2.2.1 t.2.2.2.2.2.2.1 t.2.2.2.2.2.2.2  b h))) (mkC_ok (fun t b h => ok61 fu t.1 t.2.1 t.2.2  b h))
theorem ok32 (fu : Nat) (x1 : T_Setting) (x2 : Int) (x3 : Int) (x4 : Int) (r) (h : conv_axisOf fu x1 x2 x3 x4 = some r) : PureOK Tryz.prog 32 [.agg (c_T_Setting x1), .v (.int .i64 x2), .v (.int .i64 x3), .v (.int .i64 x4)] (e32 r) :=
  pure_J mixed (cp := t32 fu ) (t32_ok fu  ) noI_ok i32 (w32 _ fu x1 x2 x3 x4  (fun a0 a1 a2 r h => orE_hit (mkC_at (a := (a0, a1, a2)) (by intro a b h; first | (exact rfl) | (simp only [INJ, IJ] at h; first | exact h | (simp_all [Prod.ext_iff]) )) h)) (fun a0 a1 a2 a3 a4 a5 a6 a7 r h => orE_miss (by decide) (orE_hit (mkC_at (a := (a0, a1, a2, a3, a4, a5, a6, a7)) (by intro a b h; first | (exact rfl) | (simp only [INJ, IJ] at h; first | exact h | (simp_all [Prod.ext_iff]) )) h)))) h
/-! 39: lattice/tens.New -/
open Aw (d39)
def d39_at := by have h := tabL Aw.d39.eq_1; simp only [AllAt, Nat.zero_add, Nat.reduceAdd] at h; exact h
theorem i39 : finfo Tryz.prog 39 d39 = some ⟨bodyOf Tryz.f39, [.cell 4 28, .tmp 5], [28, 32]⟩ := finfo_at Tryz.func39 rfl (by kernel_rfl) (by kernel_rfl)
def e39 : (T_Tensor × Int) → AV := fun r => .tuple [.agg [.v (.int .i64 r.1.fType), .fresh 1 r.1.fDims.length (lm (ik .i64) r.1.fDims), .fresh 1 r.1.fF.length (lm (ik .u32) r.1.fF), .fresh 1 r.1.fI.length (lm (ik .i64) r.1.fI), .fresh 1 r.1.fB.length (lm (bk) r.1.fB)], .v (.int .i64 r.2)]
set_option maxHeartbeats 20000000 in
theorem w39 (cp : CallP) (fu : Nat) (x1 : Int) (x2 : List Int) (H63_0 : ∀ (a0 : Int) r, tens_known fu a0 = some r → cp 63 [.v (.int .i64 a0)] = some (.v (.bool r))) (H30_0 : ∀ (a0 : List Int) r, shape_Size fu a0 = some r → cp 30 [.arr a0.length (lm (ik .i64) a0)] = some (.tuple [.v (.int .i64 r.1), .v (.int .i64 r.2)])) (H70_0 : ∀ (a0 : List Int) r, slices_Clone_int fu a0 = some r → cp 70 [.arr a0.length (lm (ik .i64) a0)] = some (.fresh 1 r.length (lm (ik .i64) r))) : J (go Tryz.prog noC cp noI 0 [] d39 fu (fin Tryz.prog [.cell 4 28, .tmp 5] [28, 32]) (bodyOf Tryz.f39) (initE 0 [.v (.int .i64 x1), .arr x2.length (lm (ik .i64) x2)]) [] []) (tens_New fu x1 x2) e39 := by
 unfold tens_New e39
 conv => arg 1; simp (disch := first | exact Zd | fail) only [bodyOf, Tryz.f39, ZZ, d39_at, simprocAttr]
 refine J.eq go_seq ?_
 refine J.bind fun x3 h1 => ?_
 have e_h1 := H63_0 _ _ h1
 try simp only [NN, NT, LN, simprocAttr, DT] at e_h1
 conv => arg 1; simp (disch := first | exact Zd | fail) only [ZZ, d39_at, simprocAttr, e_h1]
 refine J.ite (fun h2 => ?_) (fun h2 => ?_)
 ·have h2' : x3 = true := h2
  conv => arg 1; simp (disch := first | exact Zd | fail) only [ZZ, d39_at, simprocAttr, e_h1, h2']
  refine J.eq ret_seq ?_
  refine J.bind fun x4 h3 => ?_
  have e_h3 := H30_0 _ _ h3
  try simp only [NN, NT, LN, simprocAttr, DT] at e_h3
  conv => arg 1; simp (disch := first | exact Zd | fail) only [ZZ, d39_at, simprocAttr, e_h1, h2', e_h3]
  refine J.eq go_seq ?_
  conv => arg 1; simp (disch := first | exact Zd | fail) only [ZZ, d39_at, simprocAttr, e_h1, h2', e_h3]
  refine J.ite (fun h4 => ?_) (fun h4 => ?_)
  ·have h4' := decide_eq_true h4
   conv => arg 1; simp (disch := first | exact Zd | fail) only [ZZ, d39_at, simprocAttr, e_h1, h2', e_h3, h4']
   refine J.eq ret_seq ?_
   refine J.bind fun x5 h5 => ?_
   have e_h5 := H70_0 _ _ h5
   try simp only [NN, NT, LN, simprocAttr, DT] at e_h5
   conv => arg 1; simp (disch := first | exact Zd | fail) only [ZZ, d39_at, simprocAttr, e_h1, h2', e_h3, h4', e_h5]
   refine J.eq go_seq ?_
   conv => arg 1; simp (disch := first | exact Zd | fail) only [ZZ, d39_at, simprocAttr, e_h1, h2', e_h3, h4', e_h5]
   refine J.ite (fun h6 => ?_) (fun h6 => ?_)
   ·have h6' := decide_eq_true h6
    refine J.chk fun h7 => ?_
    conv => arg 1; simp (disch := first | exact Zd | fail) only [ZZ, d39_at, simprocAttr, e_h1, h2', e_h3, h4', e_h5, h6']
    refine J.eq ret_seq ?_
    refine J.some ?_
    simp (maxSteps := 20000000) (disch := first | exact Zd | fail) only [ZZ, d39_at, simprocAttr, e_h1, h2', e_h3, h4', e_h5, h6', FF, LN, NN, NT]
   ·have h6' := decide_eq_false h6
    conv => arg 1; simp (disch := first | exact Zd | fail) only [ZZ, d39_at, simprocAttr, e_h1, h2', e_h3, h4', e_h5, h6']
    refine J.ite (fun h8 => ?_) (fun h8 => ?_)
    ·have h8' := decide_eq_true h8
     refine J.chk fun h9 => ?_
     conv => arg 1; simp (disch := first | exact Zd | fail) only [ZZ, d39_at, simprocAttr, e_h1, h2', e_h3, h4', e_h5, h6', h8']
     refine J.eq ret_seq ?_
     refine J.some ?_
     simp (maxSteps := 20000000) (disch := first | exact Zd | fail) only [ZZ, d39_at, simprocAttr, e_h1, h2', e_h3, h4', e_h5, h6', h8', FF, LN, NN, NT]
    ·have h8' := decide_eq_false h8
     refine J.chk fun h10 => ?_
     conv => arg 1; simp (disch := first | exact Zd | fail) only [ZZ, d39_at, simprocAttr, e_h1, h2', e_h3, h4', e_h5, h6', h8']
     refine J.eq ret_seq ?_
     refine J.some ?_
     simp (maxSteps := 20000000) (disch := first | exact Zd | fail) only [ZZ, d39_at, simprocAttr, e_h1, h2', e_h3, h4', e_h5, h6', h8', FF, LN, NN, NT]
  ·have h4' := decide_eq_false h4
   refine J.some ?_
   simp (maxSteps := 20000000) (disch := first | exact Zd | fail) only [ZZ, d39_at, simprocAttr, e_h1, h2', e_h3, h4', FF, LN, NN, NT]
 ·have h2' : x3 = false := Bool.eq_false_iff.2 h2
  refine J.some ?_
  simp (maxSteps := 20000000) (disch := first | exact Zd | fail) only [ZZ, d39_at, simprocAttr, e_h1, h2', FF, LN, NN, NT]
noncomputable def t39 (fu : Nat) : CallP := orE 63 (mkC (fun (t : Int) => ([.v (.int .i64 t)] : List AV)) (fun t => tens_known fu t) e63) (orE 30 (mkC (fun (t : List Int) => ([.arr t.length (lm (ik .i64) t)] : List AV)) (fun t => shape_Size fu t) e30) (orE 70 (mkC (fun (t : List Int) => ([.arr t.length (lm (ik .i64) t)] : List AV)) (fun t => slices_Clone_int fu t) e70) (noP)))
theorem t39_ok (fu : Nat) : CpOK Tryz.prog (t39 fu ) := orE_ok (orE_ok (orE_ok (noP_ok) (mkC_ok (fun t b h => ok70 fu t  b h))) (mkC_ok (fun t b h => ok30 fu t  b h))) (mkC_ok (fun t b h => ok63 fu t  b h))
theorem ok39 (fu : Nat) (x1 : Int) (x2 : List Int) (r) (h : tens_New fu x1 x2 = some r) : PureOK Tryz.prog 39 [.v (.int .i64 x1), .arr x2.length (lm (ik .i64) x2)] (e39 r) :=
  pure_J mixed (cp := t39 fu ) (t39_ok fu  ) noI_ok i39 (w39 _ fu x1 x2  (fun a0 r h => orE_hit (mkC_at (a := a0) (by intro a b h; first | (exact rfl) | (simp only [INJ, IJ] at h; first | exact h | (simp_all [Prod.ext_iff]) )) h)) (fun a0 r h => orE_miss (by decide) (orE_hit (mkC_at (a := a0) (by intro a b h; first | (exact rfl) | (simp only [INJ, IJ] at h; first | exact h | (simp_all [Prod.ext_iff]) )) h))) (fun a0 r h => orE_miss (by decide) (orE_miss (by decide) (orE_hit (mkC_at (a := a0) (by intro a b h; first | (exact rfl) | (simp only [INJ, IJ] at h; first | exact h | (simp_all [Prod.ext_iff]) )) h))))) h
/-! 71: lattice/shape.strides -/
open Aw (d71)
def d71_at := by have h := tabL Aw.d71.eq_1; simp only [AllAt, Nat.zero_add, Nat.reduceAdd] at h; exact h
theorem i71 : finfo Tryz.prog 71 d71 = some ⟨bodyOf Tryz.f71, [.tmp 2], [22]⟩ := finfo_at Tryz.func71 rfl (by kernel_rfl) (by kernel_rfl)
def e71 : (List Int) → AV := fun r => .fresh 1 r.length (lm (ik .i64) r)
set_option maxHeartbeats 20000000 in
theorem w71 (cp : CallP) (fu : Nat) (x1 : List Int) : J (go Tryz.prog noC cp noI 0 [] d71 fu (fin Tryz.prog [.tmp 2] [22]) (bodyOf Tryz.f71) (initE 0 [.arr x1.length (lm (ik .i64) x1)]) [] []) (shape_strides fu x1) e71 := by
 unfold shape_strides e71
 refine J.chk fun h1 => ?_
 conv => arg 1; simp (disch := first | exact Zd | fail) only [bodyOf, Tryz.f71, ZZ, d71_at, simprocAttr]
 refine J.eq go_seq ?_
 conv => arg 1; simp (disch := first | exact Zd | fail) only [ZZ, d71_at, simprocAttr]
 unfold shape_strides_W1
 refine J.loop (fun (s : (List Int) × Int × Int) => ([(0, .arr x1.length (lm (ik .i64) x1)), (3, .own (0, 8, 0) 0 s.1.length s.1.length), (4, .v (.int .i64 s.2.1)), (5, .v (.int .i64 s.2.2))], [((0, 8, 0), .sl true true 1 s.1.length (lm (ik .i64) s.1))])) (fun next s => shape_strides_L1 fu x1 (fun x3 x4 x5 => next (x3, x4, x5)) s.1 s.2.1 s.2.2) (s0 := (List.replicate (x1.length : Int).toNat (0 : Int), 1, wk .i64 ((x1.length : Int) - 1))) ?_ ?_ ?_
 ·first | rfl | (simp only [LN, NN, NT])
 ·first | (simp (disch := first | exact Zd | fail) only [RR, simprocAttr, LN, NN, NT]; done) | (simp (disch := first | exact Zd | fail) only [RR, simprocAttr, LN, fm_app, NN, NT]; done) | rfl
 rintro next k1 hn1 ⟨x3, x4, x5⟩
 let nx1 : (List Int) → Int → Int → Option (List Int) := (fun x3 x4 x5 => next (x3, x4, x5))
 show J _ (shape_strides_L1 fu x1 nx1 x3 x4 x5) _
 unfold shape_strides_L1
 refine J.eq go_seq ?_
 conv => arg 1; simp (disch := first | exact Zd | fail) only [ZZ, d71_at, simprocAttr]
 refine J.ite (fun h2 => ?_) (fun h2 => ?_)
 ·have h2' := decide_eq_true h2
  have h2'' : decide (x5 < 0) = false := decide_eq_false (by omega)
  conv => arg 1; simp (disch := first | exact Zd | fail) only [ZZ, d71_at, simprocAttr, h2'', h2']
  refine J.eq ret_seq ?_
  refine J.eq go_seq ?_
  refine J.chk fun h3 => ?_
  refine J.at fun x7 h4 h5 h6 => ?_
  conv => arg 1; simp (disch := first | exact Zd | fail) only [ZZ, d71_at, simprocAttr, h2'', h2', lm_ik h6]
  refine J.eq ret_seq ?_
  conv => arg 1; simp (disch := first | exact Zd | fail) only [ZZ, d71_at, simprocAttr, h2'', h2', lm_ik h6]
  refine J.next (s := (x3.set x5.toNat x4, wk .i64 (x4 * x7), wk .i64 (x5 - 1))) hn1 ?_ ?_
  ·first | rfl | (simp only [LN, NN, NT])
  ·first | (simp (disch := first | exact Zd | fail) only [RR, simprocAttr, LN, NN, NT]; done) | (simp (disch := first | exact Zd | fail) only [RR, simprocAttr, LN, fm_app, NN, NT]; done) | rfl
 ·have h2' := decide_eq_false h2
  have h2'' : decide (x5 < 0) = true := decide_eq_true (by omega)
  conv => arg 1; simp (disch := first | exact Zd | fail) only [ZZ, d71_at, simprocAttr, h2'', h2']
  refine J.eq ret_seq ?_
  refine J.some ?_
  simp (maxSteps := 20000000) (disch := first | exact Zd | fail) only [ZZ, d71_at, simprocAttr, h2'', h2', FF, LN, NN, NT]
noncomputable def t71 (fu : Nat) : CallP := noP
theorem t71_ok (fu : Nat) : CpOK Tryz.prog (t71 fu ) := noP_ok
theorem ok71 (fu : Nat) (x1 : List Int) (r) (h : shape_strides fu x1 = some r) : PureOK Tryz.prog 71 [.arr x1.length (lm (ik .i64) x1)] (e71 r) :=
  pure_J mixed (cp := t71 fu ) (t71_ok fu  ) noI_ok i71 (w71 _ fu x1  ) h
/-! 40: lattice/shape.Index -/
open Aw (d40)
def d40_at := by have h := tabL Aw.d40.eq_1; simp only [AllAt, Nat.zero_add, Nat.reduceAdd] at h; exact h
theorem i40 : finfo Tryz.prog 40 d40 = some ⟨bodyOf Tryz.f40, [.tmp 4, .tmp 5], [22, 32]⟩ := finfo_at Tryz.func40 rfl (by kernel_rfl) (by kernel_rfl)
def e40 : ((List Int) × Int) → AV := fun r => .tuple [.fresh 1 r.1.length (lm (ik .i64) r.1), .v (.int .i64 r.2)]
set_option maxHeartbeats 20000000 in
theorem w40 (cp : CallP) (fu : Nat) (x1 : List Int) (x2 : Int) (H30_0 : ∀ (a0 : List Int) r, shape_Size fu a0 = some r → cp 30 [.arr a0.length (lm (ik .i64) a0)] = some (.tuple [.v (.int .i64 r.1), .v (.int .i64 r.2)])) (H71_0 : ∀ (a0 : List Int) r, shape_strides fu a0 = some r → cp 71 [.arr a0.length (lm (ik .i64) a0)] = some (.fresh 1 r.length (lm (ik .i64) r))) : J (go Tryz.prog noC cp noI 0 [] d40 fu (fin Tryz.prog [.tmp 4, .tmp 5] [22, 32]) (bodyOf Tryz.f40) (initE 0 [.arr x1.length (lm (ik .i64) x1), .v (.int .i64 x2)]) [] []) (shape_Index fu x1 x2) e40 := by
 unfold shape_Index e40
 refine J.bind fun x3 h1 => ?_
 have e_h1 := H30_0 _ _ h1
 try simp only [NN, NT, LN, simprocAttr, DT] at e_h1
 conv => arg 1; simp (disch := first | exact Zd | fail) only [bodyOf, Tryz.f40, ZZ, d40_at, simprocAttr, e_h1]
 refine J.eq go_seq ?_
 conv => arg 1; simp (disch := first | exact Zd | fail) only [ZZ, d40_at, simprocAttr, e_h1]
 refine J.ite (fun h2 => ?_) (fun h2 => ?_)
 ·have h2' := decide_eq_true h2
  conv => arg 1; simp (disch := first | exact Zd | fail) only [ZZ, d40_at, simprocAttr, e_h1, h2']
  refine J.eq ret_seq ?_
  refine J.joinS (fun (t : Unit) => ([(0, .arr x1.length (lm (ik .i64) x1)), (1, .v (.int .i64 x2))], [])) (fun t => shape_Index_k1 fu x1 x2) ?_ (fun hj1 => ?_)
  ·rintro ⟨⟩
   show J _ (shape_Index_k1 fu x1 x2) _
   unfold shape_Index_k1
   refine J.chk fun h3 => ?_
   conv => arg 1; simp (disch := first | exact Zd | fail) only [ZZ, d40_at, simprocAttr, e_h1, h2']
   refine J.eq go_seq ?_
   refine J.bind fun x4 h4 => ?_
   have e_h4 := H71_0 _ _ h4
   try simp only [NN, NT, LN, simprocAttr, DT] at e_h4
   conv => arg 1; simp (disch := first | exact Zd | fail) only [ZZ, d40_at, simprocAttr, e_h1, h2', e_h4]
   unfold shape_Index_W1
   refine J.loop (fun (s : (List Int) × Int × Int) => ([(1, .v (.int .i64 s.2.1)), (8, .own (0, 28, 0) 0 s.1.length s.1.length), (30, .own (0, 30, 0) 0 x4.length x4.length), (31, .v (.int .i64 (x4.length : Int))), (32, .v (.int .i64 s.2.2))], [((0, 28, 0), .sl true true 1 s.1.length (lm (ik .i64) s.1)), ((0, 30, 0), .sl true true 1 x4.length (lm (ik .i64) x4))])) (fun next s => shape_Index_L1 fu x4 (fun x6 x7 x8 => next (x6, x7, x8)) s.1 s.2.1 s.2.2) (s0 := (List.replicate (x1.length : Int).toNat (0 : Int), x2, 0)) ?_ ?_ ?_
   ·first | rfl | (simp only [LN, NN, NT])
   ·first | (simp (disch := first | exact Zd | fail) only [RR, simprocAttr, LN, NN, NT]; done) | (simp (disch := first | exact Zd | fail) only [RR, simprocAttr, LN, fm_app, NN, NT]; done) | rfl
   rintro next k1 hn1 ⟨x6, x7, x8⟩
   let nx1 : (List Int) → Int → Int → Option ((List Int) × Int) := (fun x6 x7 x8 => next (x6, x7, x8))
   show J _ (shape_Index_L1 fu x4 nx1 x6 x7 x8) _
   unfold shape_Index_L1
   conv => arg 1; simp (disch := first | exact Zd | fail) only [ZZ, d40_at, simprocAttr, e_h1, h2', e_h4]
   refine J.eq go_seq ?_
   conv => arg 1; simp (disch := first | exact Zd | fail) only [ZZ, d40_at, simprocAttr, e_h1, h2', e_h4]
   refine J.ite (fun h5 => ?_) (fun h5 => ?_)
   ·have h5' := decide_eq_true h5
    have h5'' : decide ((x4.length : Int) ≤ x8) = false := decide_eq_false (by omega)
    conv => arg 1; simp (disch := first | exact Zd | fail) only [ZZ, d40_at, simprocAttr, e_h1, h2', e_h4, h5'', h5']
    refine J.eq ret_seq ?_
    refine J.eq go_seq ?_
    refine J.at fun x10 h6 h7 h8 => ?_
    refine J.chk fun h9 => ?_
    refine J.chk fun h10 => ?_
    conv => arg 1; simp (disch := first | exact Zd | fail) only [ZZ, d40_at, simprocAttr, e_h1, h2', e_h4, h5'', h5', lm_ik h8]
    refine J.eq ret_seq ?_
    conv => arg 1; simp (disch := first | exact Zd | fail) only [ZZ, d40_at, simprocAttr, e_h1, h2', e_h4, h5'', h5', lm_ik h8]
    refine J.next (s := (x6.set x8.toNat (wk .i64 (Int.tdiv x7 x10)), Int.tmod x7 x10, wk .i64 (x8 + 1))) hn1 ?_ ?_
    ·first | rfl | (simp only [LN, NN, NT])
    ·first | (simp (disch := first | exact Zd | fail) only [RR, simprocAttr, LN, NN, NT]; done) | (simp (disch := first | exact Zd | fail) only [RR, simprocAttr, LN, fm_app, NN, NT]; done) | rfl
   ·have h5' := decide_eq_false h5
    have h5'' : decide ((x4.length : Int) ≤ x8) = true := decide_eq_true (by omega)
    conv => arg 1; simp (disch := first | exact Zd | fail) only [ZZ, d40_at, simprocAttr, e_h1, h2', e_h4, h5'', h5']
    refine J.eq ret_seq ?_
    refine J.some ?_
    simp (maxSteps := 20000000) (disch := first | exact Zd | fail) only [ZZ, d40_at, simprocAttr, e_h1, h2', e_h4, h5'', h5', FF, LN, NN, NT]
  ·refine J.eq go_seq ?_
   conv => arg 1; simp (disch := first | exact Zd | fail) only [ZZ, d40_at, simprocAttr, e_h1, h2']
   refine J.ite (fun h11 => ?_) (fun h11 => ?_)
   ·have h11' := decide_eq_true h11
    have h11'' : decide (0 ≤ x2) = false := decide_eq_false (by omega)
    conv => arg 1; simp (disch := first | exact Zd | fail) only [ZZ, d40_at, simprocAttr, e_h1, h2', h11'', h11']
    refine J.eq ret_seq ?_
    refine J.some ?_
    simp (maxSteps := 20000000) (disch := first | exact Zd | fail) only [ZZ, d40_at, simprocAttr, e_h1, h2', h11'', h11', FF, LN, NN, NT]
   ·have h11' := decide_eq_false h11
    have h11'' : decide (0 ≤ x2) = true := decide_eq_true (by omega)
    conv => arg 1; simp (disch := first | exact Zd | fail) only [ZZ, d40_at, simprocAttr, e_h1, h2', h11'', h11']
    refine J.eq ret_seq ?_
    conv => arg 1; simp (disch := first | exact Zd | fail) only [ZZ, d40_at, simprocAttr, e_h1, h2', h11'', h11']
    refine J.ite (fun h12 => ?_) (fun h12 => ?_)
    ·have h12' := decide_eq_true h12
     have h12'' : decide (x2 < x3.1) = false := decide_eq_false (by omega)
     refine J.some ?_
     simp (maxSteps := 20000000) (disch := first | exact Zd | fail) only [ZZ, d40_at, simprocAttr, e_h1, h2', h11'', h11', h12'', h12', FF, LN, NN, NT]
    ·have h12' := decide_eq_false h12
     have h12'' : decide (x2 < x3.1) = true := decide_eq_true (by omega)
     conv => arg 1; simp (disch := first | exact Zd | fail) only [ZZ, d40_at, simprocAttr, e_h1, h2', h11'', h11', h12'', h12']
     refine J.jmp (t := ()) hj1 ?_ ?_
     ·first | rfl | (simp only [LN, NN, NT])
     ·first | (simp (disch := first | exact Zd | fail) only [RR, simprocAttr, LN, NN, NT]; done) | (simp (disch := first | exact Zd | fail) only [RR, simprocAttr, LN, fm_app, NN, NT]; done) | rfl
 ·have h2' := decide_eq_false h2
  refine J.some ?_
  simp (maxSteps := 20000000) (disch := first | exact Zd | fail) only [ZZ, d40_at, simprocAttr, e_h1, h2', FF, LN, NN, NT]
noncomputable def t40 (fu : Nat) : CallP := orE 30 (mkC (fun (t : List Int) => ([.arr t.length (lm (ik .i64) t)] : List AV)) (fun t => shape_Size fu t) e30) (orE 71 (mkC (fun (t : List Int) => ([.arr t.length (lm (ik .i64) t)] : List AV)) (fun t => shape_strides fu t) e71) (noP))
theorem t40_ok (fu : Nat) : CpOK Tryz.prog (t40 fu ) := orE_ok (orE_ok (noP_ok) (mkC_ok (fun t b h => ok71 fu t  b h))) (mkC_ok (fun t b h => ok30 fu t  b h))
theorem ok40 (fu : Nat) (x1 : List Int) (x2 : Int) (r) (h : shape_Index fu x1 x2 = some r) : PureOK Tryz.prog 40 [.arr x1.length (lm (ik .i64) x1), .v (.int .i64 x2)] (e40 r) :=
  pure_J mixed (cp := t40 fu ) (t40_ok fu  ) noI_ok i40 (w40 _ fu x1 x2  (fun a0 r h => orE_hit (mkC_at (a := a0) (by intro a b h; first | (exact rfl) | (simp only [INJ, IJ] at h; first | exact h | (simp_all [Prod.ext_iff]) )) h)) (fun a0 r h => orE_miss (by decide) (orE_hit (mkC_at (a := a0) (by intro a b h; first | (exact rfl) | (simp only [INJ, IJ] at h; first | exact h | (simp_all [Prod.ext_iff]) )) h)))) h
/-! 33: (lattice/conv.axis).at -/
open Aw (d33)
def d33_at := by have h := tabL Aw.d33.eq_1; simp only [AllAt, Nat.zero_add, Nat.reduceAdd] at h; exact h
theorem i33 : finfo Tryz.prog 33 d33 = some ⟨bodyOf Tryz.f33, [.tmp 6, .tmp 7], [3, 4]⟩ := finfo_at Tryz.func33 rfl (by kernel_rfl) (by kernel_rfl)
def e33 : (Int × Bool) → AV := fun r => .tuple [.v (.int .i64 r.1), .v (.bool r.2)]
set_option maxHeartbeats 20000000 in
theorem w33 (cp : CallP) (fu : Nat) (x1 : T_conv_axis) (x2 : Int) (x3 : Int) : J (go Tryz.prog noC cp noI 0 [] d33 fu (fin Tryz.prog [.tmp 6, .tmp 7] [3, 4]) (bodyOf Tryz.f33) (initE 0 [.agg (c_T_conv_axis x1), .v (.int .i64 x2), .v (.int .i64 x3)]) [] []) (conv_axis_at fu x1 x2 x3) e33 := by
 unfold conv_axis_at e33
 conv => arg 1; simp (disch := first | exact Zd | fail) only [bodyOf, Tryz.f33, ZZ, d33_at, simprocAttr]
 refine J.eq go_seq ?_
 conv => arg 1; simp (disch := first | exact Zd | fail) only [ZZ, d33_at, simprocAttr]
 refine J.ite (fun h1 => ?_) (fun h1 => ?_)
 ·have h1' := decide_eq_true h1
  have h1'' : decide ((wk .i64 ((wk .i64 ((wk .i64 (x2 * x1.fstride)) + (wk .i64 (x3 * x1.fdilation)))) - x1.fahead)) < 0) = false := decide_eq_false (by omega)
  conv => arg 1; simp (disch := first | exact Zd | fail) only [ZZ, d33_at, simprocAttr, h1'', h1']
  refine J.eq ret_seq ?_
  refine J.some ?_
  simp (maxSteps := 20000000) (disch := first | exact Zd | fail) only [ZZ, d33_at, simprocAttr, h1'', h1', FF, LN, NN, NT]
 ·have h1' := decide_eq_false h1
  have h1'' : decide ((wk .i64 ((wk .i64 ((wk .i64 (x2 * x1.fstride)) + (wk .i64 (x3 * x1.fdilation)))) - x1.fahead)) < 0) = true := decide_eq_true (by omega)
  conv => arg 1; simp (disch := first | exact Zd | fail) only [ZZ, d33_at, simprocAttr, h1'', h1']
  refine J.eq ret_seq ?_
  refine J.some ?_
  simp (maxSteps := 20000000) (disch := first | exact Zd | fail) only [ZZ, d33_at, simprocAttr, h1'', h1', FF, LN, NN, NT]
noncomputable def t33 (fu : Nat) : CallP := noP
theorem t33_ok (fu : Nat) : CpOK Tryz.prog (t33 fu ) := noP_ok
theorem ok33 (fu : Nat) (x1 : T_conv_axis) (x2 : Int) (x3 : Int) (r) (h : conv_axis_at fu x1 x2 x3 = some r) : PureOK Tryz.prog 33 [.agg (c_T_conv_axis x1), .v (.int .i64 x2), .v (.int .i64 x3)] (e33 r) :=
  pure_J mixed (cp := t33 fu ) (t33_ok fu  ) noI_ok i33 (w33 _ fu x1 x2 x3  ) h
/-! 104: lattice/soft.open -/
open Aw (d104)
def d104_at := by have h := tabL Aw.d104.eq_1; simp only [AllAt, Nat.zero_add, Nat.reduceAdd] at h; exact h
theorem i104 : finfo Tryz.prog 104 d104 = some ⟨bodyOf Tryz.f104, [.cell 2 119], [119]⟩ := finfo_at Tryz.func104 rfl (by kernel_rfl) (by kernel_rfl)
def e104 : T_soft_number → AV := fun r => .agg [.v (.bool r.fneg), .v (.bool r.fnan), .v (.bool r.finf), .v (.int .i64 r.fexp), .v (.int .u64 r.fsig)]
set_option maxHeartbeats 20000000 in
theorem w104 (cp : CallP) (fu : Nat) (x1 : Int) : J (go Tryz.prog noC cp noI 0 [] d104 fu (fin Tryz.prog [.cell 2 119] [119]) (bodyOf Tryz.f104) (initE 0 [.v (.int .u32 x1)]) [] []) (soft_open fu x1) e104 := by
 unfold soft_open e104
 conv => arg 1; simp (disch := first | exact Zd | fail) only [bodyOf, Tryz.f104, ZZ, d104_at, simprocAttr]
 refine J.eq go_seq ?_
 conv => arg 1; simp (disch := first | exact Zd | fail) only [ZZ, d104_at, simprocAttr]
 refine J.ite (fun h1 => ?_) (fun h1 => ?_)
 ·have h1' := decide_eq_true h1
  conv => arg 1; simp (disch := first | exact Zd | fail) only [ZZ, d104_at, simprocAttr, h1']
  refine J.eq ret_seq ?_
  refine J.some ?_
  simp (maxSteps := 20000000) (disch := first | exact Zd | fail) only [ZZ, d104_at, simprocAttr, h1', FF, LN, NN, NT]
 ·have h1' := decide_eq_false h1
  conv => arg 1; simp (disch := first | exact Zd | fail) only [ZZ, d104_at, simprocAttr, h1']
  refine J.ite (fun h2 => ?_) (fun h2 => ?_)
  ·have h2' := decide_eq_true h2
   conv => arg 1; simp (disch := first | exact Zd | fail) only [ZZ, d104_at, simprocAttr, h1', h2']
   refine J.eq ret_seq ?_
   refine J.some ?_
   simp (maxSteps := 20000000) (disch := first | exact Zd | fail) only [ZZ, d104_at, simprocAttr, h1', h2', FF, LN, NN, NT]
  ·have h2' := decide_eq_false h2
   conv => arg 1; simp (disch := first | exact Zd | fail) only [ZZ, d104_at, simprocAttr, h1', h2']
   refine J.eq ret_seq ?_
   refine J.some ?_
   simp (maxSteps := 20000000) (disch := first | exact Zd | fail) only [ZZ, d104_at, simprocAttr, h1', h2', FF, LN, NN, NT]
noncomputable def t104 (fu : Nat) : CallP := noP
theorem t104_ok (fu : Nat) : CpOK Tryz.prog (t104 fu ) := noP_ok
theorem ok104 (fu : Nat) (x1 : Int) (r) (h : soft_open fu x1 = some r) : PureOK Tryz.prog 104 [.v (.int .u32 x1)] (e104 r) :=
  pure_J mixed (cp := t104 fu ) (t104_ok fu  ) noI_ok i104 (w104 _ fu x1  ) h
/-! 107: lattice/soft.sign -/
open Aw (d107)
def d107_at := by have h := tabL Aw.d107.eq_1; simp only [AllAt, Nat.zero_add, Nat.reduceAdd] at h; exact h
theorem i107 : finfo Tryz.prog 107 d107 = some ⟨bodyOf Tryz.f107, [.tmp 2], [23]⟩ := finfo_at Tryz.func107 rfl (by kernel_rfl) (by kernel_rfl)
def e107 : Int → AV := fun r => .v (.int .u32 r)
set_option maxHeartbeats 20000000 in
theorem w107 (cp : CallP) (fu : Nat) (x1 : Bool) : J (go Tryz.prog noC cp noI 0 [] d107 fu (fin Tryz.prog [.tmp 2] [23]) (bodyOf Tryz.f107) (initE 0 [.v (.bool x1)]) [] []) (soft_sign fu x1) e107 := by
 unfold soft_sign e107
 conv => arg 1; simp (disch := first | exact Zd | fail) only [bodyOf, Tryz.f107, ZZ, d107_at, simprocAttr]
 refine J.eq go_seq ?_
 conv => arg 1; simp (disch := first | exact Zd | fail) only [ZZ, d107_at, simprocAttr]
 refine J.ite (fun h1 => ?_) (fun h1 => ?_)
 ·have h1' : x1 = true := h1
  refine J.some ?_
  simp (maxSteps := 20000000) (disch := first | exact Zd | fail) only [ZZ, d107_at, simprocAttr, h1', FF, LN, NN, NT]
 ·have h1' : x1 = false := Bool.eq_false_iff.2 h1
  conv => arg 1; simp (disch := first | exact Zd | fail) only [ZZ, d107_at, simprocAttr, h1']
  refine J.eq ret_seq ?_
  refine J.some ?_
  simp (maxSteps := 20000000) (disch := first | exact Zd | fail) only [ZZ, d107_at, simprocAttr, h1', FF, LN, NN, NT]
noncomputable def t107 (fu : Nat) : CallP := noP
theorem t107_ok (fu : Nat) : CpOK Tryz.prog (t107 fu ) := noP_ok
theorem ok107 (fu : Nat) (x1 : Bool) (r) (h : soft_sign fu x1 = some r) : PureOK Tryz.prog 107 [.v (.bool x1)] (e107 r) :=
  pure_J mixed (cp := t107 fu ) (t107_ok fu  ) noI_ok i107 (w107 _ fu x1  ) h
/-! 144: math/bits.Len64 -/
open Aw (d144)
def d144_at := by have h := tabL Aw.d144.eq_1; simp only [AllAt, Nat.zero_add, Nat.reduceAdd] at h; exact h
theorem i144 : finfo Tryz.prog 144 d144 = some ⟨bodyOf Tryz.f144, [.tmp 2], [3]⟩ := finfo_at Tryz.func144 rfl (by kernel_rfl) (by kernel_rfl)
def e144 : Int → AV := fun r => .v (.int .i64 r)
set_option maxHeartbeats 20000000 in
theorem w144 (cp : CallP) (fu : Nat) (x1 : Int) : J (go Tryz.prog noC cp noI 0 [] d144 fu (fin Tryz.prog [.tmp 2] [3]) (bodyOf Tryz.f144) (initE 0 [.v (.int .u64 x1)]) [] []) (math_bits_Len64 fu x1) e144 := by
 unfold math_bits_Len64 e144
 conv => arg 1; simp (disch := first | exact Zd | fail) only [bodyOf, Tryz.f144, ZZ, d144_at, simprocAttr]
 refine J.joinS (fun (t : Int × Int) => ([(0, .v (.int .u64 t.1)), (2, .v (.int .i64 t.2))], [])) (fun t => math_bits_Len64_k1 fu t.1 t.2) ?_ (fun hj1 => ?_)
 ·rintro ⟨x2, x3⟩
  show J _ (math_bits_Len64_k1 fu x2 x3) _
  unfold math_bits_Len64_k1
  refine J.joinS (fun (t : Int × Int) => ([(0, .v (.int .u64 t.1)), (2, .v (.int .i64 t.2))], [])) (fun t => math_bits_Len64_k2 fu t.1 t.2) ?_ (fun hj2 => ?_)
  ·rintro ⟨x4, x5⟩
   show J _ (math_bits_Len64_k2 fu x4 x5) _
   unfold math_bits_Len64_k2
   refine J.eq go_seq ?_
   conv => arg 1; simp (disch := first | exact Zd | fail) only [ZZ, d144_at, simprocAttr]
   refine J.ite (fun h1 => ?_) (fun h1 => ?_)
   ·have h1' := decide_eq_true h1
    have h1'' : decide (x4 < 256) = false := decide_eq_false (by omega)
    conv => arg 1; simp (disch := first | exact Zd | fail) only [ZZ, d144_at, simprocAttr, h1'', h1']
    refine J.eq ret_seq ?_
    refine J.sat fun x6 h2 => ?_
    refine J.some ?_
    simp (maxSteps := 20000000) (disch := first | exact Zd | fail) only [ZZ, d144_at, simprocAttr, h1'', h1', h2, FF, LN, NN, NT]
   ·have h1' := decide_eq_false h1
    have h1'' : decide (x4 < 256) = true := decide_eq_true (by omega)
    conv => arg 1; simp (disch := first | exact Zd | fail) only [ZZ, d144_at, simprocAttr, h1'', h1']
    refine J.eq ret_seq ?_
    refine J.sat fun x7 h3 => ?_
    refine J.some ?_
    simp (maxSteps := 20000000) (disch := first | exact Zd | fail) only [ZZ, d144_at, simprocAttr, h1'', h1', h3, FF, LN, NN, NT]
  ·conv => arg 1; simp (disch := first | exact Zd | fail) only [ZZ, d144_at, simprocAttr]
   refine J.ite (fun h4 => ?_) (fun h4 => ?_)
   ·have h4' := decide_eq_true h4
    have h4'' : decide (x2 < 65536) = false := decide_eq_false (by omega)
    conv => arg 1; simp (disch := first | exact Zd | fail) only [ZZ, d144_at, simprocAttr, h4'', h4']
    refine J.jmp (t := (shrk .u64 x2 16, wk .i64 (x3 + 16))) hj2 ?_ ?_
    ·first | rfl | (simp only [LN, NN, NT])
    ·first | (simp (disch := first | exact Zd | fail) only [RR, simprocAttr, LN, NN, NT]; done) | (simp (disch := first | exact Zd | fail) only [RR, simprocAttr, LN, fm_app, NN, NT]; done) | rfl
   ·have h4' := decide_eq_false h4
    have h4'' : decide (x2 < 65536) = true := decide_eq_true (by omega)
    conv => arg 1; simp (disch := first | exact Zd | fail) only [ZZ, d144_at, simprocAttr, h4'', h4']
    refine J.jmp (t := (x2, x3)) hj2 ?_ ?_
    ·first | rfl | (simp only [LN, NN, NT])
    ·first | (simp (disch := first | exact Zd | fail) only [RR, simprocAttr, LN, NN, NT]; done) | (simp (disch := first | exact Zd | fail) only [RR, simprocAttr, LN, fm_app, NN, NT]; done) | rfl
 ·conv => arg 1; simp (disch := first | exact Zd | fail) only [ZZ, d144_at, simprocAttr]
  refine J.ite (fun h5 => ?_) (fun h5 => ?_)
  ·have h5' := decide_eq_true h5
   have h5'' : decide (x1 < 4294967296) = false := decide_eq_false (by omega)
   conv => arg 1; simp (disch := first | exact Zd | fail) only [ZZ, d144_at, simprocAttr, h5'', h5']
   refine J.jmp (t := (shrk .u64 x1 32, 32)) hj1 ?_ ?_
   ·first | rfl | (simp only [LN, NN, NT])
   ·first | (simp (disch := first | exact Zd | fail) only [RR, simprocAttr, LN, NN, NT]; done) | (simp (disch := first | exact Zd | fail) only [RR, simprocAttr, LN, fm_app, NN, NT]; done) | rfl
  ·have h5' := decide_eq_false h5
   have h5'' : decide (x1 < 4294967296) = true := decide_eq_true (by omega)
   conv => arg 1; simp (disch := first | exact Zd | fail) only [ZZ, d144_at, simprocAttr, h5'', h5']
   refine J.jmp (t := (x1, 0)) hj1 ?_ ?_
   ·first | rfl | (simp only [LN, NN, NT])
   ·first | (simp (disch := first | exact Zd | fail) only [RR, simprocAttr, LN, NN, NT]; done) | (simp (disch := first | exact Zd | fail) only [RR, simprocAttr, LN, fm_app, NN, NT]; done) | rfl
noncomputable def t144 (fu : Nat) : CallP := noP
theorem t144_ok (fu : Nat) : CpOK Tryz.prog (t144 fu ) := noP_ok
theorem ok144 (fu : Nat) (x1 : Int) (r) (h : math_bits_Len64 fu x1 = some r) : PureOK Tryz.prog 144 [.v (.int .u64 x1)] (e144 r) :=
  pure_J mixed (cp := t144 fu ) (t144_ok fu  ) noI_ok i144 (w144 _ fu x1  ) h
/-! 147: lattice/soft.outwards -/
def d147 : List (Nat × List Nat) := [(0, [4]), (0, []), (0, [0, 1, 5, 6, 7, 8, 9, 10, 11, 12, 13, 14, 15, 16, 17])]
def d147_at := by have h := tabL d147.eq_1; simp only [AllAt, Nat.zero_add, Nat.reduceAdd] at h; exact h
theorem i147 : finfo Tryz.prog 147 d147 = some ⟨bodyOf Tryz.f147, [.tmp 4], [4]⟩ := finfo_at Tryz.func147 rfl (by kernel_rfl) (by kernel_rfl)
def e147 : Bool → AV := fun r => .v (.bool r)
set_option maxHeartbeats 20000000 in
theorem w147 (cp : CallP) (fu : Nat) (x1 : Int) (x2 : Bool) : J (go Tryz.prog noC cp noI 0 [] d147 fu (fin Tryz.prog [.tmp 4] [4]) (bodyOf Tryz.f147) (initE 0 [.v (.int .i64 x1), .v (.bool x2)]) [] []) (soft_outwards fu x1 x2) e147 := by
 unfold soft_outwards e147
 refine J.chk fun h1 => ?_
 conv => arg 1; simp (disch := first | exact Zd | fail) only [bodyOf, Tryz.f147, ZZ, d147_at, simprocAttr, h1]
 refine J.eq go_seq ?_
 conv => arg 1; simp (disch := first | exact Zd | fail) only [ZZ, d147_at, simprocAttr, h1]
 refine J.eq ret_seq ?_
 refine J.some ?_
 simp (maxSteps := 20000000) (disch := first | exact Zd | fail) only [ZZ, d147_at, simprocAttr, h1, FF, LN, NN, NT]
noncomputable def t147 (fu : Nat) : CallP := noP
theorem t147_ok (fu : Nat) : CpOK Tryz.prog (t147 fu ) := noP_ok
theorem ok147 (fu : Nat) (x1 : Int) (x2 : Bool) (r) (h : soft_outwards fu x1 x2 = some r) : PureOK Tryz.prog 147 [.v (.int .i64 x1), .v (.bool x2)] (e147 r) :=
  pure_J mixed (cp := t147 fu ) (t147_ok fu  ) noI_ok i147 (w147 _ fu x1 x2  ) h
/-! 145: lattice/soft.tiny -/
def d145 : List (Nat × List Nat) := [(0, [4]), (0, []), (0, [0, 5, 6]), (0, []), (0, [8, 9, 10]), (0, []), (0, [1, 11, 12])]
def d145_at := by have h := tabL d145.eq_1; simp only [AllAt, Nat.zero_add, Nat.reduceAdd] at h; exact h
theorem i145 : finfo Tryz.prog 145 d145 = some ⟨bodyOf Tryz.f145, [.tmp 4], [23]⟩ := finfo_at Tryz.func145 rfl (by kernel_rfl) (by kernel_rfl)
def e145 : Int → AV := fun r => .v (.int .u32 r)
set_option maxHeartbeats 20000000 in
theorem w145 (cp : CallP) (fu : Nat) (x1 : Int) (x2 : Bool) (H147_0 : ∀ (a0 : Int) (a1 : Bool) r, soft_outwards fu a0 a1 = some r → cp 147 [.v (.int .i64 a0), .v (.bool a1)] = some (.v (.bool r))) (H107_0 : ∀ (a0 : Bool) r, soft_sign fu a0 = some r → cp 107 [.v (.bool a0)] = some (.v (.int .u32 r))) : J (go Tryz.prog noC cp noI 0 [] d145 fu (fin Tryz.prog [.tmp 4] [23]) (bodyOf Tryz.f145) (initE 0 [.v (.int .i64 x1), .v (.bool x2)]) [] []) (soft_tiny fu x1 x2) e145 := by
 unfold soft_tiny e145
 refine J.chk fun h1 => ?_
 conv => arg 1; simp (disch := first | exact Zd | fail) only [bodyOf, Tryz.f145, ZZ, d145_at, simprocAttr, h1]
 refine J.eq go_seq ?_
 refine J.bind fun x3 h2 => ?_
 have e_h2 := H147_0 _ _ _ h2
 try simp only [NN, NT, LN, simprocAttr, DT] at e_h2
 conv => arg 1; simp (disch := first | exact Zd | fail) only [ZZ, d145_at, simprocAttr, h1, e_h2]
 refine J.ite (fun h3 => ?_) (fun h3 => ?_)
 ·have h3' : x3 = true := h3
  refine J.bind fun x4 h4 => ?_
  have e_h4 := H107_0 _ _ h4
  try simp only [NN, NT, LN, simprocAttr, DT] at e_h4
  refine J.some ?_
  simp (maxSteps := 20000000) (disch := first | exact Zd | fail) only [ZZ, d145_at, simprocAttr, h1, e_h2, h3', e_h4, FF, LN, NN, NT]
 ·have h3' : x3 = false := Bool.eq_false_iff.2 h3
  conv => arg 1; simp (disch := first | exact Zd | fail) only [ZZ, d145_at, simprocAttr, h1, e_h2, h3']
  refine J.eq ret_seq ?_
  refine J.bind fun x5 h5 => ?_
  have e_h5 := H107_0 _ _ h5
  try simp only [NN, NT, LN, simprocAttr, DT] at e_h5
  refine J.some ?_
  simp (maxSteps := 20000000) (disch := first | exact Zd | fail) only [ZZ, d145_at, simprocAttr, h1, e_h2, h3', e_h5, FF, LN, NN, NT]
noncomputable def t145 (fu : Nat) : CallP := orE 147 (mkC (fun (t : Int × Bool) => ([.v (.int .i64 t.1), .v (.bool t.2)] : List AV)) (fun t => soft_outwards fu t.1 t.2) e147) (orE 107 (mkC (fun (t : Bool) => ([.v (.bool t)] : List AV)) (fun t => soft_sign fu t) e107) (noP))
theorem t145_ok (fu : Nat) : CpOK Tryz.prog (t145 fu ) := orE_ok (orE_ok (noP_ok) (mkC_ok (fun t b h => ok107 fu t  b h))) (mkC_ok (fun t b h => ok147 fu t.1 t.2  b h))
theorem ok145 (fu : Nat) (x1 : Int) (x2 : Bool) (r) (h : soft_tiny fu x1 x2 = some r) : PureOK Tryz.prog 145 [.v (.int .i64 x1), .v (.bool x2)] (e145 r) :=
  pure_J mixed (cp := t145 fu ) (t145_ok fu  ) noI_ok i145 (w145 _ fu x1 x2  (fun a0 a1 r h => orE_hit (mkC_at (a := (a0, a1)) (by intro a b h; first | (exact rfl) | (simp only [INJ, IJ] at h; first | exact h | (simp_all [Prod.ext_iff]) )) h)) (fun a0 r h => orE_miss (by decide) (orE_hit (mkC_at (a := a0) (by intro a b h; first | (exact rfl) | (simp only [INJ, IJ] at h; first | exact h | (simp_all [Prod.ext_iff]) )) h)))) h
/-! 146: lattice/soft.huge -/
def d146 : List (Nat × List Nat) := [(0, [4]), (0, []), (0, [0, 5, 6, 7, 8, 9, 10, 11, 12, 13, 14, 15]), (0, []), (0, [17, 18, 19]), (0, []), (0, [1, 20, 21, 22])]
def d146_at := by have h := tabL d146.eq_1; simp only [AllAt, Nat.zero_add, Nat.reduceAdd] at h; exact h
theorem i146 : finfo Tryz.prog 146 d146 = some ⟨bodyOf Tryz.f146, [.tmp 4], [23]⟩ := finfo_at Tryz.func146 rfl (by kernel_rfl) (by kernel_rfl)
def e146 : Int → AV := fun r => .v (.int .u32 r)
set_option maxHeartbeats 20000000 in
theorem w146 (cp : CallP) (fu : Nat) (x1 : Int) (x2 : Bool) (H107_0 : ∀ (a0 : Bool) r, soft_sign fu a0 = some r → cp 107 [.v (.bool a0)] = some (.v (.int .u32 r))) : J (go Tryz.prog noC cp noI 0 [] d146 fu (fin Tryz.prog [.tmp 4] [23]) (bodyOf Tryz.f146) (initE 0 [.v (.int .i64 x1), .v (.bool x2)]) [] []) (soft_huge fu x1 x2) e146 := by
 unfold soft_huge e146
 refine J.chk fun h1 => ?_
 conv => arg 1; simp (disch := first | exact Zd | fail) only [bodyOf, Tryz.f146, ZZ, d146_at, simprocAttr, h1]
 refine J.joinS (fun (t : Unit) => ([(1, .v (.bool x2))], [])) (fun t => soft_huge_k1 fu x2) ?_ (fun hj1 => ?_)
 ·rintro ⟨⟩
  show J _ (soft_huge_k1 fu x2) _
  unfold soft_huge_k1
  refine J.bind fun x3 h2 => ?_
  have e_h2 := H107_0 _ _ h2
  try simp only [NN, NT, LN, simprocAttr, DT] at e_h2
  refine J.some ?_
  simp (maxSteps := 20000000) (disch := first | exact Zd | fail) only [ZZ, d146_at, simprocAttr, h1, e_h2, FF, LN, NN, NT]
 ·refine J.eq go_seq ?_
  conv => arg 1; simp (disch := first | exact Zd | fail) only [ZZ, d146_at, simprocAttr, h1]
  refine J.eq ret_seq ?_
  conv => arg 1; simp (disch := first | exact Zd | fail) only [ZZ, d146_at, simprocAttr, h1]
  refine J.jmp (t := ()) hj1 ?_ ?_
  ·first | rfl | (simp only [LN, NN, NT])
  ·first | (simp (disch := first | exact Zd | fail) only [RR, simprocAttr, LN, NN, NT]; done) | (simp (disch := first | exact Zd | fail) only [RR, simprocAttr, LN, fm_app, NN, NT]; done) | rfl
noncomputable def t146 (fu : Nat) : CallP := orE 107 (mkC (fun (t : Bool) => ([.v (.bool t)] : List AV)) (fun t => soft_sign fu t) e107) (noP)
theorem t146_ok (fu : Nat) : CpOK Tryz.prog (t146 fu ) := orE_ok (noP_ok) (mkC_ok (fun t b h => ok107 fu t  b h))
theorem ok146 (fu : Nat) (x1 : Int) (x2 : Bool) (r) (h : soft_huge fu x1 x2 = some r) : PureOK Tryz.prog 146 [.v (.int .i64 x1), .v (.bool x2)] (e146 r) :=
  pure_J mixed (cp := t146 fu ) (t146_ok fu  ) noI_ok i146 (w146 _ fu x1 x2  (fun a0 r h => orE_hit (mkC_at (a := a0) (by intro a b h; first | (exact rfl) | (simp only [INJ, IJ] at h; first | exact h | (simp_all [Prod.ext_iff]) )) h))) h
/-! 106: lattice/soft.Round -/
open Aw (d106)
def d106_at := by have h := tabL Aw.d106.eq_1; simp only [AllAt, Nat.zero_add, Nat.reduceAdd] at h; exact h
theorem i106 : finfo Tryz.prog 106 d106 = some ⟨bodyOf Tryz.f106, [.tmp 10], [23]⟩ := finfo_at Tryz.func106 rfl (by kernel_rfl) (by kernel_rfl)
def e106 : Int → AV := fun r => .v (.int .u32 r)
set_option maxHeartbeats 20000000 in
theorem w106 (cp : CallP) (fu : Nat) (x1 : Int) (x2 : Bool) (x3 : Int) (x4 : Int) (x5 : Bool) (H144_0 : ∀ (a0 : Int) r, math_bits_Len64 fu a0 = some r → cp 144 [.v (.int .u64 a0)] = some (.v (.int .i64 r))) (H145_0 : ∀ (a0 : Int) (a1 : Bool) r, soft_tiny fu a0 a1 = some r → cp 145 [.v (.int .i64 a0), .v (.bool a1)] = some (.v (.int .u32 r))) (H107_0 : ∀ (a0 : Bool) r, soft_sign fu a0 = some r → cp 107 [.v (.bool a0)] = some (.v (.int .u32 r))) (H146_0 : ∀ (a0 : Int) (a1 : Bool) r, soft_huge fu a0 a1 = some r → cp 146 [.v (.int .i64 a0), .v (.bool a1)] = some (.v (.int .u32 r))) : J (go Tryz.prog noC cp noI 0 [] d106 fu (fin Tryz.prog [.tmp 10] [23]) (bodyOf Tryz.f106) (initE 0 [.v (.int .i64 x1), .v (.bool x2), .v (.int .i64 x3), .v (.int .u64 x4), .v (.bool x5)]) [] []) (soft_Round fu x1 x2 x3 x4 x5) e106 := by
 unfold soft_Round e106
 refine J.chk fun h1 => ?_
 refine J.bind fun x6 h2 => ?_
 have e_h2 := H144_0 _ _ h2
 try simp only [NN, NT, LN, simprocAttr, DT] at e_h2
 conv => arg 1; simp (disch := first | exact Zd | fail) only [bodyOf, Tryz.f106, ZZ, d106_at, simprocAttr, h1, e_h2]
 refine J.joinS (fun (t : Unit) => ([(0, .v (.int .i64 0)), (1, .v (.bool x2)), (2, .v (.int .i64 x3)), (3, .v (.int .u64 x4)), (4, .v (.bool x5)), (11, .v (.int .i64 x6))], [])) (fun t => soft_Round_k1 fu x2 x3 x4 x5 x6) ?_ (fun hj1 => ?_)
 ·rintro ⟨⟩
  show J _ (soft_Round_k1 fu x2 x3 x4 x5 x6) _
  unfold soft_Round_k1
  conv => arg 1; simp (disch := first | exact Zd | fail) only [ZZ, d106_at, simprocAttr, h1, e_h2]
  refine J.joinS (fun (t : Int × Bool × Bool × Bool) => ([(0, .v (.int .i64 0)), (1, .v (.bool x2)), (2, .v (.int .i64 x3)), (12, .v (.int .i64 (imax (wk .i64 (x6 - 24)) (wk .i64 ((-149) - x3))))), (13, .v (.int .u64 t.1)), (14, .v (.bool t.2.1)), (15, .v (.bool t.2.2.1)), (16, .v (.bool t.2.2.2))], [])) (fun t => soft_Round_k2 fu x2 x3 x6 t.1 t.2.1 t.2.2.1 t.2.2.2) ?_ (fun hj2 => ?_)
  ·rintro ⟨x7, x8, x9, x10⟩
   show J _ (soft_Round_k2 fu x2 x3 x6 x7 x8 x9 x10) _
   unfold soft_Round_k2
   refine J.joinS (fun (t : Int) => ([(0, .v (.int .i64 0)), (1, .v (.bool x2)), (2, .v (.int .i64 x3)), (12, .v (.int .i64 (imax (wk .i64 (x6 - 24)) (wk .i64 ((-149) - x3))))), (13, .v (.int .u64 t))], [])) (fun t => soft_Round_k3 fu x2 x3 x6 t) ?_ (fun hj3 => ?_)
   ·rintro x11
    show J _ (soft_Round_k3 fu x2 x3 x6 x11) _
    unfold soft_Round_k3
    conv => arg 1; simp (disch := first | exact Zd | fail) only [ZZ, d106_at, simprocAttr, h1, e_h2]
    refine J.eq go_seq ?_
    conv => arg 1; simp (disch := first | exact Zd | fail) only [ZZ, d106_at, simprocAttr, h1, e_h2]
    refine J.ite (fun h3 => ?_) (fun h3 => ?_)
    ·have h3' := decide_eq_true h3
     refine J.bind fun x12 h4 => ?_
     have e_h4 := H107_0 _ _ h4
     try simp only [NN, NT, LN, simprocAttr, DT] at e_h4
     refine J.some ?_
     simp (maxSteps := 20000000) (disch := first | exact Zd | fail) only [ZZ, d106_at, simprocAttr, h1, e_h2, h3', e_h4, FF, LN, NN, NT]
    ·have h3' := decide_eq_false h3
     conv => arg 1; simp (disch := first | exact Zd | fail) only [ZZ, d106_at, simprocAttr, h1, e_h2, h3']
     refine J.eq ret_seq ?_
     refine J.eq go_seq ?_
     conv => arg 1; simp (disch := first | exact Zd | fail) only [ZZ, d106_at, simprocAttr, h1, e_h2, h3']
     refine J.ite (fun h5 => ?_) (fun h5 => ?_)
     ·have h5' := decide_eq_true h5
      have h5'' : decide ((wk .i64 (x3 + (imax (wk .i64 (x6 - 24)) (wk .i64 ((-149) - x3))))) ≤ 104) = false := decide_eq_false (by omega)
      refine J.bind fun x13 h6 => ?_
      have e_h6 := H146_0 _ _ _ h6
      try simp only [NN, NT, LN, simprocAttr, DT] at e_h6
      refine J.some ?_
      simp (maxSteps := 20000000) (disch := first | exact Zd | fail) only [ZZ, d106_at, simprocAttr, h1, e_h2, h3', h5'', h5', e_h6, FF, LN, NN, NT]
     ·have h5' := decide_eq_false h5
      have h5'' : decide ((wk .i64 (x3 + (imax (wk .i64 (x6 - 24)) (wk .i64 ((-149) - x3))))) ≤ 104) = true := decide_eq_true (by omega)
      conv => arg 1; simp (disch := first | exact Zd | fail) only [ZZ, d106_at, simprocAttr, h1, e_h2, h3', h5'', h5']
      refine J.eq ret_seq ?_
      conv => arg 1; simp (disch := first | exact Zd | fail) only [ZZ, d106_at, simprocAttr, h1, e_h2, h3', h5'', h5']
      refine J.eq go_seq ?_
      conv => arg 1; simp (disch := first | exact Zd | fail) only [ZZ, d106_at, simprocAttr, h1, e_h2, h3', h5'', h5']
      refine J.ite (fun h7 => ?_) (fun h7 => ?_)
      ·have h7' := decide_eq_true h7
       have h7'' : decide ((wk .u64 ((shlk .u64 (wk .u64 (wk .i64 ((wk .i64 (x3 + (imax (wk .i64 (x6 - 24)) (wk .i64 ((-149) - x3))))) + 149))) 23) + x11)) < 2139095040) = false := decide_eq_false (by omega)
       refine J.bind fun x14 h8 => ?_
       have e_h8 := H146_0 _ _ _ h8
       try simp only [NN, NT, LN, simprocAttr, DT] at e_h8
       refine J.some ?_
       simp (maxSteps := 20000000) (disch := first | exact Zd | fail) only [ZZ, d106_at, simprocAttr, h1, e_h2, h3', h5'', h5', h7'', h7', e_h8, FF, LN, NN, NT]
      ·have h7' := decide_eq_false h7
       have h7'' : decide ((wk .u64 ((shlk .u64 (wk .u64 (wk .i64 ((wk .i64 (x3 + (imax (wk .i64 (x6 - 24)) (wk .i64 ((-149) - x3))))) + 149))) 23) + x11)) < 2139095040) = true := decide_eq_true (by omega)
       conv => arg 1; simp (disch := first | exact Zd | fail) only [ZZ, d106_at, simprocAttr, h1, e_h2, h3', h5'', h5', h7'', h7']
       refine J.eq ret_seq ?_
       refine J.bind fun x15 h9 => ?_
       have e_h9 := H107_0 _ _ h9
       try simp only [NN, NT, LN, simprocAttr, DT] at e_h9
       refine J.some ?_
       simp (maxSteps := 20000000) (disch := first | exact Zd | fail) only [ZZ, d106_at, simprocAttr, h1, e_h2, h3', h5'', h5', h7'', h7', e_h9, FF, LN, NN, NT]
   ·conv => arg 1; simp (disch := first | exact Zd | fail) only [ZZ, d106_at, simprocAttr, h1, e_h2]
    refine J.eq go_seq ?_
    conv => arg 1; simp (disch := first | exact Zd | fail) only [ZZ, d106_at, simprocAttr, h1, e_h2]
    refine J.eq ret_seq ?_
    conv => arg 1; simp (disch := first | exact Zd | fail) only [ZZ, d106_at, simprocAttr, h1, e_h2]
    refine J.eq go_seq ?_
    conv => arg 1; simp (disch := first | exact Zd | fail) only [ZZ, d106_at, simprocAttr, h1, e_h2]
    refine J.ite (fun h10 => ?_) (fun h10 => ?_)
    ·have h10' : x8 = true := h10
     conv => arg 1; simp (disch := first | exact Zd | fail) only [ZZ, d106_at, simprocAttr, h1, e_h2, h10']
     refine J.eq ret_seq ?_
     conv => arg 1; simp (disch := first | exact Zd | fail) only [ZZ, d106_at, simprocAttr, h1, e_h2, h10']
     refine J.jmp (t := wk .u64 (x7 + 1)) hj3 ?_ ?_
     ·first | rfl | (simp only [LN, NN, NT])
     ·first | (simp (disch := first | exact Zd | fail) only [RR, simprocAttr, LN, NN, NT]; done) | (simp (disch := first | exact Zd | fail) only [RR, simprocAttr, LN, fm_app, NN, NT]; done) | rfl
    ·have h10' : x8 = false := Bool.eq_false_iff.2 h10
     conv => arg 1; simp (disch := first | exact Zd | fail) only [ZZ, d106_at, simprocAttr, h1, e_h2, h10']
     refine J.ite (fun h11 => ?_) (fun h11 => ?_)
     ·have h11' : x9 = true := h11
      conv => arg 1; simp (disch := first | exact Zd | fail) only [ZZ, d106_at, simprocAttr, h1, e_h2, h10', h11']
      refine J.eq ret_seq ?_
      conv => arg 1; simp (disch := first | exact Zd | fail) only [ZZ, d106_at, simprocAttr, h1, e_h2, h10', h11']
      refine J.ite (fun h12 => ?_) (fun h12 => ?_)
      ·have h12' := decide_eq_true h12
       conv => arg 1; simp (disch := first | exact Zd | fail) only [ZZ, d106_at, simprocAttr, h1, e_h2, h10', h11', h12']
       refine J.jmp (t := wk .u64 (x7 + 1)) hj3 ?_ ?_
       ·first | rfl | (simp only [LN, NN, NT])
       ·first | (simp (disch := first | exact Zd | fail) only [RR, simprocAttr, LN, NN, NT]; done) | (simp (disch := first | exact Zd | fail) only [RR, simprocAttr, LN, fm_app, NN, NT]; done) | rfl
      ·have h12' := decide_eq_false h12
       conv => arg 1; simp (disch := first | exact Zd | fail) only [ZZ, d106_at, simprocAttr, h1, e_h2, h10', h11', h12']
       refine J.jmp (t := x7) hj3 ?_ ?_
       ·first | rfl | (simp only [LN, NN, NT])
       ·first | (simp (disch := first | exact Zd | fail) only [RR, simprocAttr, LN, NN, NT]; done) | (simp (disch := first | exact Zd | fail) only [RR, simprocAttr, LN, fm_app, NN, NT]; done) | rfl
     ·have h11' : x9 = false := Bool.eq_false_iff.2 h11
      conv => arg 1; simp (disch := first | exact Zd | fail) only [ZZ, d106_at, simprocAttr, h1, e_h2, h10', h11']
      refine J.eq ret_seq ?_
      conv => arg 1; simp (disch := first | exact Zd | fail) only [ZZ, d106_at, simprocAttr, h1, e_h2, h10', h11']
      refine J.jmp (t := x7) hj3 ?_ ?_
      ·first | rfl | (simp only [LN, NN, NT])
      ·first | (simp (disch := first | exact Zd | fail) only [RR, simprocAttr, LN, NN, NT]; done) | (simp (disch := first | exact Zd | fail) only [RR, simprocAttr, LN, fm_app, NN, NT]; done) | rfl
  ·conv => arg 1; simp (disch := first | exact Zd | fail) only [ZZ, d106_at, simprocAttr, h1, e_h2]
   refine J.ite (fun h13 => ?_) (fun h13 => ?_)
   ·have h13' := decide_eq_true h13
    have h13'' : decide (0 < (imax (wk .i64 (x6 - 24)) (wk .i64 ((-149) - x3)))) = false := decide_eq_false (by omega)
    refine J.chk fun h14 => ?_
    conv => arg 1; simp (disch := first | exact Zd | fail) only [ZZ, d106_at, simprocAttr, h1, e_h2, h13'', h13']
    refine J.jmp (t := (shlk .u64 x4 (wk .i64 (0 - (imax (wk .i64 (x6 - 24)) (wk .i64 ((-149) - x3))))), false, false, x5)) hj2 ?_ ?_
    ·first | rfl | (simp only [LN, NN, NT])
    ·first | (simp (disch := first | exact Zd | fail) only [RR, simprocAttr, LN, NN, NT]; done) | (simp (disch := first | exact Zd | fail) only [RR, simprocAttr, LN, fm_app, NN, NT]; done) | rfl
   ·have h13' := decide_eq_false h13
    have h13'' : decide (0 < (imax (wk .i64 (x6 - 24)) (wk .i64 ((-149) - x3)))) = true := decide_eq_true (by omega)
    conv => arg 1; simp (disch := first | exact Zd | fail) only [ZZ, d106_at, simprocAttr, h1, e_h2, h13'', h13']
    refine J.ite (fun h15 => ?_) (fun h15 => ?_)
    ·have h15' := decide_eq_true h15
     have h15'' : decide ((imax (wk .i64 (x6 - 24)) (wk .i64 ((-149) - x3))) ≤ x6) = false := decide_eq_false (by omega)
     conv => arg 1; simp (disch := first | exact Zd | fail) only [ZZ, d106_at, simprocAttr, h1, e_h2, h13'', h13', h15'', h15']
     refine J.jmp (t := (0, false, false, true)) hj2 ?_ ?_
     ·first | rfl | (simp only [LN, NN, NT])
     ·first | (simp (disch := first | exact Zd | fail) only [RR, simprocAttr, LN, NN, NT]; done) | (simp (disch := first | exact Zd | fail) only [RR, simprocAttr, LN, fm_app, NN, NT]; done) | rfl
    ·have h15' := decide_eq_false h15
     have h15'' : decide ((imax (wk .i64 (x6 - 24)) (wk .i64 ((-149) - x3))) ≤ x6) = true := decide_eq_true (by omega)
     refine J.chk fun h16 => ?_
     refine J.chk fun h17 => ?_
     conv => arg 1; simp (disch := first | exact Zd | fail) only [ZZ, d106_at, simprocAttr, h1, e_h2, h13'', h13', h15'', h15']
     refine J.joinS (fun (t : Bool) => ([(0, .v (.int .i64 0)), (1, .v (.bool x2)), (2, .v (.int .i64 x3)), (3, .v (.int .u64 x4)), (4, .v (.bool x5)), (11, .v (.int .i64 x6)), (12, .v (.int .i64 (imax (wk .i64 (x6 - 24)) (wk .i64 ((-149) - x3))))), (13, .v (.int .u64 (shrk .u64 x4 (imax (wk .i64 (x6 - 24)) (wk .i64 ((-149) - x3)))))), (14, .v (.bool t)), (15, .v (.bool false)), (16, .v (.bool x5)), (17, .v (.int .u64 (band .u64 x4 (wk .u64 ((shlk .u64 1 (imax (wk .i64 (x6 - 24)) (wk .i64 ((-149) - x3)))) - 1))))), (18, .v (.int .u64 (shlk .u64 1 (wk .i64 ((imax (wk .i64 (x6 - 24)) (wk .i64 ((-149) - x3))) - 1)))))], [])) (fun t => soft_Round_k4 fu x2 x3 x4 x5 x6 t) ?_ (fun hj4 => ?_)
     ·rintro x16
      show J _ (soft_Round_k4 fu x2 x3 x4 x5 x6 x16) _
      unfold soft_Round_k4
      refine J.eq go_seq ?_
      conv => arg 1; simp (disch := first | exact Zd | fail) only [ZZ, d106_at, simprocAttr, h1, e_h2, h13'', h13', h15'', h15']
      refine J.ite (fun h18 => ?_) (fun h18 => ?_)
      ·have h18' := decide_eq_true h18
       conv => arg 1; simp (disch := first | exact Zd | fail) only [ZZ, d106_at, simprocAttr, h1, e_h2, h13'', h13', h15'', h15', h18']
       refine J.eq ret_seq ?_
       conv => arg 1; simp (disch := first | exact Zd | fail) only [ZZ, d106_at, simprocAttr, h1, e_h2, h13'', h13', h15'', h15', h18']
       refine J.ite (fun h19 => ?_) (fun h19 => ?_)
       ·have h19' := decide_eq_true h19
        conv => arg 1; simp (disch := first | exact Zd | fail) only [ZZ, d106_at, simprocAttr, h1, e_h2, h13'', h13', h15'', h15', h18', h19']
        refine J.jmp (t := (shrk .u64 x4 (imax (wk .i64 (x6 - 24)) (wk .i64 ((-149) - x3))), x16, !x5, x5)) hj2 ?_ ?_
        ·first | rfl | (simp only [LN, NN, NT])
        ·first | (simp (disch := first | exact Zd | fail) only [RR, simprocAttr, LN, NN, NT]; done) | (simp (disch := first | exact Zd | fail) only [RR, simprocAttr, LN, fm_app, NN, NT]; done) | rfl
       ·have h19' := decide_eq_false h19
        conv => arg 1; simp (disch := first | exact Zd | fail) only [ZZ, d106_at, simprocAttr, h1, e_h2, h13'', h13', h15'', h15', h18', h19']
        refine J.jmp (t := (shrk .u64 x4 (imax (wk .i64 (x6 - 24)) (wk .i64 ((-149) - x3))), x16, !x5, true)) hj2 ?_ ?_
        ·first | rfl | (simp only [LN, NN, NT])
        ·first | (simp (disch := first | exact Zd | fail) only [RR, simprocAttr, LN, NN, NT]; done) | (simp (disch := first | exact Zd | fail) only [RR, simprocAttr, LN, fm_app, NN, NT]; done) | rfl
      ·have h18' := decide_eq_false h18
       conv => arg 1; simp (disch := first | exact Zd | fail) only [ZZ, d106_at, simprocAttr, h1, e_h2, h13'', h13', h15'', h15', h18']
       refine J.eq ret_seq ?_
       conv => arg 1; simp (disch := first | exact Zd | fail) only [ZZ, d106_at, simprocAttr, h1, e_h2, h13'', h13', h15'', h15', h18']
       refine J.ite (fun h20 => ?_) (fun h20 => ?_)
       ·have h20' := decide_eq_true h20
        conv => arg 1; simp (disch := first | exact Zd | fail) only [ZZ, d106_at, simprocAttr, h1, e_h2, h13'', h13', h15'', h15', h18', h20']
        refine J.jmp (t := (shrk .u64 x4 (imax (wk .i64 (x6 - 24)) (wk .i64 ((-149) - x3))), x16, false, x5)) hj2 ?_ ?_
        ·first | rfl | (simp only [LN, NN, NT])
        ·first | (simp (disch := first | exact Zd | fail) only [RR, simprocAttr, LN, NN, NT]; done) | (simp (disch := first | exact Zd | fail) only [RR, simprocAttr, LN, fm_app, NN, NT]; done) | rfl
       ·have h20' := decide_eq_false h20
        conv => arg 1; simp (disch := first | exact Zd | fail) only [ZZ, d106_at, simprocAttr, h1, e_h2, h13'', h13', h15'', h15', h18', h20']
        refine J.jmp (t := (shrk .u64 x4 (imax (wk .i64 (x6 - 24)) (wk .i64 ((-149) - x3))), x16, false, true)) hj2 ?_ ?_
        ·first | rfl | (simp only [LN, NN, NT])
        ·first | (simp (disch := first | exact Zd | fail) only [RR, simprocAttr, LN, NN, NT]; done) | (simp (disch := first | exact Zd | fail) only [RR, simprocAttr, LN, fm_app, NN, NT]; done) | rfl
     ·conv => arg 1; simp (disch := first | exact Zd | fail) only [ZZ, d106_at, simprocAttr, h1, e_h2, h13'', h13', h15'', h15']
      refine J.ite (fun h21 => ?_) (fun h21 => ?_)
      ·have h21' := decide_eq_true h21
       have h21'' : decide ((band .u64 x4 (wk .u64 ((shlk .u64 1 (imax (wk .i64 (x6 - 24)) (wk .i64 ((-149) - x3)))) - 1))) ≤ (shlk .u64 1 (wk .i64 ((imax (wk .i64 (x6 - 24)) (wk .i64 ((-149) - x3))) - 1)))) = false := decide_eq_false (by omega)
       conv => arg 1; simp (disch := first | exact Zd | fail) only [ZZ, d106_at, simprocAttr, h1, e_h2, h13'', h13', h15'', h15', h21'', h21']
       refine J.jmp (t := true) hj4 ?_ ?_
       ·first | rfl | (simp only [LN, NN, NT])
       ·first | (simp (disch := first | exact Zd | fail) only [RR, simprocAttr, LN, NN, NT]; done) | (simp (disch := first | exact Zd | fail) only [RR, simprocAttr, LN, fm_app, NN, NT]; done) | rfl
      ·have h21' := decide_eq_false h21
       have h21'' : decide ((band .u64 x4 (wk .u64 ((shlk .u64 1 (imax (wk .i64 (x6 - 24)) (wk .i64 ((-149) - x3)))) - 1))) ≤ (shlk .u64 1 (wk .i64 ((imax (wk .i64 (x6 - 24)) (wk .i64 ((-149) - x3))) - 1)))) = true := decide_eq_true (by omega)
       conv => arg 1; simp (disch := first | exact Zd | fail) only [ZZ, d106_at, simprocAttr, h1, e_h2, h13'', h13', h15'', h15', h21'', h21']
       refine J.ite (fun h22 => ?_) (fun h22 => ?_)
       ·have h22' := decide_eq_true h22
        conv => arg 1; simp (disch := first | exact Zd | fail) only [ZZ, d106_at, simprocAttr, h1, e_h2, h13'', h13', h15'', h15', h21'', h21', h22']
        refine J.jmp (t := x5) hj4 ?_ ?_
        ·first | rfl | (simp only [LN, NN, NT])
        ·first | (simp (disch := first | exact Zd | fail) only [RR, simprocAttr, LN, NN, NT]; done) | (simp (disch := first | exact Zd | fail) only [RR, simprocAttr, LN, fm_app, NN, NT]; done) | rfl
       ·have h22' := decide_eq_false h22
        conv => arg 1; simp (disch := first | exact Zd | fail) only [ZZ, d106_at, simprocAttr, h1, e_h2, h13'', h13', h15'', h15', h21'', h21', h22']
        refine J.jmp (t := false) hj4 ?_ ?_
        ·first | rfl | (simp only [LN, NN, NT])
        ·first | (simp (disch := first | exact Zd | fail) only [RR, simprocAttr, LN, NN, NT]; done) | (simp (disch := first | exact Zd | fail) only [RR, simprocAttr, LN, fm_app, NN, NT]; done) | rfl
 ·conv => arg 1; simp (disch := first | exact Zd | fail) only [ZZ, d106_at, simprocAttr, h1, e_h2]
  refine J.eq go_seq ?_
  conv => arg 1; simp (disch := first | exact Zd | fail) only [ZZ, d106_at, simprocAttr, h1, e_h2]
  refine J.ite (fun h23 => ?_) (fun h23 => ?_)
  ·have h23' := decide_eq_true h23
   conv => arg 1; simp (disch := first | exact Zd | fail) only [ZZ, d106_at, simprocAttr, h1, e_h2, h23']
   refine J.eq ret_seq ?_
   conv => arg 1; simp (disch := first | exact Zd | fail) only [ZZ, d106_at, simprocAttr, h1, e_h2, h23']
   refine J.ite (fun h24 => ?_) (fun h24 => ?_)
   ·have h24' : x5 = true := h24
    conv => arg 1; simp (disch := first | exact Zd | fail) only [ZZ, d106_at, simprocAttr, h1, e_h2, h23', h24']
    refine J.eq go_seq ?_
    conv => arg 1; simp (disch := first | exact Zd | fail) only [ZZ, d106_at, simprocAttr, h1, e_h2, h23', h24']
    refine J.eq ret_seq ?_
    refine J.bind fun x17 h25 => ?_
    have e_h25 := H145_0 _ _ _ h25
    try simp only [NN, NT, LN, simprocAttr, DT] at e_h25
    refine J.some ?_
    simp (maxSteps := 20000000) (disch := first | exact Zd | fail) only [ZZ, d106_at, simprocAttr, h1, e_h2, h23', h24', e_h25, FF, LN, NN, NT]
   ·have h24' : x5 = false := Bool.eq_false_iff.2 h24
    refine J.bind fun x18 h26 => ?_
    have e_h26 := H107_0 _ _ h26
    try simp only [NN, NT, LN, simprocAttr, DT] at e_h26
    refine J.some ?_
    simp (maxSteps := 20000000) (disch := first | exact Zd | fail) only [ZZ, d106_at, simprocAttr, h1, e_h2, h23', h24', e_h26, FF, LN, NN, NT]
  ·have h23' := decide_eq_false h23
   conv => arg 1; simp (disch := first | exact Zd | fail) only [ZZ, d106_at, simprocAttr, h1, e_h2, h23']
   refine J.eq ret_seq ?_
   conv => arg 1; simp (disch := first | exact Zd | fail) only [ZZ, d106_at, simprocAttr, h1, e_h2, h23']
   refine J.eq go_seq ?_
   conv => arg 1; simp (disch := first | exact Zd | fail) only [ZZ, d106_at, simprocAttr, h1, e_h2, h23']
   refine J.eq ret_seq ?_
   conv => arg 1; simp (disch := first | exact Zd | fail) only [ZZ, d106_at, simprocAttr, h1, e_h2, h23']
   refine J.ite (fun h27 => ?_) (fun h27 => ?_)
   ·have h27' := decide_eq_true h27
    have h27'' : decide ((-300) ≤ x3) = false := decide_eq_false (by omega)
    refine J.bind fun x19 h28 => ?_
    have e_h28 := H145_0 _ _ _ h28
    try simp only [NN, NT, LN, simprocAttr, DT] at e_h28
    refine J.some ?_
    simp (maxSteps := 20000000) (disch := first | exact Zd | fail) only [ZZ, d106_at, simprocAttr, h1, e_h2, h23', h27'', h27', e_h28, FF, LN, NN, NT]
   ·have h27' := decide_eq_false h27
    have h27'' : decide ((-300) ≤ x3) = true := decide_eq_true (by omega)
    conv => arg 1; simp (disch := first | exact Zd | fail) only [ZZ, d106_at, simprocAttr, h1, e_h2, h23', h27'', h27']
    refine J.ite (fun h29 => ?_) (fun h29 => ?_)
    ·have h29' := decide_eq_true h29
     have h29'' : decide (x3 ≤ 200) = false := decide_eq_false (by omega)
     refine J.bind fun x20 h30 => ?_
     have e_h30 := H146_0 _ _ _ h30
     try simp only [NN, NT, LN, simprocAttr, DT] at e_h30
     refine J.some ?_
     simp (maxSteps := 20000000) (disch := first | exact Zd | fail) only [ZZ, d106_at, simprocAttr, h1, e_h2, h23', h27'', h27', h29'', h29', e_h30, FF, LN, NN, NT]
    ·have h29' := decide_eq_false h29
     have h29'' : decide (x3 ≤ 200) = true := decide_eq_true (by omega)
     conv => arg 1; simp (disch := first | exact Zd | fail) only [ZZ, d106_at, simprocAttr, h1, e_h2, h23', h27'', h27', h29'', h29']
     refine J.jmp (t := ()) hj1 ?_ ?_
     ·first | rfl | (simp only [LN, NN, NT])
     ·first | (simp (disch := first | exact Zd | fail) only [RR, simprocAttr, LN, NN, NT]; done) | (simp (disch := first | exact Zd | fail) only [RR, simprocAttr, LN, fm_app, NN, NT]; done) | rfl
noncomputable def t106 (fu : Nat) : CallP := orE 144 (mkC (fun (t : Int) => ([.v (.int .u64 t)] : List AV)) (fun t => math_bits_Len64 fu t) e144) (orE 145 (mkC (fun (t : Int × Bool) => ([.v (.int .i64 t.1), .v (.bool t.2)] : List AV)) (fun t => soft_tiny fu t.1 t.2) e145) (orE 107 (mkC (fun (t : Bool) => ([.v (.bool t)] : List AV)) (fun t => soft_sign fu t) e107) (orE 146 (mkC (fun (t : Int × Bool) => ([.v (.int .i64 t.1), .v (.bool t.2)] : List AV)) (fun t => soft_huge fu t.1 t.2) e146) (noP))))
theorem t106_ok (fu : Nat) : CpOK Tryz.prog (t106 fu ) := orE_ok (orE_ok (orE_ok (orE_ok (noP_ok) (mkC_ok (fun t b h => ok146 fu t.1 t.2  b h))) (mkC_ok (fun t b h => ok107 fu t  b h))) (mkC_ok (fun t b h => ok145 fu t.1 t.2  b h))) (mkC_ok (fun t b h => ok144 fu t  b h))
theorem ok106 (fu : Nat) (x1 : Int) (x2 : Bool) (x3 : Int) (x4 : Int) (x5 : Bool) (r) (h : soft_Round fu x1 x2 x3 x4 x5 = some r) : PureOK Tryz.prog 106 [.v (.int .i64 x1), .v (.bool x2), .v (.int .i64 x3), .v (.int .u64 x4), .v (.bool x5)] (e106 r) :=
  pure_J mixed (cp := t106 fu ) (t106_ok fu  ) noI_ok i106 (w106 _ fu x1 x2 x3 x4 x5  (fun a0 r h => orE_hit (mkC_at (a := a0) (by intro a b h; first | (exact rfl) | (simp only [INJ, IJ] at h; first | exact h | (simp_all [Prod.ext_iff]) )) h)) (fun a0 a1 r h => orE_miss (by decide) (orE_hit (mkC_at (a := (a0, a1)) (by intro a b h; first | (exact rfl) | (simp only [INJ, IJ] at h; first | exact h | (simp_all [Prod.ext_iff]) )) h))) (fun a0 r h => orE_miss (by decide) (orE_miss (by decide) (orE_hit (mkC_at (a := a0) (by intro a b h; first | (exact rfl) | (simp only [INJ, IJ] at h; first | exact h | (simp_all [Prod.ext_iff]) )) h)))) (fun a0 a1 r h => orE_miss (by decide) (orE_miss (by decide) (orE_miss (by decide) (orE_hit (mkC_at (a := (a0, a1)) (by intro a b h; first | (exact rfl) | (simp only [INJ, IJ] at h; first | exact h | (simp_all [Prod.ext_iff]) )) h)))))) h
/-! 73: lattice/soft.MulBy -/
open Aw (d73)
def d73_at := by have h := tabL Aw.d73.eq_1; simp only [AllAt, Nat.zero_add, Nat.reduceAdd] at h; exact h
theorem i73 : finfo Tryz.prog 73 d73 = some ⟨bodyOf Tryz.f73, [.tmp 6], [23]⟩ := finfo_at Tryz.func73 rfl (by kernel_rfl) (by kernel_rfl)
def e73 : Int → AV := fun r => .v (.int .u32 r)
set_option maxHeartbeats 20000000 in
theorem w73 (cp : CallP) (fu : Nat) (x1 : Int) (x2 : Int) (x3 : Int) (H104_0 : ∀ (a0 : Int) r, soft_open fu a0 = some r → cp 104 [.v (.int .u32 a0)] = some (.agg [.v (.bool r.fneg), .v (.bool r.fnan), .v (.bool r.finf), .v (.int .i64 r.fexp), .v (.int .u64 r.fsig)])) (H107_0 : ∀ (a0 : Bool) r, soft_sign fu a0 = some r → cp 107 [.v (.bool a0)] = some (.v (.int .u32 r))) (H106_0 : ∀ (a0 : Int) (a1 : Bool) (a2 : Int) (a3 : Int) (a4 : Bool) r, soft_Round fu a0 a1 a2 a3 a4 = some r → cp 106 [.v (.int .i64 a0), .v (.bool a1), .v (.int .i64 a2), .v (.int .u64 a3), .v (.bool a4)] = some (.v (.int .u32 r))) : J (go Tryz.prog noC cp noI 0 [] d73 fu (fin Tryz.prog [.tmp 6] [23]) (bodyOf Tryz.f73) (initE 0 [.v (.int .i64 x1), .v (.int .u32 x2), .v (.int .u32 x3)]) [] []) (soft_MulBy fu x1 x2 x3) e73 := by
 unfold soft_MulBy e73
 refine J.chk fun h1 => ?_
 refine J.bind fun x4 h2 => ?_
 have e_h2 := H104_0 _ _ h2
 try simp only [NN, NT, LN, simprocAttr, DT] at e_h2
 refine J.bind fun x5 h3 => ?_
 have e_h3 := H104_0 _ _ h3
 try simp only [NN, NT, LN, simprocAttr, DT] at e_h3
 conv => arg 1; simp (disch := first | exact Zd | fail) only [bodyOf, Tryz.f73, ZZ, d73_at, simprocAttr, h1, e_h2, e_h3]
 refine J.joinS (fun (t : Unit) => ([(0, .v (.int .i64 0)), (7, .ptr (0, 7, 0) 0 0), (8, .ptr (0, 8, 0) 0 0), (9, .v (.bool (!(x4.fneg == x5.fneg))))], [((0, 7, 0), .bx true ([.v (.bool x4.fneg), .v (.bool false), .v (.bool false), .v (.int .i64 x4.fexp), .v (.int .u64 x4.fsig)])), ((0, 8, 0), .bx true ([.v (.bool x5.fneg), .v (.bool false), .v (.bool false), .v (.int .i64 x5.fexp), .v (.int .u64 x5.fsig)]))])) (fun t => soft_MulBy_k1 fu x4 x5) ?_ (fun hj1 => ?_)
 ·rintro ⟨⟩
  show J _ (soft_MulBy_k1 fu x4 x5) _
  unfold soft_MulBy_k1
  refine J.bind fun x6 h4 => ?_
  have e_h4 := H106_0 _ _ _ _ _ _ h4
  try simp only [NN, NT, LN, simprocAttr, DT] at e_h4
  refine J.some ?_
  simp (maxSteps := 20000000) (disch := first | exact Zd | fail) only [ZZ, d73_at, simprocAttr, h1, e_h2, e_h3, e_h4, FF, LN, NN, NT]
 ·conv => arg 1; simp (disch := first | exact Zd | fail) only [ZZ, d73_at, simprocAttr, h1, e_h2, e_h3]
  refine J.eq go_seq ?_
  conv => arg 1; simp (disch := first | exact Zd | fail) only [ZZ, d73_at, simprocAttr, h1, e_h2, e_h3]
  refine J.ite (fun h5 => ?_) (fun h5 => ?_)
  ·have h5' : x4.fnan = true := h5
   conv => arg 1; simp (disch := first | exact Zd | fail) only [ZZ, d73_at, simprocAttr, h1, e_h2, e_h3, h5']
   refine J.eq ret_seq ?_
   refine J.some ?_
   simp (maxSteps := 20000000) (disch := first | exact Zd | fail) only [ZZ, d73_at, simprocAttr, h1, e_h2, e_h3, h5', FF, LN, NN, NT]
  ·have h5' : x4.fnan = false := Bool.eq_false_iff.2 h5
   conv => arg 1; simp (disch := first | exact Zd | fail) only [ZZ, d73_at, simprocAttr, h1, e_h2, e_h3, h5']
   refine J.ite (fun h6 => ?_) (fun h6 => ?_)
   ·have h6' : x5.fnan = true := h6
    conv => arg 1; simp (disch := first | exact Zd | fail) only [ZZ, d73_at, simprocAttr, h1, e_h2, e_h3, h5', h6']
    refine J.eq ret_seq ?_
    refine J.some ?_
    simp (maxSteps := 20000000) (disch := first | exact Zd | fail) only [ZZ, d73_at, simprocAttr, h1, e_h2, e_h3, h5', h6', FF, LN, NN, NT]
   ·have h6' : x5.fnan = false := Bool.eq_false_iff.2 h6
    conv => arg 1; simp (disch := first | exact Zd | fail) only [ZZ, d73_at, simprocAttr, h1, e_h2, e_h3, h5', h6']
    refine J.ite (fun h7 => ?_) (fun h7 => ?_)
    ·have h7' : x4.finf = true := h7
     conv => arg 1; simp (disch := first | exact Zd | fail) only [ZZ, d73_at, simprocAttr, h1, e_h2, e_h3, h5', h6', h7']
     refine J.ite (fun h8 => ?_) (fun h8 => ?_)
     ·have h8' : x5.finf = true := h8
      conv => arg 1; simp (disch := first | exact Zd | fail) only [ZZ, d73_at, simprocAttr, h1, e_h2, e_h3, h5', h6', h7', h8']
      refine J.eq ret_seq ?_
      conv => arg 1; simp (disch := first | exact Zd | fail) only [ZZ, d73_at, simprocAttr, h1, e_h2, e_h3, h5', h6', h7', h8']
      refine J.eq go_seq ?_
      conv => arg 1; simp (disch := first | exact Zd | fail) only [ZZ, d73_at, simprocAttr, h1, e_h2, e_h3, h5', h6', h7', h8']
      refine J.eq ret_seq ?_
      refine J.bind fun x7 h9 => ?_
      have e_h9 := H107_0 _ _ h9
      try simp only [NN, NT, LN, simprocAttr, DT] at e_h9
      refine J.some ?_
      simp (maxSteps := 20000000) (disch := first | exact Zd | fail) only [ZZ, d73_at, simprocAttr, h1, e_h2, e_h3, h5', h6', h7', h8', e_h9, FF, LN, NN, NT]
     ·have h8' : x5.finf = false := Bool.eq_false_iff.2 h8
      conv => arg 1; simp (disch := first | exact Zd | fail) only [ZZ, d73_at, simprocAttr, h1, e_h2, e_h3, h5', h6', h7', h8']
      refine J.ite (fun h10 => ?_) (fun h10 => ?_)
      ·have h10' := decide_eq_true h10
       conv => arg 1; simp (disch := first | exact Zd | fail) only [ZZ, d73_at, simprocAttr, h1, e_h2, e_h3, h5', h6', h7', h8', h10']
       refine J.eq ret_seq ?_
       refine J.some ?_
       simp (maxSteps := 20000000) (disch := first | exact Zd | fail) only [ZZ, d73_at, simprocAttr, h1, e_h2, e_h3, h5', h6', h7', h8', h10', FF, LN, NN, NT]
      ·have h10' := decide_eq_false h10
       conv => arg 1; simp (disch := first | exact Zd | fail) only [ZZ, d73_at, simprocAttr, h1, e_h2, e_h3, h5', h6', h7', h8', h10']
       refine J.eq ret_seq ?_
       conv => arg 1; simp (disch := first | exact Zd | fail) only [ZZ, d73_at, simprocAttr, h1, e_h2, e_h3, h5', h6', h7', h8', h10']
       refine J.eq go_seq ?_
       conv => arg 1; simp (disch := first | exact Zd | fail) only [ZZ, d73_at, simprocAttr, h1, e_h2, e_h3, h5', h6', h7', h8', h10']
       refine J.eq ret_seq ?_
       refine J.bind fun x8 h11 => ?_
       have e_h11 := H107_0 _ _ h11
       try simp only [NN, NT, LN, simprocAttr, DT] at e_h11
       refine J.some ?_
       simp (maxSteps := 20000000) (disch := first | exact Zd | fail) only [ZZ, d73_at, simprocAttr, h1, e_h2, e_h3, h5', h6', h7', h8', h10', e_h11, FF, LN, NN, NT]
    ·have h7' : x4.finf = false := Bool.eq_false_iff.2 h7
     conv => arg 1; simp (disch := first | exact Zd | fail) only [ZZ, d73_at, simprocAttr, h1, e_h2, e_h3, h5', h6', h7']
     refine J.ite (fun h12 => ?_) (fun h12 => ?_)
     ·have h12' : x5.finf = true := h12
      conv => arg 1; simp (disch := first | exact Zd | fail) only [ZZ, d73_at, simprocAttr, h1, e_h2, e_h3, h5', h6', h7', h12']
      refine J.eq ret_seq ?_
      conv => arg 1; simp (disch := first | exact Zd | fail) only [ZZ, d73_at, simprocAttr, h1, e_h2, e_h3, h5', h6', h7', h12']
      refine J.ite (fun h13 => ?_) (fun h13 => ?_)
      ·have h13' := decide_eq_true h13
       refine J.some ?_
       simp (maxSteps := 20000000) (disch := first | exact Zd | fail) only [ZZ, d73_at, simprocAttr, h1, e_h2, e_h3, h5', h6', h7', h12', h13', FF, LN, NN, NT]
      ·have h13' := decide_eq_false h13
       conv => arg 1; simp (disch := first | exact Zd | fail) only [ZZ, d73_at, simprocAttr, h1, e_h2, e_h3, h5', h6', h7', h12', h13']
       refine J.eq go_seq ?_
       conv => arg 1; simp (disch := first | exact Zd | fail) only [ZZ, d73_at, simprocAttr, h1, e_h2, e_h3, h5', h6', h7', h12', h13']
       refine J.eq ret_seq ?_
       refine J.bind fun x9 h14 => ?_
       have e_h14 := H107_0 _ _ h14
       try simp only [NN, NT, LN, simprocAttr, DT] at e_h14
       refine J.some ?_
       simp (maxSteps := 20000000) (disch := first | exact Zd | fail) only [ZZ, d73_at, simprocAttr, h1, e_h2, e_h3, h5', h6', h7', h12', h13', e_h14, FF, LN, NN, NT]
     ·have h12' : x5.finf = false := Bool.eq_false_iff.2 h12
      conv => arg 1; simp (disch := first | exact Zd | fail) only [ZZ, d73_at, simprocAttr, h1, e_h2, e_h3, h5', h6', h7', h12']
      refine J.eq ret_seq ?_
      conv => arg 1; simp (disch := first | exact Zd | fail) only [ZZ, d73_at, simprocAttr, h1, e_h2, e_h3, h5', h6', h7', h12']
      refine J.eq go_seq ?_
      conv => arg 1; simp (disch := first | exact Zd | fail) only [ZZ, d73_at, simprocAttr, h1, e_h2, e_h3, h5', h6', h7', h12']
      refine J.eq ret_seq ?_
      conv => arg 1; simp (disch := first | exact Zd | fail) only [ZZ, d73_at, simprocAttr, h1, e_h2, e_h3, h5', h6', h7', h12']
      refine J.jmp (t := ()) hj1 ?_ ?_
      ·first | rfl | (simp only [LN, NN, NT])
      ·first | (simp (disch := first | exact Zd | fail) only [RR, simprocAttr, LN, NN, NT]; done) | (simp (disch := first | exact Zd | fail) only [RR, simprocAttr, LN, fm_app, NN, NT]; done) | rfl
noncomputable def t73 (fu : Nat) : CallP := orE 104 (mkC (fun (t : Int) => ([.v (.int .u32 t)] : List AV)) (fun t => soft_open fu t) e104) (orE 107 (mkC (fun (t : Bool) => ([.v (.bool t)] : List AV)) (fun t => soft_sign fu t) e107) (orE 106 (mkC (fun (t : Int × Bool × Int × Int × Bool) => ([.v (.int .i64 t.1), .v (.bool t.2.1), .v (.int .i64 t.2.2.1), .v (.int .u64 t.2.2.2.1), .v (.bool t.2.2.2.2)] : List AV)) (fun t => soft_Round fu t.1 t.2.1 t.2.2.1 t.2.2.2.1 t.2.2.2.2) e106) (noP)))
theorem t73_ok (fu : Nat) : CpOK Tryz.prog (t73 fu ) := orE_ok (orE_ok (orE_ok (noP_ok) (mkC_ok (fun t b h => ok106 fu t.1 t.2.1 t.2.2.1 t.2.2.2.1 t.2.2.2.2  b h))) (mkC_ok (fun t b h => ok107 fu t  b h))) (mkC_ok (fun t b h => ok104 fu t  b h))
theorem ok73 (fu : Nat) (x1 : Int) (x2 : Int) (x3 : Int) (r) (h : soft_MulBy fu x1 x2 x3 = some r) : PureOK Tryz.prog 73 [.v (.int .i64 x1), .v (.int .u32 x2), .v (.int .u32 x3)] (e73 r) :=
  pure_J mixed (cp := t73 fu ) (t73_ok fu  ) noI_ok i73 (w73 _ fu x1 x2 x3  (fun a0 r h => orE_hit (mkC_at (a := a0) (by intro a b h; first | (exact rfl) | (simp only [INJ, IJ] at h; first | exact h | (simp_all [Prod.ext_iff]) )) h)) (fun a0 r h => orE_miss (by decide) (orE_hit (mkC_at (a := a0) (by intro a b h; first | (exact rfl) | (simp only [INJ, IJ] at h; first | exact h | (simp_all [Prod.ext_iff]) )) h))) (fun a0 a1 a2 a3 a4 r h => orE_miss (by decide) (orE_miss (by decide) (orE_hit (mkC_at (a := (a0, a1, a2, a3, a4)) (by intro a b h; first | (exact rfl) | (simp only [INJ, IJ] at h; first | exact h | (simp_all [Prod.ext_iff]) )) h))))) h
/-! 42: lattice/soft.Mul -/
open Aw (d42)
def d42_at := by have h := tabL Aw.d42.eq_1; simp only [AllAt, Nat.zero_add, Nat.reduceAdd] at h; exact h
theorem i42 : finfo Tryz.prog 42 d42 = some ⟨bodyOf Tryz.f42, [.tmp 4], [23]⟩ := finfo_at Tryz.func42 rfl (by kernel_rfl) (by kernel_rfl)
def e42 : Int → AV := fun r => .v (.int .u32 r)
set_option maxHeartbeats 20000000 in
theorem w42 (cp : CallP) (fu : Nat) (x1 : Int) (x2 : Int) (H73_0 : ∀ (a0 : Int) (a1 : Int) (a2 : Int) r, soft_MulBy fu a0 a1 a2 = some r → cp 73 [.v (.int .i64 a0), .v (.int .u32 a1), .v (.int .u32 a2)] = some (.v (.int .u32 r))) : J (go Tryz.prog noC cp noI 0 [] d42 fu (fin Tryz.prog [.tmp 4] [23]) (bodyOf Tryz.f42) (initE 0 [.v (.int .u32 x1), .v (.int .u32 x2)]) [] []) (soft_Mul fu x1 x2) e42 := by
 unfold soft_Mul e42
 refine J.bind fun x3 h1 => ?_
 have e_h1 := H73_0 _ _ _ _ h1
 try simp only [NN, NT, LN, simprocAttr, DT] at e_h1
 refine J.some ?_
 simp (maxSteps := 20000000) (disch := first | exact Zd | fail) only [bodyOf, Tryz.f42, ZZ, d42_at, simprocAttr, e_h1, FF, LN, NN, NT]
noncomputable def t42 (fu : Nat) : CallP := orE 73 (mkC (fun (t : Int × Int × Int) => ([.v (.int .i64 t.1), .v (.int .u32 t.2.1), .v (.int .u32 t.2.2)] : List AV)) (fun t => soft_MulBy fu t.1 t.2.1 t.2.2) e73) (noP)
theorem t42_ok (fu : Nat) : CpOK Tryz.prog (t42 fu ) := orE_ok (noP_ok) (mkC_ok (fun t b h => ok73 fu t.1 t.2.1 t.2.2  b h))
theorem ok42 (fu : Nat) (x1 : Int) (x2 : Int) (r) (h : soft_Mul fu x1 x2 = some r) : PureOK Tryz.prog 42 [.v (.int .u32 x1), .v (.int .u32 x2)] (e42 r) :=
  pure_J mixed (cp := t42 fu ) (t42_ok fu  ) noI_ok i42 (w42 _ fu x1 x2  (fun a0 a1 a2 r h => orE_hit (mkC_at (a := (a0, a1, a2)) (by intro a b h; first | (exact rfl) | (simp only [INJ, IJ] at h; first | exact h | (simp_all [Prod.ext_iff]) )) h))) h
/-! 105: lattice/soft.nought -/
def d105 : List (Nat × List Nat) := [(0, [2]), (0, []), (0, [0, 3, 4, 5])]
def d105_at := by have h := tabL d105.eq_1; simp only [AllAt, Nat.zero_add, Nat.reduceAdd] at h; exact h
theorem i105 : finfo Tryz.prog 105 d105 = some ⟨bodyOf Tryz.f105, [.tmp 2], [23]⟩ := finfo_at Tryz.func105 rfl (by kernel_rfl) (by kernel_rfl)
def e105 : Int → AV := fun r => .v (.int .u32 r)
set_option maxHeartbeats 20000000 in
theorem w105 (cp : CallP) (fu : Nat) (x1 : Int) (H107_0 : ∀ (a0 : Bool) r, soft_sign fu a0 = some r → cp 107 [.v (.bool a0)] = some (.v (.int .u32 r))) : J (go Tryz.prog noC cp noI 0 [] d105 fu (fin Tryz.prog [.tmp 2] [23]) (bodyOf Tryz.f105) (initE 0 [.v (.int .i64 x1)]) [] []) (soft_nought fu x1) e105 := by
 unfold soft_nought e105
 refine J.chk fun h1 => ?_
 refine J.bind fun x2 h2 => ?_
 have e_h2 := H107_0 _ _ h2
 try simp only [NN, NT, LN, simprocAttr, DT] at e_h2
 refine J.some ?_
 simp (maxSteps := 20000000) (disch := first | exact Zd | fail) only [bodyOf, Tryz.f105, ZZ, d105_at, simprocAttr, h1, e_h2, FF, LN, NN, NT]
noncomputable def t105 (fu : Nat) : CallP := orE 107 (mkC (fun (t : Bool) => ([.v (.bool t)] : List AV)) (fun t => soft_sign fu t) e107) (noP)
theorem t105_ok (fu : Nat) : CpOK Tryz.prog (t105 fu ) := orE_ok (noP_ok) (mkC_ok (fun t b h => ok107 fu t  b h))
theorem ok105 (fu : Nat) (x1 : Int) (r) (h : soft_nought fu x1 = some r) : PureOK Tryz.prog 105 [.v (.int .i64 x1)] (e105 r) :=
  pure_J mixed (cp := t105 fu ) (t105_ok fu  ) noI_ok i105 (w105 _ fu x1  (fun a0 r h => orE_hit (mkC_at (a := a0) (by intro a b h; first | (exact rfl) | (simp only [INJ, IJ] at h; first | exact h | (simp_all [Prod.ext_iff]) )) h))) h
/-! 72: lattice/soft.AddBy -/
open Aw (d72)
def d72_at := by have h := tabL Aw.d72.eq_1; simp only [AllAt, Nat.zero_add, Nat.reduceAdd] at h; exact h
theorem i72 : finfo Tryz.prog 72 d72 = some ⟨bodyOf Tryz.f72, [.tmp 6], [23]⟩ := finfo_at Tryz.func72 rfl (by kernel_rfl) (by kernel_rfl)
def e72 : Int → AV := fun r => .v (.int .u32 r)
set_option maxHeartbeats 20000000 in
theorem w72 (cp : CallP) (fu : Nat) (x1 : Int) (x2 : Int) (x3 : Int) (H104_0 : ∀ (a0 : Int) r, soft_open fu a0 = some r → cp 104 [.v (.int .u32 a0)] = some (.agg [.v (.bool r.fneg), .v (.bool r.fnan), .v (.bool r.finf), .v (.int .i64 r.fexp), .v (.int .u64 r.fsig)])) (H105_0 : ∀ (a0 : Int) r, soft_nought fu a0 = some r → cp 105 [.v (.int .i64 a0)] = some (.v (.int .u32 r))) (H106_0 : ∀ (a0 : Int) (a1 : Bool) (a2 : Int) (a3 : Int) (a4 : Bool) r, soft_Round fu a0 a1 a2 a3 a4 = some r → cp 106 [.v (.int .i64 a0), .v (.bool a1), .v (.int .i64 a2), .v (.int .u64 a3), .v (.bool a4)] = some (.v (.int .u32 r))) : J (go Tryz.prog noC cp noI 0 [] d72 fu (fin Tryz.prog [.tmp 6] [23]) (bodyOf Tryz.f72) (initE 0 [.v (.int .i64 x1), .v (.int .u32 x2), .v (.int .u32 x3)]) [] []) (soft_AddBy fu x1 x2 x3) e72 := by
 unfold soft_AddBy e72
 refine J.chk fun h1 => ?_
 refine J.bind fun x4 h2 => ?_
 have e_h2 := H104_0 _ _ h2
 try simp only [NN, NT, LN, simprocAttr, DT] at e_h2
 refine J.bind fun x5 h3 => ?_
 have e_h3 := H104_0 _ _ h3
 try simp only [NN, NT, LN, simprocAttr, DT] at e_h3
 conv => arg 1; simp (disch := first | exact Zd | fail) only [bodyOf, Tryz.f72, ZZ, d72_at, simprocAttr, h1, e_h2, e_h3]
 refine J.joinS (fun (t : Unit) => ([(0, .v (.int .i64 0)), (7, .ptr (0, 7, 0) 0 0), (8, .ptr (0, 8, 0) 0 0)], [((0, 7, 0), .bx true ([.v (.bool x4.fneg), .v (.bool false), .v (.bool false), .v (.int .i64 x4.fexp), .v (.int .u64 x4.fsig)])), ((0, 8, 0), .bx true ([.v (.bool x5.fneg), .v (.bool false), .v (.bool false), .v (.int .i64 x5.fexp), .v (.int .u64 x5.fsig)]))])) (fun t => soft_AddBy_k1 fu x4 x5) ?_ (fun hj1 => ?_)
 ·rintro ⟨⟩
  show J _ (soft_AddBy_k1 fu x4 x5) _
  unfold soft_AddBy_k1
  refine J.joinS (fun (t : Bool × Int × Int × Bool × Int × Int) => ([(0, .v (.int .i64 0)), (7, .ptr (0, 7, 0) 0 0), (8, .ptr (0, 8, 0) 0 0)], [((0, 7, 0), .bx true ([.v (.bool t.1), .v (.bool false), .v (.bool false), .v (.int .i64 t.2.1), .v (.int .u64 t.2.2.1)])), ((0, 8, 0), .bx true ([.v (.bool t.2.2.2.1), .v (.bool false), .v (.bool false), .v (.int .i64 t.2.2.2.2.1), .v (.int .u64 t.2.2.2.2.2)]))])) (fun t => soft_AddBy_k2 fu t.1 t.2.1 t.2.2.1 t.2.2.2.1 t.2.2.2.2.1 t.2.2.2.2.2) ?_ (fun hj2 => ?_)
  ·rintro ⟨x6, x7, x8, x9, x10, x11⟩
   show J _ (soft_AddBy_k2 fu x6 x7 x8 x9 x10 x11) _
   unfold soft_AddBy_k2
   conv => arg 1; simp (disch := first | exact Zd | fail) only [ZZ, d72_at, simprocAttr, h1, e_h2, e_h3]
   refine J.joinS (fun (t : Int × Int × Int × Bool) => ([(0, .v (.int .i64 0)), (7, .ptr (0, 7, 0) 0 0), (8, .ptr (0, 8, 0) 0 0), (9, .v (.int .i64 (wk .i64 (x7 - x10)))), (10, .v (.int .i64 t.1)), (11, .v (.int .u64 t.2.1)), (12, .v (.int .u64 t.2.2.1)), (13, .v (.bool t.2.2.2))], [((0, 7, 0), .bx true ([.v (.bool x6), .v (.bool false), .v (.bool false), .v (.int .i64 x7), .v (.int .u64 x8)])), ((0, 8, 0), .bx true ([.v (.bool x9), .v (.bool false), .v (.bool false), .v (.int .i64 x10), .v (.int .u64 x11)]))])) (fun t => soft_AddBy_k3 fu x6 x9 t.1 t.2.1 t.2.2.1 t.2.2.2) ?_ (fun hj3 => ?_)
   ·rintro ⟨x12, x13, x14, x15⟩
    show J _ (soft_AddBy_k3 fu x6 x9 x12 x13 x14 x15) _
    unfold soft_AddBy_k3
    refine J.eq go_seq ?_
    conv => arg 1; simp (disch := first | exact Zd | fail) only [ZZ, d72_at, simprocAttr, h1, e_h2, e_h3]
    refine J.ite (fun h4 => ?_) (fun h4 => ?_)
    ·have h4' : (x6 == x9) = true := h4
     refine J.bind fun x16 h5 => ?_
     have e_h5 := H106_0 _ _ _ _ _ _ h5
     try simp only [NN, NT, LN, simprocAttr, DT] at e_h5
     refine J.some ?_
     simp (maxSteps := 20000000) (disch := first | exact Zd | fail) only [ZZ, d72_at, simprocAttr, h1, e_h2, e_h3, h4', e_h5, FF, LN, NN, NT]
    ·have h4' : (x6 == x9) = false := Bool.eq_false_iff.2 h4
     conv => arg 1; simp (disch := first | exact Zd | fail) only [ZZ, d72_at, simprocAttr, h1, e_h2, e_h3, h4']
     refine J.ite (fun h6 => ?_) (fun h6 => ?_)
     ·have h6' : x15 = true := h6
      refine J.bind fun x17 h7 => ?_
      have e_h7 := H106_0 _ _ _ _ _ _ h7
      try simp only [NN, NT, LN, simprocAttr, DT] at e_h7
      refine J.some ?_
      simp (maxSteps := 20000000) (disch := first | exact Zd | fail) only [ZZ, d72_at, simprocAttr, h1, e_h2, e_h3, h4', h6', e_h7, FF, LN, NN, NT]
     ·have h6' : x15 = false := Bool.eq_false_iff.2 h6
      conv => arg 1; simp (disch := first | exact Zd | fail) only [ZZ, d72_at, simprocAttr, h1, e_h2, e_h3, h4', h6']
      refine J.ite (fun h8 => ?_) (fun h8 => ?_)
      ·have h8' := decide_eq_true h8
       refine J.bind fun x18 h9 => ?_
       have e_h9 := H105_0 _ _ h9
       try simp only [NN, NT, LN, simprocAttr, DT] at e_h9
       refine J.some ?_
       simp (maxSteps := 20000000) (disch := first | exact Zd | fail) only [ZZ, d72_at, simprocAttr, h1, e_h2, e_h3, h4', h6', h8', e_h9, FF, LN, NN, NT]
      ·have h8' := decide_eq_false h8
       conv => arg 1; simp (disch := first | exact Zd | fail) only [ZZ, d72_at, simprocAttr, h1, e_h2, e_h3, h4', h6', h8']
       refine J.ite (fun h10 => ?_) (fun h10 => ?_)
       ·have h10' := decide_eq_true h10
        have h10'' : decide (x13 ≤ x14) = false := decide_eq_false (by omega)
        refine J.bind fun x19 h11 => ?_
        have e_h11 := H106_0 _ _ _ _ _ _ h11
        try simp only [NN, NT, LN, simprocAttr, DT] at e_h11
        refine J.some ?_
        simp (maxSteps := 20000000) (disch := first | exact Zd | fail) only [ZZ, d72_at, simprocAttr, h1, e_h2, e_h3, h4', h6', h8', h10'', h10', e_h11, FF, LN, NN, NT]
       ·have h10' := decide_eq_false h10
        have h10'' : decide (x13 ≤ x14) = true := decide_eq_true (by omega)
        conv => arg 1; simp (disch := first | exact Zd | fail) only [ZZ, d72_at, simprocAttr, h1, e_h2, e_h3, h4', h6', h8', h10'', h10']
        refine J.eq ret_seq ?_
        refine J.bind fun x20 h12 => ?_
        have e_h12 := H106_0 _ _ _ _ _ _ h12
        try simp only [NN, NT, LN, simprocAttr, DT] at e_h12
        refine J.some ?_
        simp (maxSteps := 20000000) (disch := first | exact Zd | fail) only [ZZ, d72_at, simprocAttr, h1, e_h2, e_h3, h4', h6', h8', h10'', h10', e_h12, FF, LN, NN, NT]
   ·conv => arg 1; simp (disch := first | exact Zd | fail) only [ZZ, d72_at, simprocAttr, h1, e_h2, e_h3]
    refine J.ite (fun h13 => ?_) (fun h13 => ?_)
    ·have h13' := decide_eq_true h13
     have h13'' : decide (38 < (wk .i64 (x7 - x10))) = false := decide_eq_false (by omega)
     refine J.chk fun h14 => ?_
     conv => arg 1; simp (disch := first | exact Zd | fail) only [ZZ, d72_at, simprocAttr, h1, e_h2, e_h3, h13'', h13']
     refine J.jmp (t := (x10, shlk .u64 x8 (wk .i64 (x7 - x10)), x11, false)) hj3 ?_ ?_
     ·first | rfl | (simp only [LN, NN, NT])
     ·first | (simp (disch := first | exact Zd | fail) only [RR, simprocAttr, LN, NN, NT]; done) | (simp (disch := first | exact Zd | fail) only [RR, simprocAttr, LN, fm_app, NN, NT]; done) | rfl
    ·have h13' := decide_eq_false h13
     have h13'' : decide (38 < (wk .i64 (x7 - x10))) = true := decide_eq_true (by omega)
     refine J.chk fun h15 => ?_
     conv => arg 1; simp (disch := first | exact Zd | fail) only [ZZ, d72_at, simprocAttr, h1, e_h2, e_h3, h13'', h13']
     refine J.jmp (t := (wk .i64 (x7 - 38), shlk .u64 x8 38, shrk .u64 x11 (wk .i64 ((wk .i64 (x7 - x10)) - 38)), !(decide ((shlk .u64 (shrk .u64 x11 (wk .i64 ((wk .i64 (x7 - x10)) - 38))) (wk .i64 ((wk .i64 (x7 - x10)) - 38))) = x11)))) hj3 ?_ ?_
     ·first | rfl | (simp only [LN, NN, NT])
     ·first | (simp (disch := first | exact Zd | fail) only [RR, simprocAttr, LN, NN, NT]; done) | (simp (disch := first | exact Zd | fail) only [RR, simprocAttr, LN, fm_app, NN, NT]; done) | rfl
  ·conv => arg 1; simp (disch := first | exact Zd | fail) only [ZZ, d72_at, simprocAttr, h1, e_h2, e_h3]
   refine J.ite (fun h16 => ?_) (fun h16 => ?_)
   ·have h16' := decide_eq_true h16
    have h16'' : decide (x5.fexp ≤ x4.fexp) = false := decide_eq_false (by omega)
    conv => arg 1; simp (disch := first | exact Zd | fail) only [ZZ, d72_at, simprocAttr, h1, e_h2, e_h3, h16'', h16']
    refine J.jmp (t := (x5.fneg, x5.fexp, x5.fsig, x4.fneg, x4.fexp, x4.fsig)) hj2 ?_ ?_
    ·first | rfl | (simp only [LN, NN, NT])
    ·first | (simp (disch := first | exact Zd | fail) only [RR, simprocAttr, LN, NN, NT]; done) | (simp (disch := first | exact Zd | fail) only [RR, simprocAttr, LN, fm_app, NN, NT]; done) | rfl
   ·have h16' := decide_eq_false h16
    have h16'' : decide (x5.fexp ≤ x4.fexp) = true := decide_eq_true (by omega)
    conv => arg 1; simp (disch := first | exact Zd | fail) only [ZZ, d72_at, simprocAttr, h1, e_h2, e_h3, h16'', h16']
    refine J.jmp (t := (x4.fneg, x4.fexp, x4.fsig, x5.fneg, x5.fexp, x5.fsig)) hj2 ?_ ?_
    ·first | rfl | (simp only [LN, NN, NT])
    ·first | (simp (disch := first | exact Zd | fail) only [RR, simprocAttr, LN, NN, NT]; done) | (simp (disch := first | exact Zd | fail) only [RR, simprocAttr, LN, fm_app, NN, NT]; done) | rfl
 ·conv => arg 1; simp (disch := first | exact Zd | fail) only [ZZ, d72_at, simprocAttr, h1, e_h2, e_h3]
  refine J.eq go_seq ?_
  conv => arg 1; simp (disch := first | exact Zd | fail) only [ZZ, d72_at, simprocAttr, h1, e_h2, e_h3]
  refine J.ite (fun h17 => ?_) (fun h17 => ?_)
  ·have h17' : x4.fnan = true := h17
   conv => arg 1; simp (disch := first | exact Zd | fail) only [ZZ, d72_at, simprocAttr, h1, e_h2, e_h3, h17']
   refine J.eq ret_seq ?_
   refine J.some ?_
   simp (maxSteps := 20000000) (disch := first | exact Zd | fail) only [ZZ, d72_at, simprocAttr, h1, e_h2, e_h3, h17', FF, LN, NN, NT]
  ·have h17' : x4.fnan = false := Bool.eq_false_iff.2 h17
   conv => arg 1; simp (disch := first | exact Zd | fail) only [ZZ, d72_at, simprocAttr, h1, e_h2, e_h3, h17']
   refine J.ite (fun h18 => ?_) (fun h18 => ?_)
   ·have h18' : x5.fnan = true := h18
    conv => arg 1; simp (disch := first | exact Zd | fail) only [ZZ, d72_at, simprocAttr, h1, e_h2, e_h3, h17', h18']
    refine J.eq ret_seq ?_
    refine J.some ?_
    simp (maxSteps := 20000000) (disch := first | exact Zd | fail) only [ZZ, d72_at, simprocAttr, h1, e_h2, e_h3, h17', h18', FF, LN, NN, NT]
   ·have h18' : x5.fnan = false := Bool.eq_false_iff.2 h18
    conv => arg 1; simp (disch := first | exact Zd | fail) only [ZZ, d72_at, simprocAttr, h1, e_h2, e_h3, h17', h18']
    refine J.ite (fun h19 => ?_) (fun h19 => ?_)
    ·have h19' : x4.finf = true := h19
     conv => arg 1; simp (disch := first | exact Zd | fail) only [ZZ, d72_at, simprocAttr, h1, e_h2, e_h3, h17', h18', h19']
     refine J.ite (fun h20 => ?_) (fun h20 => ?_)
     ·have h20' : x5.finf = true := h20
      conv => arg 1; simp (disch := first | exact Zd | fail) only [ZZ, d72_at, simprocAttr, h1, e_h2, e_h3, h17', h18', h19', h20']
      refine J.eq ret_seq ?_
      conv => arg 1; simp (disch := first | exact Zd | fail) only [ZZ, d72_at, simprocAttr, h1, e_h2, e_h3, h17', h18', h19', h20']
      refine J.ite (fun h21 => ?_) (fun h21 => ?_)
      ·have h21' : (x4.fneg == x5.fneg) = true := h21
       refine J.some ?_
       simp (maxSteps := 20000000) (disch := first | exact Zd | fail) only [ZZ, d72_at, simprocAttr, h1, e_h2, e_h3, h17', h18', h19', h20', h21', FF, LN, NN, NT]
      ·have h21' : (x4.fneg == x5.fneg) = false := Bool.eq_false_iff.2 h21
       refine J.some ?_
       simp (maxSteps := 20000000) (disch := first | exact Zd | fail) only [ZZ, d72_at, simprocAttr, h1, e_h2, e_h3, h17', h18', h19', h20', h21', FF, LN, NN, NT]
     ·have h20' : x5.finf = false := Bool.eq_false_iff.2 h20
      conv => arg 1; simp (disch := first | exact Zd | fail) only [ZZ, d72_at, simprocAttr, h1, e_h2, e_h3, h17', h18', h19', h20']
      refine J.eq ret_seq ?_
      refine J.some ?_
      simp (maxSteps := 20000000) (disch := first | exact Zd | fail) only [ZZ, d72_at, simprocAttr, h1, e_h2, e_h3, h17', h18', h19', h20', FF, LN, NN, NT]
    ·have h19' : x4.finf = false := Bool.eq_false_iff.2 h19
     conv => arg 1; simp (disch := first | exact Zd | fail) only [ZZ, d72_at, simprocAttr, h1, e_h2, e_h3, h17', h18', h19']
     refine J.eq ret_seq ?_
     conv => arg 1; simp (disch := first | exact Zd | fail) only [ZZ, d72_at, simprocAttr, h1, e_h2, e_h3, h17', h18', h19']
     refine J.ite (fun h22 => ?_) (fun h22 => ?_)
     ·have h22' : x5.finf = true := h22
      refine J.some ?_
      simp (maxSteps := 20000000) (disch := first | exact Zd | fail) only [ZZ, d72_at, simprocAttr, h1, e_h2, e_h3, h17', h18', h19', h22', FF, LN, NN, NT]
     ·have h22' : x5.finf = false := Bool.eq_false_iff.2 h22
      conv => arg 1; simp (disch := first | exact Zd | fail) only [ZZ, d72_at, simprocAttr, h1, e_h2, e_h3, h17', h18', h19', h22']
      refine J.eq go_seq ?_
      conv => arg 1; simp (disch := first | exact Zd | fail) only [ZZ, d72_at, simprocAttr, h1, e_h2, e_h3, h17', h18', h19', h22']
      refine J.ite (fun h23 => ?_) (fun h23 => ?_)
      ·have h23' := decide_eq_true h23
       conv => arg 1; simp (disch := first | exact Zd | fail) only [ZZ, d72_at, simprocAttr, h1, e_h2, e_h3, h17', h18', h19', h22', h23']
       refine J.eq ret_seq ?_
       conv => arg 1; simp (disch := first | exact Zd | fail) only [ZZ, d72_at, simprocAttr, h1, e_h2, e_h3, h17', h18', h19', h22', h23']
       refine J.ite (fun h24 => ?_) (fun h24 => ?_)
       ·have h24' := decide_eq_true h24
        conv => arg 1; simp (disch := first | exact Zd | fail) only [ZZ, d72_at, simprocAttr, h1, e_h2, e_h3, h17', h18', h19', h22', h23', h24']
        refine J.eq go_seq ?_
        conv => arg 1; simp (disch := first | exact Zd | fail) only [ZZ, d72_at, simprocAttr, h1, e_h2, e_h3, h17', h18', h19', h22', h23', h24']
        refine J.ite (fun h25 => ?_) (fun h25 => ?_)
        ·have h25' := decide_eq_true h25
         refine J.some ?_
         simp (maxSteps := 20000000) (disch := first | exact Zd | fail) only [ZZ, d72_at, simprocAttr, h1, e_h2, e_h3, h17', h18', h19', h22', h23', h24', h25', FF, LN, NN, NT]
        ·have h25' := decide_eq_false h25
         conv => arg 1; simp (disch := first | exact Zd | fail) only [ZZ, d72_at, simprocAttr, h1, e_h2, e_h3, h17', h18', h19', h22', h23', h24', h25']
         refine J.eq ret_seq ?_
         refine J.bind fun x21 h26 => ?_
         have e_h26 := H105_0 _ _ h26
         try simp only [NN, NT, LN, simprocAttr, DT] at e_h26
         refine J.some ?_
         simp (maxSteps := 20000000) (disch := first | exact Zd | fail) only [ZZ, d72_at, simprocAttr, h1, e_h2, e_h3, h17', h18', h19', h22', h23', h24', h25', e_h26, FF, LN, NN, NT]
       ·have h24' := decide_eq_false h24
        conv => arg 1; simp (disch := first | exact Zd | fail) only [ZZ, d72_at, simprocAttr, h1, e_h2, e_h3, h17', h18', h19', h22', h23', h24']
        refine J.jmp (t := ()) hj1 ?_ ?_
        ·first | rfl | (simp only [LN, NN, NT])
        ·first | (simp (disch := first | exact Zd | fail) only [RR, simprocAttr, LN, NN, NT]; done) | (simp (disch := first | exact Zd | fail) only [RR, simprocAttr, LN, fm_app, NN, NT]; done) | rfl
      ·have h23' := decide_eq_false h23
       conv => arg 1; simp (disch := first | exact Zd | fail) only [ZZ, d72_at, simprocAttr, h1, e_h2, e_h3, h17', h18', h19', h22', h23']
       refine J.eq ret_seq ?_
       conv => arg 1; simp (disch := first | exact Zd | fail) only [ZZ, d72_at, simprocAttr, h1, e_h2, e_h3, h17', h18', h19', h22', h23']
       refine J.jmp (t := ()) hj1 ?_ ?_
       ·first | rfl | (simp only [LN, NN, NT])
       ·first | (simp (disch := first | exact Zd | fail) only [RR, simprocAttr, LN, NN, NT]; done) | (simp (disch := first | exact Zd | fail) only [RR, simprocAttr, LN, fm_app, NN, NT]; done) | rfl
noncomputable def t72 (fu : Nat) : CallP := orE 104 (mkC (fun (t : Int) => ([.v (.int .u32 t)] : List AV)) (fun t => soft_open fu t) e104) (orE 105 (mkC (fun (t : Int) => ([.v (.int .i64 t)] : List AV)) (fun t => soft_nought fu t) e105) (orE 106 (mkC (fun (t : Int × Bool × Int × Int × Bool) => ([.v (.int .i64 t.1), .v (.bool t.2.1), .v (.int .i64 t.2.2.1), .v (.int .u64 t.2.2.2.1), .v (.bool t.2.2.2.2)] : List AV)) (fun t => soft_Round fu t.1 t.2.1 t.2.2.1 t.2.2.2.1 t.2.2.2.2) e106) (noP)))
theorem t72_ok (fu : Nat) : CpOK Tryz.prog (t72 fu ) := orE_ok (orE_ok (orE_ok (noP_ok) (mkC_ok (fun t b h => ok106 fu t.1 t.2.1 t.2.2.1 t.2.2.2.1 t.2.2.2.2  b h))) (mkC_ok (fun t b h => ok105 fu t  b h))) (mkC_ok (fun t b h => ok104 fu t  b h))
theorem ok72 (fu : Nat) (x1 : Int) (x2 : Int) (x3 : Int) (r) (h : soft_AddBy fu x1 x2 x3 = some r) : PureOK Tryz.prog 72 [.v (.int .i64 x1), .v (.int .u32 x2), .v (.int .u32 x3)] (e72 r) :=
  pure_J mixed (cp := t72 fu ) (t72_ok fu  ) noI_ok i72 (w72 _ fu x1 x2 x3  (fun a0 r h => orE_hit (mkC_at (a := a0) (by intro a b h; first | (exact rfl) | (simp only [INJ, IJ] at h; first | exact h | (simp_all [Prod.ext_iff]) )) h)) (fun a0 r h => orE_miss (by decide) (orE_hit (mkC_at (a := a0) (by intro a b h; first | (exact rfl) | (simp only [INJ, IJ] at h; first | exact h | (simp_all [Prod.ext_iff]) )) h))) (fun a0 a1 a2 a3 a4 r h => orE_miss (by decide) (orE_miss (by decide) (orE_hit (mkC_at (a := (a0, a1, a2, a3, a4)) (by intro a b h; first | (exact rfl) | (simp only [INJ, IJ] at h; first | exact h | (simp_all [Prod.ext_iff]) )) h))))) h
/-! 41: lattice/soft.Add -/
open Aw (d41)
def d41_at := by have h := tabL Aw.d41.eq_1; simp only [AllAt, Nat.zero_add, Nat.reduceAdd] at h; exact h
theorem i41 : finfo Tryz.prog 41 d41 = some ⟨bodyOf Tryz.f41, [.tmp 4], [23]⟩ := finfo_at Tryz.func41 rfl (by kernel_rfl) (by kernel_rfl)
def e41 : Int → AV := fun r => .v (.int .u32 r)
set_option maxHeartbeats 20000000 in
theorem w41 (cp : CallP) (fu : Nat) (x1 : Int) (x2 : Int) (H72_0 : ∀ (a0 : Int) (a1 : Int) (a2 : Int) r, soft_AddBy fu a0 a1 a2 = some r → cp 72 [.v (.int .i64 a0), .v (.int .u32 a1), .v (.int .u32 a2)] = some (.v (.int .u32 r))) : J (go Tryz.prog noC cp noI 0 [] d41 fu (fin Tryz.prog [.tmp 4] [23]) (bodyOf Tryz.f41) (initE 0 [.v (.int .u32 x1), .v (.int .u32 x2)]) [] []) (soft_Add fu x1 x2) e41 := by
 unfold soft_Add e41
 refine J.bind fun x3 h1 => ?_
 have e_h1 := H72_0 _ _ _ _ h1
 try simp only [NN, NT, LN, simprocAttr, DT] at e_h1
 refine J.some ?_
 simp (maxSteps := 20000000) (disch := first | exact Zd | fail) only [bodyOf, Tryz.f41, ZZ, d41_at, simprocAttr, e_h1, FF, LN, NN, NT]
noncomputable def t41 (fu : Nat) : CallP := orE 72 (mkC (fun (t : Int × Int × Int) => ([.v (.int .i64 t.1), .v (.int .u32 t.2.1), .v (.int .u32 t.2.2)] : List AV)) (fun t => soft_AddBy fu t.1 t.2.1 t.2.2) e72) (noP)
theorem t41_ok (fu : Nat) : CpOK Tryz.prog (t41 fu ) := orE_ok (noP_ok) (mkC_ok (fun t b h => ok72 fu t.1 t.2.1 t.2.2  b h))
theorem ok41 (fu : Nat) (x1 : Int) (x2 : Int) (r) (h : soft_Add fu x1 x2 = some r) : PureOK Tryz.prog 41 [.v (.int .u32 x1), .v (.int .u32 x2)] (e41 r) :=
  pure_J mixed (cp := t41 fu ) (t41_ok fu  ) noI_ok i41 (w41 _ fu x1 x2  (fun a0 a1 a2 r h => orE_hit (mkC_at (a := (a0, a1, a2)) (by intro a b h; first | (exact rfl) | (simp only [INJ, IJ] at h; first | exact h | (simp_all [Prod.ext_iff]) )) h))) h
/-! 21: (*lattice/conv.work).sum -/
open Aw (d21)
def d21_at := by have h := tabL Aw.d21.eq_1; simp only [AllAt, Nat.zero_add, Nat.reduceAdd] at h; exact h
theorem i21 : finfo Tryz.prog 21 d21 = some ⟨bodyOf Tryz.f21, [.tmp 10], [23]⟩ := finfo_at Tryz.func21 rfl (by kernel_rfl) (by kernel_rfl)
def e21 : Int → AV := fun r => .v (.int .u32 r)
set_option maxHeartbeats 20000000 in
theorem w21 (cp : CallP) (fu : Nat) (x1 : T_conv_work) (x2 : Int) (x3 : Int) (x4 : Int) (x5 : Int) (H33_0 : ∀ (a0 : T_conv_axis) (a1 : Int) (a2 : Int) r, conv_axis_at fu a0 a1 a2 = some r → cp 33 [.agg (c_T_conv_axis a0), .v (.int .i64 a1), .v (.int .i64 a2)] = some (.tuple [.v (.int .i64 r.1), .v (.bool r.2)])) (H42_0 : ∀ (a0 : Int) (a1 : Int) r, soft_Mul fu a0 a1 = some r → cp 42 [.v (.int .u32 a0), .v (.int .u32 a1)] = some (.v (.int .u32 r))) (H41_0 : ∀ (a0 : Int) (a1 : Int) r, soft_Add fu a0 a1 = some r → cp 41 [.v (.int .u32 a0), .v (.int .u32 a1)] = some (.v (.int .u32 r))) : J (go Tryz.prog noC cp noI 0 [] d21 fu (fin Tryz.prog [.tmp 10] [23]) (bodyOf Tryz.f21) (initE 0 [.ref (c_T_conv_work x1) 0, .v (.int .i64 x2), .v (.int .i64 x3), .v (.int .i64 x4), .v (.int .i64 x5)]) [] []) (conv_work_sum fu x1 x2 x3 x4 x5) e21 := by
 unfold conv_work_sum e21
 refine J.at fun x6 h1 h2 h3 => ?_
 replace h3 : x1.fin[0]? = some x6 := h3
 have h3k := fm_cut c_T_Tensor_len h3
 have h3f := fm_fit c_T_Tensor_len h3
 have h3a0 := fm_at (j := 0) c_T_Tensor_len h3 (by decide)
 have h3a1 := fm_at (j := 1) c_T_Tensor_len h3 (by decide)
 have h3a2 := fm_at (j := 2) c_T_Tensor_len h3 (by decide)
 have h3a3 := fm_at (j := 3) c_T_Tensor_len h3 (by decide)
 have h3a4 := fm_at (j := 4) c_T_Tensor_len h3 (by decide)
 simp only [simprocAttr, Nat.zero_mul, Nat.zero_add, Nat.add_zero, List.drop_zero] at h3k h3f h3a0 h3a1 h3a2 h3a3 h3a4
 refine J.at fun x7 h4 h5 h6 => ?_
 replace h6 : x1.fin[1]? = some x7 := h6
 have h6k := fm_cut c_T_Tensor_len h6
 have h6f := fm_fit c_T_Tensor_len h6
 have h6a0 := fm_at (j := 0) c_T_Tensor_len h6 (by decide)
 have h6a1 := fm_at (j := 1) c_T_Tensor_len h6 (by decide)
 have h6a2 := fm_at (j := 2) c_T_Tensor_len h6 (by decide)
 have h6a3 := fm_at (j := 3) c_T_Tensor_len h6 (by decide)
 have h6a4 := fm_at (j := 4) c_T_Tensor_len h6 (by decide)
 simp only [simprocAttr, Nat.zero_mul, Nat.zero_add, Nat.add_zero, List.drop_zero] at h6k h6f h6a0 h6a1 h6a2 h6a3 h6a4
 refine J.at fun x8 h7 h8 h9 => ?_
 replace h9 : x7.fDims[1]? = some x8 := h9
 refine J.at fun x9 h10 h11 h12 => ?_
 replace h12 : x6.fDims[1]? = some x9 := h12
 refine J.at fun x10 h13 h14 h15 => ?_
 replace h15 : x7.fDims[0]? = some x10 := h15
 refine J.chk fun h16 => ?_
 refine J.chk fun h17 => ?_
 conv => arg 1; simp (disch := first | exact Zd | fail) only [bodyOf, Tryz.f21, ZZ, d21_at, simprocAttr, RL, h3k, h3f, h3a0, h3a1, h3a2, h3a3, h3a4, h6k, h6f, h6a0, h6a1, h6a2, h6a3, h6a4, lm_ik h9, lm_ik h12, lm_ik h15]
 refine J.eq go_seq ?_
 conv => arg 1; simp (disch := first | exact Zd | fail) only [ZZ, d21_at, simprocAttr, RL, h3k, h3f, h3a0, h3a1, h3a2, h3a3, h3a4, h6k, h6f, h6a0, h6a1, h6a2, h6a3, h6a4, lm_ik h9, lm_ik h12, lm_ik h15]
 unfold conv_work_sum_W1
 refine J.loop (fun (s : Int × Int) => ([(0, .ref [.v (.int .i64 x1.fs.fAxis), .arr x1.fs.fAxes.length (lm (ik .i64) x1.fs.fAxes), .v (.bool x1.fs.fHasAxes), .v (.bool x1.fs.fKeep), .v (.bool x1.fs.fNoop), .v (.bool x1.fs.fLast), .v (.bool x1.fs.fZero), .arr x1.fs.fPerm.length (lm (ik .i64) x1.fs.fPerm), .v (.bool x1.fs.fHasPerm), .v (.int .u32 x1.fs.fAlpha), .v (.int .u32 x1.fs.fBeta), .v (.int .u32 x1.fs.fEpsilon), .v (.bool x1.fs.fLow), .v (.bool x1.fs.fHigh), .v (.bool x1.fs.fFmod), .v (.int .i64 x1.fs.fTo), .v (.int .i64 x1.fs.fMode), .v (.bool x1.fs.fTransA), .v (.bool x1.fs.fTransB), .v (.int .i64 x1.fs.fGroup), .arr x1.fs.fKernel.length (lm (ik .i64) x1.fs.fKernel), .arr x1.fs.fStrides.length (lm (ik .i64) x1.fs.fStrides), .arr x1.fs.fPads.length (lm (ik .i64) x1.fs.fPads), .arr x1.fs.fDilations.length (lm (ik .i64) x1.fs.fDilations), .v (.int .i64 x1.fs.fAuto), .v (.bool x1.fs.fCeil), .v (.bool x1.fs.fCount), .v (.int .i64 x1.fs.fBlock), .v (.int .i64 x1.fs.fStart), .v (.int .i64 x1.fs.fEnd), .v (.bool x1.fs.fHasEnd), .v (.int .i64 x1.fs.fValue.fType), .arr x1.fs.fValue.fDims.length (lm (ik .i64) x1.fs.fValue.fDims), .arr x1.fs.fValue.fF.length (lm (ik .u32) x1.fs.fValue.fF), .arr x1.fs.fValue.fI.length (lm (ik .i64) x1.fs.fValue.fI), .arr x1.fs.fValue.fB.length (lm (bk) x1.fs.fValue.fB), .arr x1.fin.length (fm c_T_Tensor x1.fin), .arr x1.fdims.length (lm (ik .i64) x1.fdims), .v (.int .i64 x1.fh.fsize), .v (.int .i64 x1.fh.fkernel), .v (.int .i64 x1.fh.fstride), .v (.int .i64 x1.fh.fdilation), .v (.int .i64 x1.fh.fahead), .v (.int .i64 x1.fh.fwindows), .v (.int .i64 x1.fw.fsize), .v (.int .i64 x1.fw.fkernel), .v (.int .i64 x1.fw.fstride), .v (.int .i64 x1.fw.fdilation), .v (.int .i64 x1.fw.fahead), .v (.int .i64 x1.fw.fwindows)] 0), (2, .v (.int .i64 x3)), (3, .v (.int .i64 x4)), (4, .v (.int .i64 x5)), (11, .ptr (0, 11, 0) 0 0), (12, .ptr (0, 12, 0) 0 0), (13, .v (.int .i64 x8)), (14, .v (.int .i64 (wk .i64 ((wk .i64 (x2 * x9)) + (wk .i64 ((wk .i64 (Int.tdiv x3 (wk .i64 (Int.tdiv x10 x1.fs.fGroup)))) * x8)))))), (15, .v (.int .u32 s.1)), (62, .v (.int .i64 x8)), (63, .v (.int .i64 s.2))], [((0, 11, 0), .bx true ([.v (.int .i64 x6.fType), .arr x6.fDims.length (lm (ik .i64) x6.fDims), .arr x6.fF.length (lm (ik .u32) x6.fF), .arr x6.fI.length (lm (ik .i64) x6.fI), .arr x6.fB.length (lm (bk) x6.fB)])), ((0, 12, 0), .bx true ([.v (.int .i64 x7.fType), .arr x7.fDims.length (lm (ik .i64) x7.fDims), .arr x7.fF.length (lm (ik .u32) x7.fF), .arr x7.fI.length (lm (ik .i64) x7.fI), .arr x7.fB.length (lm (bk) x7.fB)]))])) (fun next s => conv_work_sum_L1 fu x1 x2 x3 x4 x5 x6 x7 x8 x9 x10 (fun x67 x68 => next (x67, x68)) s.1 s.2) (s0 := (0, 0)) ?_ ?_ ?_
 ·first | rfl | (simp only [LN, NN, NT])
 ·first | (simp (disch := first | exact Zd | fail) only [RR, simprocAttr, LN, NN, NT]; done) | (simp (disch := first | exact Zd | fail) only [RR, simprocAttr, LN, fm_app, NN, NT]; done) | rfl
 rintro next k1 hn1 ⟨x67, x68⟩
 let nx1 : Int → Int → Option Int := (fun x67 x68 => next (x67, x68))
 show J _ (conv_work_sum_L1 fu x1 x2 x3 x4 x5 x6 x7 x8 x9 x10 nx1 x67 x68) _
 unfold conv_work_sum_L1
 conv => arg 1; simp (disch := first | exact Zd | fail) only [ZZ, d21_at, simprocAttr, RL, h3k, h3f, h3a0, h3a1, h3a2, h3a3, h3a4, h6k, h6f, h6a0, h6a1, h6a2, h6a3, h6a4, lm_ik h9, lm_ik h12, lm_ik h15]
 refine J.eq go_seq ?_
 conv => arg 1; simp (disch := first | exact Zd | fail) only [ZZ, d21_at, simprocAttr, RL, h3k, h3f, h3a0, h3a1, h3a2, h3a3, h3a4, h6k, h6f, h6a0, h6a1, h6a2, h6a3, h6a4, lm_ik h9, lm_ik h12, lm_ik h15]
 refine J.ite (fun h18 => ?_) (fun h18 => ?_)
 ·have h18' := decide_eq_true h18
  have h18'' : decide (x8 ≤ x68) = false := decide_eq_false (by omega)
  conv => arg 1; simp (disch := first | exact Zd | fail) only [ZZ, d21_at, simprocAttr, RL, h3k, h3f, h3a0, h3a1, h3a2, h3a3, h3a4, h6k, h6f, h6a0, h6a1, h6a2, h6a3, h6a4, lm_ik h9, lm_ik h12, lm_ik h15, h18'', h18']
  refine J.eq ret_seq ?_
  refine J.eq go_seq ?_
  conv => arg 1; simp (disch := first | exact Zd | fail) only [ZZ, d21_at, simprocAttr, RL, h3k, h3f, h3a0, h3a1, h3a2, h3a3, h3a4, h6k, h6f, h6a0, h6a1, h6a2, h6a3, h6a4, lm_ik h9, lm_ik h12, lm_ik h15, h18'', h18']
  refine J.eq go_seq ?_
  conv => arg 1; simp (disch := first | exact Zd | fail) only [ZZ, d21_at, simprocAttr, RL, h3k, h3f, h3a0, h3a1, h3a2, h3a3, h3a4, h6k, h6f, h6a0, h6a1, h6a2, h6a3, h6a4, lm_ik h9, lm_ik h12, lm_ik h15, h18'', h18']
  refine J.eq ret_seq ?_
  conv => arg 1; simp (disch := first | exact Zd | fail) only [ZZ, d21_at, simprocAttr, RL, h3k, h3f, h3a0, h3a1, h3a2, h3a3, h3a4, h6k, h6f, h6a0, h6a1, h6a2, h6a3, h6a4, lm_ik h9, lm_ik h12, lm_ik h15, h18'', h18']
  unfold conv_work_sum_W2
  refine J.loop (fun (s : Int × Int) => ([(0, .ref [.v (.int .i64 x1.fs.fAxis), .arr x1.fs.fAxes.length (lm (ik .i64) x1.fs.fAxes), .v (.bool x1.fs.fHasAxes), .v (.bool x1.fs.fKeep), .v (.bool x1.fs.fNoop), .v (.bool x1.fs.fLast), .v (.bool x1.fs.fZero), .arr x1.fs.fPerm.length (lm (ik .i64) x1.fs.fPerm), .v (.bool x1.fs.fHasPerm), .v (.int .u32 x1.fs.fAlpha), .v (.int .u32 x1.fs.fBeta), .v (.int .u32 x1.fs.fEpsilon), .v (.bool x1.fs.fLow), .v (.bool x1.fs.fHigh), .v (.bool x1.fs.fFmod), .v (.int .i64 x1.fs.fTo), .v (.int .i64 x1.fs.fMode), .v (.bool x1.fs.fTransA), .v (.bool x1.fs.fTransB), .v (.int .i64 x1.fs.fGroup), .arr x1.fs.fKernel.length (lm (ik .i64) x1.fs.fKernel), .arr x1.fs.fStrides.length (lm (ik .i64) x1.fs.fStrides), .arr x1.fs.fPads.length (lm (ik .i64) x1.fs.fPads), .arr x1.fs.fDilations.length (lm (ik .i64) x1.fs.fDilations), .v (.int .i64 x1.fs.fAuto), .v (.bool x1.fs.fCeil), .v (.bool x1.fs.fCount), .v (.int .i64 x1.fs.fBlock), .v (.int .i64 x1.fs.fStart), .v (.int .i64 x1.fs.fEnd), .v (.bool x1.fs.fHasEnd), .v (.int .i64 x1.fs.fValue.fType), .arr x1.fs.fValue.fDims.length (lm (ik .i64) x1.fs.fValue.fDims), .arr x1.fs.fValue.fF.length (lm (ik .u32) x1.fs.fValue.fF), .arr x1.fs.fValue.fI.length (lm (ik .i64) x1.fs.fValue.fI), .arr x1.fs.fValue.fB.length (lm (bk) x1.fs.fValue.fB), .arr x1.fin.length (fm c_T_Tensor x1.fin), .arr x1.fdims.length (lm (ik .i64) x1.fdims), .v (.int .i64 x1.fh.fsize), .v (.int .i64 x1.fh.fkernel), .v (.int .i64 x1.fh.fstride), .v (.int .i64 x1.fh.fdilation), .v (.int .i64 x1.fh.fahead), .v (.int .i64 x1.fh.fwindows), .v (.int .i64 x1.fw.fsize), .v (.int .i64 x1.fw.fkernel), .v (.int .i64 x1.fw.fstride), .v (.int .i64 x1.fw.fdilation), .v (.int .i64 x1.fw.fahead), .v (.int .i64 x1.fw.fwindows)] 0), (2, .v (.int .i64 x3)), (3, .v (.int .i64 x4)), (4, .v (.int .i64 x5)), (11, .ptr (0, 11, 0) 0 0), (12, .ptr (0, 12, 0) 0 0), (13, .v (.int .i64 x8)), (14, .v (.int .i64 (wk .i64 ((wk .i64 (x2 * x9)) + (wk .i64 ((wk .i64 (Int.tdiv x3 (wk .i64 (Int.tdiv x10 x1.fs.fGroup)))) * x8)))))), (15, .v (.int .u32 s.1)), (16, .v (.int .i64 x68)), (17, .v (.int .i64 (wk .i64 ((wk .i64 ((wk .i64 ((wk .i64 (x2 * x9)) + (wk .i64 ((wk .i64 (Int.tdiv x3 (wk .i64 (Int.tdiv x10 x1.fs.fGroup)))) * x8)))) + x68)) * x1.fh.fsize)))), (62, .v (.int .i64 x8)), (63, .v (.int .i64 x68)), (79, .v (.int .i64 x1.fh.fkernel)), (80, .v (.int .i64 s.2))], [((0, 11, 0), .bx true ([.v (.int .i64 x6.fType), .arr x6.fDims.length (lm (ik .i64) x6.fDims), .arr x6.fF.length (lm (ik .u32) x6.fF), .arr x6.fI.length (lm (ik .i64) x6.fI), .arr x6.fB.length (lm (bk) x6.fB)])), ((0, 12, 0), .bx true ([.v (.int .i64 x7.fType), .arr x7.fDims.length (lm (ik .i64) x7.fDims), .arr x7.fF.length (lm (ik .u32) x7.fF), .arr x7.fI.length (lm (ik .i64) x7.fI), .arr x7.fB.length (lm (bk) x7.fB)]))])) (fun next s => conv_work_sum_L2 fu nx1 x1 x2 x3 x4 x5 x6 x7 x8 x9 x10 x68 (fun x143 x144 => next (x143, x144)) s.1 s.2) (s0 := (x67, 0)) ?_ ?_ ?_
  ·first | rfl | (simp only [LN, NN, NT])
  ·first | (simp (disch := first | exact Zd | fail) only [RR, simprocAttr, LN, NN, NT]; done) | (simp (disch := first | exact Zd | fail) only [RR, simprocAttr, LN, fm_app, NN, NT]; done) | rfl
  rintro next k2 hn2 ⟨x143, x144⟩
  let nx2 : Int → Int → Option Int := (fun x143 x144 => next (x143, x144))
  show J _ (conv_work_sum_L2 fu nx1 x1 x2 x3 x4 x5 x6 x7 x8 x9 x10 x68 nx2 x143 x144) _
  unfold conv_work_sum_L2
  conv => arg 1; simp (disch := first | exact Zd | fail) only [ZZ, d21_at, simprocAttr, RL, h3k, h3f, h3a0, h3a1, h3a2, h3a3, h3a4, h6k, h6f, h6a0, h6a1, h6a2, h6a3, h6a4, lm_ik h9, lm_ik h12, lm_ik h15, h18'', h18']
  refine J.eq go_seq ?_
  conv => arg 1; simp (disch := first | exact Zd | fail) only [ZZ, d21_at, simprocAttr, RL, h3k, h3f, h3a0, h3a1, h3a2, h3a3, h3a4, h6k, h6f, h6a0, h6a1, h6a2, h6a3, h6a4, lm_ik h9, lm_ik h12, lm_ik h15, h18'', h18']
  refine J.ite (fun h19 => ?_) (fun h19 => ?_)
  ·have h19' := decide_eq_true h19
   have h19'' : decide (x1.fh.fkernel ≤ x144) = false := decide_eq_false (by omega)
   conv => arg 1; simp (disch := first | exact Zd | fail) only [ZZ, d21_at, simprocAttr, RL, h3k, h3f, h3a0, h3a1, h3a2, h3a3, h3a4, h6k, h6f, h6a0, h6a1, h6a2, h6a3, h6a4, lm_ik h9, lm_ik h12, lm_ik h15, h18'', h18', h19'', h19']
   refine J.eq ret_seq ?_
   refine J.eq go_seq ?_
   refine J.bind fun x163 h20 => ?_
   have e_h20 := H33_0 _ _ _ _ h20
   try simp only [NN, NT, LN, simprocAttr, DT] at e_h20
   conv => arg 1; simp (disch := first | exact Zd | fail) only [ZZ, d21_at, simprocAttr, RL, h3k, h3f, h3a0, h3a1, h3a2, h3a3, h3a4, h6k, h6f, h6a0, h6a1, h6a2, h6a3, h6a4, lm_ik h9, lm_ik h12, lm_ik h15, h18'', h18', h19'', h19', e_h20]
   refine J.eq go_seq ?_
   conv => arg 1; simp (disch := first | exact Zd | fail) only [ZZ, d21_at, simprocAttr, RL, h3k, h3f, h3a0, h3a1, h3a2, h3a3, h3a4, h6k, h6f, h6a0, h6a1, h6a2, h6a3, h6a4, lm_ik h9, lm_ik h12, lm_ik h15, h18'', h18', h19'', h19', e_h20]
   refine J.ite (fun h21 => ?_) (fun h21 => ?_)
   ·have h21' : x163.2 = true := h21
    conv => arg 1; simp (disch := first | exact Zd | fail) only [ZZ, d21_at, simprocAttr, RL, h3k, h3f, h3a0, h3a1, h3a2, h3a3, h3a4, h6k, h6f, h6a0, h6a1, h6a2, h6a3, h6a4, lm_ik h9, lm_ik h12, lm_ik h15, h18'', h18', h19'', h19', e_h20, h21']
    refine J.eq ret_seq ?_
    conv => arg 1; simp (disch := first | exact Zd | fail) only [ZZ, d21_at, simprocAttr, RL, h3k, h3f, h3a0, h3a1, h3a2, h3a3, h3a4, h6k, h6f, h6a0, h6a1, h6a2, h6a3, h6a4, lm_ik h9, lm_ik h12, lm_ik h15, h18'', h18', h19'', h19', e_h20, h21']
    unfold conv_work_sum_W3
    refine J.loop (fun (s : Int × Int) => ([(0, .ref [.v (.int .i64 x1.fs.fAxis), .arr x1.fs.fAxes.length (lm (ik .i64) x1.fs.fAxes), .v (.bool x1.fs.fHasAxes), .v (.bool x1.fs.fKeep), .v (.bool x1.fs.fNoop), .v (.bool x1.fs.fLast), .v (.bool x1.fs.fZero), .arr x1.fs.fPerm.length (lm (ik .i64) x1.fs.fPerm), .v (.bool x1.fs.fHasPerm), .v (.int .u32 x1.fs.fAlpha), .v (.int .u32 x1.fs.fBeta), .v (.int .u32 x1.fs.fEpsilon), .v (.bool x1.fs.fLow), .v (.bool x1.fs.fHigh), .v (.bool x1.fs.fFmod), .v (.int .i64 x1.fs.fTo), .v (.int .i64 x1.fs.fMode), .v (.bool x1.fs.fTransA), .v (.bool x1.fs.fTransB), .v (.int .i64 x1.fs.fGroup), .arr x1.fs.fKernel.length (lm (ik .i64) x1.fs.fKernel), .arr x1.fs.fStrides.length (lm (ik .i64) x1.fs.fStrides), .arr x1.fs.fPads.length (lm (ik .i64) x1.fs.fPads), .arr x1.fs.fDilations.length (lm (ik .i64) x1.fs.fDilations), .v (.int .i64 x1.fs.fAuto), .v (.bool x1.fs.fCeil), .v (.bool x1.fs.fCount), .v (.int .i64 x1.fs.fBlock), .v (.int .i64 x1.fs.fStart), .v (.int .i64 x1.fs.fEnd), .v (.bool x1.fs.fHasEnd), .v (.int .i64 x1.fs.fValue.fType), .arr x1.fs.fValue.fDims.length (lm (ik .i64) x1.fs.fValue.fDims), .arr x1.fs.fValue.fF.length (lm (ik .u32) x1.fs.fValue.fF), .arr x1.fs.fValue.fI.length (lm (ik .i64) x1.fs.fValue.fI), .arr x1.fs.fValue.fB.length (lm (bk) x1.fs.fValue.fB), .arr x1.fin.length (fm c_T_Tensor x1.fin), .arr x1.fdims.length (lm (ik .i64) x1.fdims), .v (.int .i64 x1.fh.fsize), .v (.int .i64 x1.fh.fkernel), .v (.int .i64 x1.fh.fstride), .v (.int .i64 x1.fh.fdilation), .v (.int .i64 x1.fh.fahead), .v (.int .i64 x1.fh.fwindows), .v (.int .i64 x1.fw.fsize), .v (.int .i64 x1.fw.fkernel), .v (.int .i64 x1.fw.fstride), .v (.int .i64 x1.fw.fdilation), .v (.int .i64 x1.fw.fahead), .v (.int .i64 x1.fw.fwindows)] 0), (2, .v (.int .i64 x3)), (3, .v (.int .i64 x4)), (4, .v (.int .i64 x5)), (11, .ptr (0, 11, 0) 0 0), (12, .ptr (0, 12, 0) 0 0), (13, .v (.int .i64 x8)), (14, .v (.int .i64 (wk .i64 ((wk .i64 (x2 * x9)) + (wk .i64 ((wk .i64 (Int.tdiv x3 (wk .i64 (Int.tdiv x10 x1.fs.fGroup)))) * x8)))))), (15, .v (.int .u32 s.1)), (16, .v (.int .i64 x68)), (17, .v (.int .i64 (wk .i64 ((wk .i64 ((wk .i64 ((wk .i64 (x2 * x9)) + (wk .i64 ((wk .i64 (Int.tdiv x3 (wk .i64 (Int.tdiv x10 x1.fs.fGroup)))) * x8)))) + x68)) * x1.fh.fsize)))), (18, .v (.int .i64 x144)), (19, .v (.int .i64 x163.1)), (62, .v (.int .i64 x8)), (63, .v (.int .i64 x68)), (79, .v (.int .i64 x1.fh.fkernel)), (80, .v (.int .i64 x144)), (99, .v (.int .i64 x1.fw.fkernel)), (100, .v (.int .i64 s.2))], [((0, 11, 0), .bx true ([.v (.int .i64 x6.fType), .arr x6.fDims.length (lm (ik .i64) x6.fDims), .arr x6.fF.length (lm (ik .u32) x6.fF), .arr x6.fI.length (lm (ik .i64) x6.fI), .arr x6.fB.length (lm (bk) x6.fB)])), ((0, 12, 0), .bx true ([.v (.int .i64 x7.fType), .arr x7.fDims.length (lm (ik .i64) x7.fDims), .arr x7.fF.length (lm (ik .u32) x7.fF), .arr x7.fI.length (lm (ik .i64) x7.fI), .arr x7.fB.length (lm (bk) x7.fB)]))])) (fun next s => conv_work_sum_L3 fu nx2 x1 x2 x3 x5 x6 x7 x8 x9 x10 x68 x144 x163 (fun x169 x170 => next (x169, x170)) s.1 s.2) (s0 := (x143, 0)) ?_ ?_ ?_
    ·first | rfl | (simp only [LN, NN, NT])
    ·first | (simp (disch := first | exact Zd | fail) only [RR, simprocAttr, LN, NN, NT]; done) | (simp (disch := first | exact Zd | fail) only [RR, simprocAttr, LN, fm_app, NN, NT]; done) | rfl
    rintro next k3 hn3 ⟨x169, x170⟩
    let nx3 : Int → Int → Option Int := (fun x169 x170 => next (x169, x170))
    show J _ (conv_work_sum_L3 fu nx2 x1 x2 x3 x5 x6 x7 x8 x9 x10 x68 x144 x163 nx3 x169 x170) _
    unfold conv_work_sum_L3
    conv => arg 1; simp (disch := first | exact Zd | fail) only [ZZ, d21_at, simprocAttr, RL, h3k, h3f, h3a0, h3a1, h3a2, h3a3, h3a4, h6k, h6f, h6a0, h6a1, h6a2, h6a3, h6a4, lm_ik h9, lm_ik h12, lm_ik h15, h18'', h18', h19'', h19', e_h20, h21']
    refine J.eq go_seq ?_
    conv => arg 1; simp (disch := first | exact Zd | fail) only [ZZ, d21_at, simprocAttr, RL, h3k, h3f, h3a0, h3a1, h3a2, h3a3, h3a4, h6k, h6f, h6a0, h6a1, h6a2, h6a3, h6a4, lm_ik h9, lm_ik h12, lm_ik h15, h18'', h18', h19'', h19', e_h20, h21']
    refine J.ite (fun h22 => ?_) (fun h22 => ?_)
    ·have h22' := decide_eq_true h22
     have h22'' : decide (x1.fw.fkernel ≤ x170) = false := decide_eq_false (by omega)
     conv => arg 1; simp (disch := first | exact Zd | fail) only [ZZ, d21_at, simprocAttr, RL, h3k, h3f, h3a0, h3a1, h3a2, h3a3, h3a4, h6k, h6f, h6a0, h6a1, h6a2, h6a3, h6a4, lm_ik h9, lm_ik h12, lm_ik h15, h18'', h18', h19'', h19', e_h20, h21', h22'', h22']
     refine J.eq ret_seq ?_
     refine J.eq go_seq ?_
     refine J.bind fun x176 h23 => ?_
     have e_h23 := H33_0 _ _ _ _ h23
     try simp only [NN, NT, LN, simprocAttr, DT] at e_h23
     conv => arg 1; simp (disch := first | exact Zd | fail) only [ZZ, d21_at, simprocAttr, RL, h3k, h3f, h3a0, h3a1, h3a2, h3a3, h3a4, h6k, h6f, h6a0, h6a1, h6a2, h6a3, h6a4, lm_ik h9, lm_ik h12, lm_ik h15, h18'', h18', h19'', h19', e_h20, h21', h22'', h22', e_h23]
     refine J.eq go_seq ?_
     conv => arg 1; simp (disch := first | exact Zd | fail) only [ZZ, d21_at, simprocAttr, RL, h3k, h3f, h3a0, h3a1, h3a2, h3a3, h3a4, h6k, h6f, h6a0, h6a1, h6a2, h6a3, h6a4, lm_ik h9, lm_ik h12, lm_ik h15, h18'', h18', h19'', h19', e_h20, h21', h22'', h22', e_h23]
     refine J.ite (fun h24 => ?_) (fun h24 => ?_)
     ·have h24' : x176.2 = true := h24
      conv => arg 1; simp (disch := first | exact Zd | fail) only [ZZ, d21_at, simprocAttr, RL, h3k, h3f, h3a0, h3a1, h3a2, h3a3, h3a4, h6k, h6f, h6a0, h6a1, h6a2, h6a3, h6a4, lm_ik h9, lm_ik h12, lm_ik h15, h18'', h18', h19'', h19', e_h20, h21', h22'', h22', e_h23, h24']
      refine J.eq ret_seq ?_
      refine J.at fun x177 h25 h26 h27 => ?_
      refine J.at fun x178 h28 h29 h30 => ?_
      refine J.bind fun x179 h31 => ?_
      have e_h31 := H42_0 _ _ _ h31
      try simp only [NN, NT, LN, simprocAttr, DT] at e_h31
      refine J.bind fun x180 h32 => ?_
      have e_h32 := H41_0 _ _ _ h32
      try simp only [NN, NT, LN, simprocAttr, DT] at e_h32
      conv => arg 1; simp (disch := first | exact Zd | fail) only [ZZ, d21_at, simprocAttr, RL, h3k, h3f, h3a0, h3a1, h3a2, h3a3, h3a4, h6k, h6f, h6a0, h6a1, h6a2, h6a3, h6a4, lm_ik h9, lm_ik h12, lm_ik h15, h18'', h18', h19'', h19', e_h20, h21', h22'', h22', e_h23, h24', lm_ik h27, lm_ik h30, e_h31, e_h32]
      refine J.eq ret_seq ?_
      conv => arg 1; simp (disch := first | exact Zd | fail) only [ZZ, d21_at, simprocAttr, RL, h3k, h3f, h3a0, h3a1, h3a2, h3a3, h3a4, h6k, h6f, h6a0, h6a1, h6a2, h6a3, h6a4, lm_ik h9, lm_ik h12, lm_ik h15, h18'', h18', h19'', h19', e_h20, h21', h22'', h22', e_h23, h24', lm_ik h27, lm_ik h30, e_h31, e_h32]
      refine J.next (s := (x180, wk .i64 (x170 + 1))) hn3 ?_ ?_
      ·first | rfl | (simp only [LN, NN, NT])
      ·first | (simp (disch := first | exact Zd | fail) only [RR, simprocAttr, LN, NN, NT]; done) | (simp (disch := first | exact Zd | fail) only [RR, simprocAttr, LN, fm_app, NN, NT]; done) | rfl
     ·have h24' : x176.2 = false := Bool.eq_false_iff.2 h24
      conv => arg 1; simp (disch := first | exact Zd | fail) only [ZZ, d21_at, simprocAttr, RL, h3k, h3f, h3a0, h3a1, h3a2, h3a3, h3a4, h6k, h6f, h6a0, h6a1, h6a2, h6a3, h6a4, lm_ik h9, lm_ik h12, lm_ik h15, h18'', h18', h19'', h19', e_h20, h21', h22'', h22', e_h23, h24']
      refine J.eq ret_seq ?_
      conv => arg 1; simp (disch := first | exact Zd | fail) only [ZZ, d21_at, simprocAttr, RL, h3k, h3f, h3a0, h3a1, h3a2, h3a3, h3a4, h6k, h6f, h6a0, h6a1, h6a2, h6a3, h6a4, lm_ik h9, lm_ik h12, lm_ik h15, h18'', h18', h19'', h19', e_h20, h21', h22'', h22', e_h23, h24']
      refine J.next (s := (x169, wk .i64 (x170 + 1))) hn3 ?_ ?_
      ·first | rfl | (simp only [LN, NN, NT])
      ·first | (simp (disch := first | exact Zd | fail) only [RR, simprocAttr, LN, NN, NT]; done) | (simp (disch := first | exact Zd | fail) only [RR, simprocAttr, LN, fm_app, NN, NT]; done) | rfl
    ·have h22' := decide_eq_false h22
     have h22'' : decide (x1.fw.fkernel ≤ x170) = true := decide_eq_true (by omega)
     conv => arg 1; simp (disch := first | exact Zd | fail) only [ZZ, d21_at, simprocAttr, RL, h3k, h3f, h3a0, h3a1, h3a2, h3a3, h3a4, h6k, h6f, h6a0, h6a1, h6a2, h6a3, h6a4, lm_ik h9, lm_ik h12, lm_ik h15, h18'', h18', h19'', h19', e_h20, h21', h22'', h22']
     refine J.eq ret_seq ?_
     conv => arg 1; simp (disch := first | exact Zd | fail) only [ZZ, d21_at, simprocAttr, RL, h3k, h3f, h3a0, h3a1, h3a2, h3a3, h3a4, h6k, h6f, h6a0, h6a1, h6a2, h6a3, h6a4, lm_ik h9, lm_ik h12, lm_ik h15, h18'', h18', h19'', h19', e_h20, h21', h22'', h22']
     refine J.next (s := (x169, wk .i64 (x144 + 1))) hn2 ?_ ?_
     ·first | rfl | (simp only [LN, NN, NT])
     ·first | (simp (disch := first | exact Zd | fail) only [RR, simprocAttr, LN, NN, NT]; done) | (simp (disch := first | exact Zd | fail) only [RR, simprocAttr, LN, fm_app, NN, NT]; done) | rfl
   ·have h21' : x163.2 = false := Bool.eq_false_iff.2 h21
    conv => arg 1; simp (disch := first | exact Zd | fail) only [ZZ, d21_at, simprocAttr, RL, h3k, h3f, h3a0, h3a1, h3a2, h3a3, h3a4, h6k, h6f, h6a0, h6a1, h6a2, h6a3, h6a4, lm_ik h9, lm_ik h12, lm_ik h15, h18'', h18', h19'', h19', e_h20, h21']
    refine J.eq ret_seq ?_
    conv => arg 1; simp (disch := first | exact Zd | fail) only [ZZ, d21_at, simprocAttr, RL, h3k, h3f, h3a0, h3a1, h3a2, h3a3, h3a4, h6k, h6f, h6a0, h6a1, h6a2, h6a3, h6a4, lm_ik h9, lm_ik h12, lm_ik h15, h18'', h18', h19'', h19', e_h20, h21']
    refine J.next (s := (x143, wk .i64 (x144 + 1))) hn2 ?_ ?_
    ·first | rfl | (simp only [LN, NN, NT])
    ·first | (simp (disch := first | exact Zd | fail) only [RR, simprocAttr, LN, NN, NT]; done) | (simp (disch := first | exact Zd | fail) only [RR, simprocAttr, LN, fm_app, NN, NT]; done) | rfl
  ·have h19' := decide_eq_false h19
   have h19'' : decide (x1.fh.fkernel ≤ x144) = true := decide_eq_true (by omega)
   conv => arg 1; simp (disch := first | exact Zd | fail) only [ZZ, d21_at, simprocAttr, RL, h3k, h3f, h3a0, h3a1, h3a2, h3a3, h3a4, h6k, h6f, h6a0, h6a1, h6a2, h6a3, h6a4, lm_ik h9, lm_ik h12, lm_ik h15, h18'', h18', h19'', h19']
   refine J.eq ret_seq ?_
   conv => arg 1; simp (disch := first | exact Zd | fail) only [ZZ, d21_at, simprocAttr, RL, h3k, h3f, h3a0, h3a1, h3a2, h3a3, h3a4, h6k, h6f, h6a0, h6a1, h6a2, h6a3, h6a4, lm_ik h9, lm_ik h12, lm_ik h15, h18'', h18', h19'', h19']
   refine J.next (s := (x143, wk .i64 (x68 + 1))) hn1 ?_ ?_
   ·first | rfl | (simp only [LN, NN, NT])
   ·first | (simp (disch := first | exact Zd | fail) only [RR, simprocAttr, LN, NN, NT]; done) | (simp (disch := first | exact Zd | fail) only [RR, simprocAttr, LN, fm_app, NN, NT]; done) | rfl
 ·have h18' := decide_eq_false h18
  have h18'' : decide (x8 ≤ x68) = true := decide_eq_true (by omega)
  conv => arg 1; simp (disch := first | exact Zd | fail) only [ZZ, d21_at, simprocAttr, RL, h3k, h3f, h3a0, h3a1, h3a2, h3a3, h3a4, h6k, h6f, h6a0, h6a1, h6a2, h6a3, h6a4, lm_ik h9, lm_ik h12, lm_ik h15, h18'', h18']
  refine J.eq ret_seq ?_
  refine J.some ?_
  simp (maxSteps := 20000000) (disch := first | exact Zd | fail) only [ZZ, d21_at, simprocAttr, RL, h3k, h3f, h3a0, h3a1, h3a2, h3a3, h3a4, h6k, h6f, h6a0, h6a1, h6a2, h6a3, h6a4, lm_ik h9, lm_ik h12, lm_ik h15, h18'', h18', FF, LN, NN, NT]
noncomputable def t21 (fu : Nat) : CallP := orE 33 (mkC (fun (t : T_conv_axis × Int × Int) => ([.agg (c_T_conv_axis t.1), .v (.int .i64 t.2.1), .v (.int .i64 t.2.2)] : List AV)) (fun t => conv_axis_at fu t.1 t.2.1 t.2.2) e33) (orE 42 (mkC (fun (t : Int × Int) => ([.v (.int .u32 t.1), .v (.int .u32 t.2)] : List AV)) (fun t => soft_Mul fu t.1 t.2) e42) (orE 41 (mkC (fun (t : Int × Int) => ([.v (.int .u32 t.1), .v (.int .u32 t.2)] : List AV)) (fun t => soft_Add fu t.1 t.2) e41) (noP)))
theorem t21_ok (fu : Nat) : CpOK Tryz.prog (t21 fu ) := orE_ok (orE_ok (orE_ok (noP_ok) (mkC_ok (fun t b h => ok41 fu t.1 t.2  b h))) (mkC_ok (fun t b h => ok42 fu t.1 t.2  b h))) (mkC_ok (fun t b h => ok33 fu t.1 t.2.1 t.2.2  b h))
theorem ok21 (fu : Nat) (x1 : T_conv_work) (x2 : Int) (x3 : Int) (x4 : Int) (x5 : Int) (r) (h : conv_work_sum fu x1 x2 x3 x4 x5 = some r) : PureOK Tryz.prog 21 [.ref (c_T_conv_work x1) 0, .v (.int .i64 x2), .v (.int .i64 x3), .v (.int .i64 x4), .v (.int .i64 x5)] (e21 r) :=
  pure_J mixed (cp := t21 fu ) (t21_ok fu  ) noI_ok i21 (w21 _ fu x1 x2 x3 x4 x5  (fun a0 a1 a2 r h => orE_hit (mkC_at (a := (a0, a1, a2)) (by intro a b h; first | (exact rfl) | (simp only [INJ, IJ] at h; first | exact h | (simp_all [Prod.ext_iff]) )) h)) (fun a0 a1 r h => orE_miss (by decide) (orE_hit (mkC_at (a := (a0, a1)) (by intro a b h; first | (exact rfl) | (simp only [INJ, IJ] at h; first | exact h | (simp_all [Prod.ext_iff]) )) h))) (fun a0 a1 r h => orE_miss (by decide) (orE_miss (by decide) (orE_hit (mkC_at (a := (a0, a1)) (by intro a b h; first | (exact rfl) | (simp only [INJ, IJ] at h; first | exact h | (simp_all [Prod.ext_iff]) )) h))))) h
/-! 19: lattice/conv.begin -/
open Aw (d19)
def d19_at := by have h := tabL Aw.d19.eq_1; simp only [AllAt, Nat.zero_add, Nat.reduceAdd] at h; exact h
noncomputable def b19 : Code := bodyOf Tryz.f19
theorem go_b19 {C : Cfg} {cp : CallP} {ci : CallI} {lvl : Nat} {prot : List Id} {D : List (Nat × List Nat)} {n : Nat} {K : KK} {e : Env} {h : Heap} {fs : List Fr} : go Tryz.prog C cp ci lvl prot D n K b19 e h fs = go Tryz.prog C cp ci lvl prot D n K (bodyOf Tryz.f19) e h fs := rfl
theorem i19 : finfo Tryz.prog 19 d19 = some ⟨b19, [.tmp 6, .tmp 7], [49, 32]⟩ := finfo_at Tryz.func19 rfl (by kernel_rfl) (by kernel_rfl)
/-! 20: (*lattice/conv.work).each -/
open Aw (d20)
def d20_at := by have h := tabL Aw.d20.eq_1; simp only [AllAt, Nat.zero_add, Nat.reduceAdd] at h; exact h
noncomputable def b20 : Code := bodyOf Tryz.f20
theorem go_b20 {C : Cfg} {cp : CallP} {ci : CallI} {lvl : Nat} {prot : List Id} {D : List (Nat × List Nat)} {n : Nat} {K : KK} {e : Env} {h : Heap} {fs : List Fr} : go Tryz.prog C cp ci lvl prot D n K b20 e h fs = go Tryz.prog C cp ci lvl prot D n K (bodyOf Tryz.f20) e h fs := rfl
theorem i20 : finfo Tryz.prog 20 d20 = some ⟨b20, [.cell 4 28], [28]⟩ := finfo_at Tryz.func20 rfl (by kernel_rfl) (by kernel_rfl)
end Go.Av
