/- The walks of the plain functions, part 3. Made by a program of mine. Conditions: none. -/
import Derived.Test.YtnpnomlnajgbcaaGreatQ5W2
set_option linter.unusedVariables false
set_option linter.unusedSimpArgs false
set_option linter.defProp false
set_option maxRecDepth 20000
open Go Go.Proofs
namespace Go.Av
open Aw (d17 d18 d19 d20 d21 d22 d25 d31 d32 d33 d35 d36 d37 d38 d41 d42 d44 d49 d57 d58 d59 d60 d61 d62 d63 d64 d65 d68 d69 d70 d71 d72 d76 d83 d84 d85 d86 d87 d98 d99 d100 d101 d102 d112 d113 d116 d117 d118 d123 d124 d125 d126 d127 d128 d129 d130 d132 d147 d154 d155)
/-! 5: lattice/latticelaw12.MovesDepth -/
def d5 : List (Nat × List Nat) := [(0, [0, 4]), (0, []), (0, [10]), (0, []), (0, [11, 12, 13, 14, 15, 16, 17, 18]), (0, []), (0, [7, 19]), (0, []), (0, [21, 22, 23, 24, 25, 26]), (0, []), (0, [1, 6, 27, 28, 29, 30, 31, 32, 33]), (0, []), (19, [2, 5, 8, 9, 34, 35, 36, 37, 38, 39, 40, 41, 42, 43, 44, 45, 46, 47, 48, 49, 50, 51])]
def d5_at := by have h := tabL d5.eq_1; simp only [AllAt, Nat.zero_add, Nat.reduceAdd] at h; exact h
theorem i5 : finfo Tryz.prog 5 d5 = some ⟨bodyOf Tryz.f5, [.tmp 4], [4]⟩ := finfo_at Tryz.func5 rfl (by kernel_rfl) (by kernel_rfl)
def e5 : Bool → AV := fun r => .v (.bool r)
set_option maxHeartbeats 20000000 in
theorem w5 (cp : CallP) (fu : Nat) (x1 : T_Tensor) (x2 : Int) (H9 : cp 9 [] = some (.v (.bool true))) (H10_0 : ∀ (a0 : Int) (a1 : T_Setting) (a2 : List T_Tensor) (a3 : Int) r, moves_Do fu a0 a1 a2 a3 = some r → cp 10 [.v (.int .i64 a0), .agg (c_T_Setting a1), .arr a2.length (fm c_T_Tensor a2), .v (.int .i64 a3)] = some (.tuple [.arr r.1.length (fm c_T_Tensor r.1), .v (.int .i64 r.2)])) (H12_0 : ∀ (a0 : T_Tensor) r, ref05_Canon fu a0 = some r → cp 12 [.agg (c_T_Tensor a0)] = some (.agg [.v (.int .i64 r.fType), .fresh 1 r.fDims.length (lm (ik .i64) r.fDims), .fresh 1 r.fF.length (lm (ik .u32) r.fF), .fresh 1 r.fI.length (lm (ik .i64) r.fI), .fresh 1 r.fB.length (lm (bk) r.fB)])) (H11_0 : ∀ (a0 : T_Tensor) (a1 : T_Tensor) r, ref05_Same fu a0 a1 = some r → cp 11 [.agg (c_T_Tensor a0), .agg (c_T_Tensor a1)] = some (.v (.bool r))) : J (go Tryz.prog noCs cp noI 0 [] d5 fu (fin Tryz.prog [.tmp 4] [4]) (bodyOf Tryz.f5) (initE 0 [.agg (c_T_Tensor x1), .v (.int .i64 x2)]) [] []) (law12_MovesDepth fu x1 x2) e5 := by
 unfold law12_MovesDepth e5
 have da := d5_at
 refine J.bind fun x3 h1 => ?_
 have e_h1 := H10_0 _ _ _ _ _ h1
 try simp only [NN, NT, LN, simprocAttr, DT] at e_h1
 conv => arg 1; simp (disch := first | exact Zd | fail) only [bodyOf, Tryz.f5, ZZ, d5_at, simprocAttr, aop_callC, aq_callC, H9, e_h1]
 refine J.eq go_seq ?_
 conv => arg 1; simp (disch := first | exact Zd | fail) only [ZZ, d5_at, simprocAttr, aop_callC, aq_callC, H9, e_h1]
 refine J.ite (fun h2 => ?_) (fun h2 => ?_)
 ·have h2' := decide_eq_true h2
  conv => arg 1; simp (disch := first | exact Zd | fail) only [ZZ, d5_at, simprocAttr, aop_callC, aq_callC, H9, e_h1, h2']
  refine J.eq ret_seq ?_
  refine J.bind fun x4 h3 => ?_
  have e_h3 := H10_0 _ _ _ _ _ h3
  try simp only [NN, NT, LN, simprocAttr, DT] at e_h3
  conv => arg 1; simp (disch := first | exact Zd | fail) only [ZZ, d5_at, simprocAttr, aop_callC, aq_callC, H9, e_h1, h2', e_h3]
  refine J.eq go_seq ?_
  conv => arg 1; simp (disch := first | exact Zd | fail) only [ZZ, d5_at, simprocAttr, aop_callC, aq_callC, H9, e_h1, h2', e_h3]
  refine J.ite (fun h4 => ?_) (fun h4 => ?_)
  ·have h4' := decide_eq_true h4
   conv => arg 1; simp (disch := first | exact Zd | fail) only [ZZ, d5_at, simprocAttr, aop_callC, aq_callC, H9, e_h1, h2', e_h3, h4']
   refine J.ite (fun h5 => ?_) (fun h5 => ?_)
   ·have h5' := decide_eq_true h5
    refine J.at fun x5 h6 h7 h8 => ?_
    replace h8 : x4.1[0]? = some x5 := h8
    have h8k := fm_cut c_T_Tensor_len h8
    have h8f := fm_fit c_T_Tensor_len h8
    have h8a0 := fm_at (j := 0) c_T_Tensor_len h8 (by decide)
    have h8a1 := fm_at (j := 1) c_T_Tensor_len h8 (by decide)
    have h8a2 := fm_at (j := 2) c_T_Tensor_len h8 (by decide)
    have h8a3 := fm_at (j := 3) c_T_Tensor_len h8 (by decide)
    have h8a4 := fm_at (j := 4) c_T_Tensor_len h8 (by decide)
    simp only [simprocAttr, Nat.zero_mul, Nat.zero_add, Nat.add_zero, List.drop_zero] at h8k h8f h8a0 h8a1 h8a2 h8a3 h8a4
    refine J.bind fun x6 h9 => ?_
    have e_h9 := H12_0 _ _ h9
    try simp only [NN, NT, LN, simprocAttr, DT] at e_h9
    refine J.bind fun x7 h10 => ?_
    have e_h10 := H11_0 _ _ _ h10
    try simp only [NN, NT, LN, simprocAttr, DT] at e_h10
    conv => arg 1; simp (disch := first | exact Zd | fail) only [ZZ, d5_at, simprocAttr, aop_callC, aq_callC, H9, e_h1, h2', e_h3, h4', h5', h8k, h8f, h8a0, h8a1, h8a2, h8a3, h8a4, e_h9, e_h10]
    refine J.eq ret_seq ?_
    refine J.some ?_
    simp (maxSteps := 20000000) (disch := first | exact Zd | fail) only [ZZ, d5_at, simprocAttr, aop_callC, aq_callC, H9, e_h1, h2', e_h3, h4', h5', h8k, h8f, h8a0, h8a1, h8a2, h8a3, h8a4, e_h9, e_h10, FN]
   ·have h5' := decide_eq_false h5
    conv => arg 1; simp (disch := first | exact Zd | fail) only [ZZ, d5_at, simprocAttr, aop_callC, aq_callC, H9, e_h1, h2', e_h3, h4', h5']
    refine J.eq ret_seq ?_
    refine J.some ?_
    simp (maxSteps := 20000000) (disch := first | exact Zd | fail) only [ZZ, d5_at, simprocAttr, aop_callC, aq_callC, H9, e_h1, h2', e_h3, h4', h5', FN]
  ·have h4' := decide_eq_false h4
   conv => arg 1; simp (disch := first | exact Zd | fail) only [ZZ, d5_at, simprocAttr, aop_callC, aq_callC, H9, e_h1, h2', e_h3, h4']
   refine J.eq ret_seq ?_
   refine J.some ?_
   simp (maxSteps := 20000000) (disch := first | exact Zd | fail) only [ZZ, d5_at, simprocAttr, aop_callC, aq_callC, H9, e_h1, h2', e_h3, h4', FN]
 ·have h2' := decide_eq_false h2
  conv => arg 1; simp (disch := first | exact Zd | fail) only [ZZ, d5_at, simprocAttr, aop_callC, aq_callC, H9, e_h1, h2']
  refine J.joinS (fun (t : Unit) => ([(1, .v (.int .i64 x2)), (2, .ptr (0, 2, 0) 0 0), (4, .v (.bool (decide ((x3.1.length : Int) = 0)))), (5, .v (.bool true)), (6, .arr x3.1.length (fm c_T_Tensor x3.1))], [((0, 2, 0), .bx true ([.v (.int .i64 x1.fType), .arr x1.fDims.length (lm (ik .i64) x1.fDims), .arr x1.fF.length (lm (ik .u32) x1.fF), .arr x1.fI.length (lm (ik .i64) x1.fI), .arr x1.fB.length (lm (bk) x1.fB)])), ((0, 15, 0), .sl true false 5 1 ([.v (.int .i64 x1.fType), .arr x1.fDims.length (lm (ik .i64) x1.fDims), .arr x1.fF.length (lm (ik .u32) x1.fF), .arr x1.fI.length (lm (ik .i64) x1.fI), .arr x1.fB.length (lm (bk) x1.fB)]))])) (fun t => law12_MovesDepth.k1 fu x3) ?_ (fun hj1 => ?_)
  ·rintro ⟨⟩
   show J _ (law12_MovesDepth.k1 fu x3) _
   unfold law12_MovesDepth.k1
   refine J.some ?_
   simp (maxSteps := 20000000) (disch := first | exact Zd | fail) only [ZZ, d5_at, simprocAttr, aop_callC, aq_callC, H9, e_h1, h2', FN]
  ·refine J.hd jn_at ?_
   conv => arg 1; simp (disch := first | exact Zd | fail) only [ZZ, d5_at, simprocAttr, aop_callC, aq_callC, H9, e_h1, h2']
   refine J.jmp (t := ()) hj1 ?_ ?_
   ·exact Ze
   ·exact Zh
noncomputable def t5 (fu : Nat) : CallP := orE 9 (mkC (fun (_ : Unit) => ([] : List AV)) (fun _ => some true) (fun b => .v (.bool b))) (orE 10 (mkC (fun (t : Int × T_Setting × (List T_Tensor) × Int) => ([.v (.int .i64 t.1), .agg (c_T_Setting t.2.1), .arr t.2.2.1.length (fm c_T_Tensor t.2.2.1), .v (.int .i64 t.2.2.2)] : List AV)) (fun t => moves_Do fu t.1 t.2.1 t.2.2.1 t.2.2.2) e10) (orE 12 (mkC (fun (t : T_Tensor) => ([.agg (c_T_Tensor t)] : List AV)) (fun t => ref05_Canon fu t) e12) (orE 11 (mkC (fun (t : T_Tensor × T_Tensor) => ([.agg (c_T_Tensor t.1), .agg (c_T_Tensor t.2)] : List AV)) (fun t => ref05_Same fu t.1 t.2) e11) (noP))))
theorem t5_ok (fu : Nat) : CpOK Tryz.prog (t5 fu ) := orE_ok (orE_ok (orE_ok (orE_ok (noP_ok) (mkC_ok (fun t b h => ok11 fu t.1 t.2  b h))) (mkC_ok (fun t b h => ok12 fu t  b h))) (mkC_ok (fun t b h => ok10 fu t.1 t.2.1 t.2.2.1 t.2.2.2  b h))) (mkC_ok (fun _ b h => by injection h with h; subst h; exact awake9))
theorem ok5 (fu : Nat) (x1 : T_Tensor) (x2 : Int) (r) (h : law12_MovesDepth fu x1 x2 = some r) : PureOK Tryz.prog 5 [.agg (c_T_Tensor x1), .v (.int .i64 x2)] (e5 r) :=
  pure_J mixed (cp := t5 fu ) (t5_ok fu  ) noI_ok i5 (w5 _ fu x1 x2  (orE_hit (mkC_at (a := ()) (fun _ _ _ => rfl) rfl)) (fun a0 a1 a2 a3 r h => orE_miss (by decide) (orE_hit (mkC_at (a := (a0, a1, a2, a3)) (by intro a b h; first | (exact rfl) | (simp only [INJ, IJ] at h; first | exact h | (simp_all [Prod.ext_iff]) )) h))) (fun a0 r h => orE_miss (by decide) (orE_miss (by decide) (orE_hit (mkC_at (a := a0) (by intro a b h; first | (exact rfl) | (simp only [INJ, IJ] at h; first | exact h | (simp_all [Prod.ext_iff]) )) h)))) (fun a0 a1 r h => orE_miss (by decide) (orE_miss (by decide) (orE_miss (by decide) (orE_hit (mkC_at (a := (a0, a1)) (by intro a b h; first | (exact rfl) | (simp only [INJ, IJ] at h; first | exact h | (simp_all [Prod.ext_iff]) )) h)))))) h
end Go.Av
