/- The walks of the plain functions, part 3. Made by a program of mine. Conditions: none. -/
import Derived.Test.YtoobokgbmjbofaaGreatQ6W2
set_option linter.unusedVariables false
set_option linter.unusedSimpArgs false
set_option linter.defProp false
set_option maxRecDepth 20000
open Go Go.Proofs
namespace Go.Av
open Aw (d18 d19 d20 d23 d24 d25 d26 d27 d33 d34 d37 d38 d39 d40 d41 d42 d43 d45 d46 d47 d48 d49 d50 d63 d65 d66 d78 d79 d80 d81 d82 d83 d85 d86 d87 d88 d89 d95 d100 d101 d102 d103 d104 d105 d106 d107 d108 d127 d133 d135 d136 d137 d143 d144 d166 d207)
/-! 9: lattice/mat.Dot -/
open Aw (d9)
def d9_at := by have h := tabL Aw.d9.eq_1; simp only [AllAt, Nat.zero_add, Nat.reduceAdd] at h; exact h
theorem i9 : finfo Tryz.prog 9 d9 = some ⟨bodyOf Tryz.f9, [.tmp 4], [24]⟩ := finfo_at Tryz.func9 rfl (by kernel_rfl) (by kernel_rfl)
def e9 : Int → AV := fun r => .v (.int .u32 r)
set_option maxHeartbeats 20000000 in
theorem w9 (cp : CallP) (fu : Nat) (x1 : List Int) (x2 : List Int) (H20_0 : ∀ (a0 : Int) (a1 : Int) r, soft_Mul fu a0 a1 = some r → cp 20 [.v (.int .u32 a0), .v (.int .u32 a1)] = some (.v (.int .u32 r))) (H19_0 : ∀ (a0 : Int) (a1 : Int) r, soft_Add fu a0 a1 = some r → cp 19 [.v (.int .u32 a0), .v (.int .u32 a1)] = some (.v (.int .u32 r))) : J (go Tryz.prog noC cp noI 0 [] d9 fu (fin Tryz.prog [.tmp 4] [24]) (bodyOf Tryz.f9) (initE 0 [.arr x1.length (lm (ik .u32) x1), .arr x2.length (lm (ik .u32) x2)]) [] []) (mat_Dot fu x1 x2) e9 := by
 unfold mat_Dot e9
 conv => arg 1; simp (disch := first | assumption | decide | with_unfolding_all rfl | omega | simp only [OZ] <;> omega | fail) only [bodyOf, Tryz.f9, ZZ, d9_at, simprocAttr]
 refine J.eq go_seq ?_
 conv => arg 1; simp (disch := first | assumption | decide | with_unfolding_all rfl | omega | simp only [OZ] <;> omega | fail) only [ZZ, d9_at, simprocAttr]
 unfold mat_Dot_W1
 refine J.loop (fun (s : Int × Int) => ([(0, .arr x1.length (lm (ik .u32) x1)), (1, .arr x2.length (lm (ik .u32) x2)), (5, .v (.int .u32 s.1)), (11, .v (.int .i64 (imin (x1.length : Int) (x2.length : Int)))), (12, .v (.int .i64 s.2))], [])) (fun next s => mat_Dot_L1 fu x1 x2 (fun x7 x8 => next (x7, x8)) s.1 s.2) (s0 := (0, 0)) ?_ ?_ ?_
 ·first | rfl | (simp only [LN, NN, NT])
 ·first | (simp (disch := first | assumption | decide | with_unfolding_all rfl | omega | simp only [OZ] <;> omega | fail) only [RR, simprocAttr, LN, NN, NT]; done) | (simp (disch := first | assumption | decide | with_unfolding_all rfl | omega | simp only [OZ] <;> omega | fail) only [RR, simprocAttr, LN, fm_app, NN, NT]; done) | rfl
 rintro next k1 hn1 ⟨x7, x8⟩
 let nx1 : Int → Int → Option Int := (fun x7 x8 => next (x7, x8))
 show J _ (mat_Dot_L1 fu x1 x2 nx1 x7 x8) _
 unfold mat_Dot_L1
 conv => arg 1; simp (disch := first | assumption | decide | with_unfolding_all rfl | omega | simp only [OZ] <;> omega | fail) only [ZZ, d9_at, simprocAttr]
 refine J.eq go_seq ?_
 conv => arg 1; simp (disch := first | assumption | decide | with_unfolding_all rfl | omega | simp only [OZ] <;> omega | fail) only [ZZ, d9_at, simprocAttr]
 refine J.ite (fun h1 => ?_) (fun h1 => ?_)
 ·have h1' := decide_eq_true h1
  have h1'' : decide ((imin (x1.length : Int) (x2.length : Int)) ≤ x8) = false := decide_eq_false (by omega)
  conv => arg 1; simp (disch := first | assumption | decide | with_unfolding_all rfl | omega | simp only [OZ] <;> omega | fail) only [ZZ, d9_at, simprocAttr, h1'', h1']
  refine J.eq ret_seq ?_
  refine J.eq go_seq ?_
  refine J.at fun x13 h2 h3 h4 => ?_
  refine J.at fun x14 h5 h6 h7 => ?_
  refine J.bind fun x15 h8 => ?_
  have e_h8 := H20_0 _ _ _ h8
  try simp only [NN, NT, LN, simprocAttr, DT] at e_h8
  refine J.bind fun x16 h9 => ?_
  have e_h9 := H19_0 _ _ _ h9
  try simp only [NN, NT, LN, simprocAttr, DT] at e_h9
  conv => arg 1; simp (disch := first | assumption | decide | with_unfolding_all rfl | omega | simp only [OZ] <;> omega | fail) only [ZZ, d9_at, simprocAttr, h1'', h1', lm_ik h4, lm_ik h7, e_h8, e_h9]
  refine J.eq ret_seq ?_
  conv => arg 1; simp (disch := first | assumption | decide | with_unfolding_all rfl | omega | simp only [OZ] <;> omega | fail) only [ZZ, d9_at, simprocAttr, h1'', h1', lm_ik h4, lm_ik h7, e_h8, e_h9]
  refine J.next (s := (x16, wk .i64 (x8 + 1))) hn1 ?_ ?_
  ·first | rfl | (simp only [LN, NN, NT])
  ·first | (simp (disch := first | assumption | decide | with_unfolding_all rfl | omega | simp only [OZ] <;> omega | fail) only [RR, simprocAttr, LN, NN, NT]; done) | (simp (disch := first | assumption | decide | with_unfolding_all rfl | omega | simp only [OZ] <;> omega | fail) only [RR, simprocAttr, LN, fm_app, NN, NT]; done) | rfl
 ·have h1' := decide_eq_false h1
  have h1'' : decide ((imin (x1.length : Int) (x2.length : Int)) ≤ x8) = true := decide_eq_true (by omega)
  conv => arg 1; simp (disch := first | assumption | decide | with_unfolding_all rfl | omega | simp only [OZ] <;> omega | fail) only [ZZ, d9_at, simprocAttr, h1'', h1']
  refine J.eq ret_seq ?_
  refine J.some ?_
  simp (maxSteps := 20000000) (disch := first | assumption | decide | with_unfolding_all rfl | omega | simp only [OZ] <;> omega | fail) only [ZZ, d9_at, simprocAttr, h1'', h1', FF, LN, NN, NT]
noncomputable def t9 (fu : Nat) : CallP := orE 20 (mkC (fun (t : Int × Int) => ([.v (.int .u32 t.1), .v (.int .u32 t.2)] : List AV)) (fun t => soft_Mul fu t.1 t.2) e20) (orE 19 (mkC (fun (t : Int × Int) => ([.v (.int .u32 t.1), .v (.int .u32 t.2)] : List AV)) (fun t => soft_Add fu t.1 t.2) e19) (noP))
theorem t9_ok (fu : Nat) : CpOK Tryz.prog (t9 fu ) := orE_ok (orE_ok (noP_ok) (mkC_ok (fun t b h => ok19 fu t.1 t.2  b h))) (mkC_ok (fun t b h => ok20 fu t.1 t.2  b h))
theorem ok9 (fu : Nat) (x1 : List Int) (x2 : List Int) (r) (h : mat_Dot fu x1 x2 = some r) : PureOK Tryz.prog 9 [.arr x1.length (lm (ik .u32) x1), .arr x2.length (lm (ik .u32) x2)] (e9 r) :=
  pure_J mixed (cp := t9 fu ) (t9_ok fu  ) noI_ok i9 (w9 _ fu x1 x2  (fun a0 a1 r h => orE_hit (mkC_at (a := (a0, a1)) (by intro a b h; first | (exact rfl) | (simp only [INJ, IJ] at h; first | exact h | (simp_all [Prod.ext_iff]) )) h)) (fun a0 a1 r h => orE_miss (by decide) (orE_hit (mkC_at (a := (a0, a1)) (by intro a b h; first | (exact rfl) | (simp only [INJ, IJ] at h; first | exact h | (simp_all [Prod.ext_iff]) )) h)))) h
/-! 51: lattice/mat.times -/
open Aw (d51)
def d51_at := by have h := tabL Aw.d51.eq_1; simp only [AllAt, Nat.zero_add, Nat.reduceAdd] at h; exact h
noncomputable def b51 : Code := bodyOf Tryz.f51
theorem go_b51 {C : Cfg} {cp : CallP} {ci : CallI} {lvl : Nat} {prot : List Id} {D : List (Nat × List Nat)} {n : Nat} {K : KK} {e : Env} {h : Heap} {fs : List Fr} : go Tryz.prog C cp ci lvl prot D n K b51 e h fs = go Tryz.prog C cp ci lvl prot D n K (bodyOf Tryz.f51) e h fs := rfl
theorem i51 : finfo Tryz.prog 51 d51 = some ⟨b51, [], []⟩ := finfo_at Tryz.func51 rfl (by kernel_rfl) (by kernel_rfl)
/-! 52: lattice/mat.product$1 -/
open Aw (d52)
def d52_at := by have h := tabL Aw.d52.eq_1; simp only [AllAt, Nat.zero_add, Nat.reduceAdd] at h; exact h
noncomputable def b52 : Code := bodyOf Tryz.f52
theorem go_b52 {C : Cfg} {cp : CallP} {ci : CallI} {lvl : Nat} {prot : List Id} {D : List (Nat × List Nat)} {n : Nat} {K : KK} {e : Env} {h : Heap} {fs : List Fr} : go Tryz.prog C cp ci lvl prot D n K b52 e h fs = go Tryz.prog C cp ci lvl prot D n K (bodyOf Tryz.f52) e h fs := rfl
theorem i52 : finfo Tryz.prog 52 d52 = some ⟨b52, [], []⟩ := finfo_at Tryz.func52 rfl (by kernel_rfl) (by kernel_rfl)
/-! 28: lattice/mat.product -/
open Aw (d28)
def d28_at := by have h := tabL Aw.d28.eq_1; simp only [AllAt, Nat.zero_add, Nat.reduceAdd] at h; exact h
theorem i28 : finfo Tryz.prog 28 d28 = some ⟨bodyOf Tryz.f28, [.tmp 4], [22]⟩ := finfo_at Tryz.func28 rfl (by kernel_rfl) (by kernel_rfl)
def e28 : (List Int) → AV := fun r => .fresh 1 r.length (lm (ik .u32) r)
set_option maxHeartbeats 20000000 in
theorem w28 (cp : CallP) (fu : Nat) (x1 : T_Tensor) (x2 : T_Tensor) (H49_0 : ∀ (a0 : List Int) (a1 : List Int) r, shape_Broadcast fu a0 a1 = some r → cp 49 [.arr a0.length (lm (ik .i64) a0), .arr a1.length (lm (ik .i64) a1)] = some (.tuple [.fresh 1 r.1.length (lm (ik .i64) r.1), .v (.int .i64 r.2)])) (H27_0 : ∀ (a0 : List Int) r, shape_Size fu a0 = some r → cp 27 [.arr a0.length (lm (ik .i64) a0)] = some (.tuple [.v (.int .i64 r.1), .v (.int .i64 r.2)])) (H50_0 : ∀ (a0 : List Int) (a1 : List Int) (a2 : Int) r, shape_From fu a0 a1 a2 = some r → cp 50 [.arr a0.length (lm (ik .i64) a0), .arr a1.length (lm (ik .i64) a1), .v (.int .i64 a2)] = some (.tuple [.v (.int .i64 r.1), .v (.int .i64 r.2)])) (H107_0 : ∀ (a0 : T_mat_grid) (a1 : Int) r, mat_grid_down fu a0 a1 = some r → cp 107 [.agg (c_T_mat_grid a0), .v (.int .i64 a1)] = some (.fresh 1 r.length (lm (ik .u32) r))) (H108_0 : ∀ (a0 : T_mat_grid) (a1 : Int) r, mat_grid_across fu a0 a1 = some r → cp 108 [.agg (c_T_mat_grid a0), .v (.int .i64 a1)] = some (.fresh 1 r.length (lm (ik .u32) r))) (H9_0 : ∀ (a0 : List Int) (a1 : List Int) r, mat_Dot fu a0 a1 = some r → cp 9 [.arr a0.length (lm (ik .u32) a0), .arr a1.length (lm (ik .u32) a1)] = some (.v (.int .u32 r))) : J (go Tryz.prog (inlC [51, 52]) cp (ciE Tryz.prog (inlC [51, 52]) cp (ciE Tryz.prog (inlC [51, 52]) cp noI fu 52 d52 ⟨b52, [], []⟩ noI) fu 51 d51 ⟨b51, [], []⟩ (ciE Tryz.prog (inlC [51, 52]) cp noI fu 52 d52 ⟨b52, [], []⟩ noI)) 0 [] d28 fu (fin Tryz.prog [.tmp 4] [22]) (bodyOf Tryz.f28) (initE 0 [.agg (c_T_Tensor x1), .agg (c_T_Tensor x2)]) [] []) (mat_product fu x1 x2) e28 := by
 unfold mat_product e28
 conv => arg 1; simp (disch := first | assumption | decide | with_unfolding_all rfl | omega | simp only [OZ] <;> omega | fail) only [bodyOf, Tryz.f28, ZZ, d28_at, simprocAttr, RI, RIk, initE, RL]
 refine J.joinS (fun (t : List Int) => ([(2, .ptr (0, 2, 0) 0 0), (3, .ptr (0, 3, 0) 0 0), (5, .arr t.length (lm (ik .i64) t)), (6, .arr x2.fDims.length (lm (ik .i64) x2.fDims))], [((0, 2, 0), .bx true ([.v (.int .i64 x1.fType), .arr x1.fDims.length (lm (ik .i64) x1.fDims), .arr x1.fF.length (lm (ik .u32) x1.fF), .arr x1.fI.length (lm (ik .i64) x1.fI), .arr x1.fB.length (lm (bk) x1.fB)])), ((0, 3, 0), .bx true ([.v (.int .i64 x2.fType), .arr x2.fDims.length (lm (ik .i64) x2.fDims), .arr x2.fF.length (lm (ik .u32) x2.fF), .arr x2.fI.length (lm (ik .i64) x2.fI), .arr x2.fB.length (lm (bk) x2.fB)]))])) (fun t => mat_product_k1 fu x1 x2 t) ?_ (fun hj1 => ?_)
 ·rintro x3
  show J _ (mat_product_k1 fu x1 x2 x3) _
  unfold mat_product_k1
  refine J.joinS (fun (t : List Int) => ([(2, .ptr (0, 2, 0) 0 0), (3, .ptr (0, 3, 0) 0 0), (5, .arr x3.length (lm (ik .i64) x3)), (6, .arr t.length (lm (ik .i64) t))], [((0, 2, 0), .bx true ([.v (.int .i64 x1.fType), .arr x1.fDims.length (lm (ik .i64) x1.fDims), .arr x1.fF.length (lm (ik .u32) x1.fF), .arr x1.fI.length (lm (ik .i64) x1.fI), .arr x1.fB.length (lm (bk) x1.fB)])), ((0, 3, 0), .bx true ([.v (.int .i64 x2.fType), .arr x2.fDims.length (lm (ik .i64) x2.fDims), .arr x2.fF.length (lm (ik .u32) x2.fF), .arr x2.fI.length (lm (ik .i64) x2.fI), .arr x2.fB.length (lm (bk) x2.fB)]))])) (fun t => mat_product_k2 fu x1 x2 x3 t) ?_ (fun hj2 => ?_)
  ·rintro x4
   show J _ (mat_product_k2 fu x1 x2 x3 x4) _
   unfold mat_product_k2
   refine J.at fun x5 h1 h2 h3 => ?_
   refine J.at fun x6 h4 h5 h6 => ?_
   refine J.at fun x7 h7 h8 h9 => ?_
   refine J.at fun x8 h10 h11 h12 => ?_
   refine J.chk fun h13 => ?_
   refine J.chk fun h14 => ?_
   refine J.bind fun x9 h15 => ?_
   have e_h15 := H49_0 _ _ _ h15
   try simp only [NN, NT, LN, simprocAttr, DT] at e_h15
   refine J.bind fun x10 h16 => ?_
   have e_h16 := H27_0 _ _ h16
   try simp only [NN, NT, LN, simprocAttr, DT] at e_h16
   conv => arg 1; simp (disch := first | assumption | decide | with_unfolding_all rfl | omega | simp only [OZ] <;> omega | fail) only [ZZ, d28_at, simprocAttr, RI, RIk, initE, RL, lm_ik h3, lm_ik h6, lm_ik h9, lm_ik h12, e_h15, e_h16]
   refine J.eq go_seq ?_
   conv => arg 1; simp (disch := first | assumption | decide | with_unfolding_all rfl | omega | simp only [OZ] <;> omega | fail) only [ZZ, d28_at, simprocAttr, RI, RIk, initE, RL, lm_ik h3, lm_ik h6, lm_ik h9, lm_ik h12, e_h15, e_h16]
   unfold mat_product_W1
   refine J.loop (fun (s : Int × Int × (List Int) × Int) => ([(5, .arr x3.length (lm (ik .i64) x3)), (6, .arr x4.length (lm (ik .i64) x4)), (7, .v (.int .i64 (wk .i64 ((x3.length : Int) - 2)))), (8, .v (.int .i64 (wk .i64 ((x4.length : Int) - 2)))), (9, .ptr (0, 9, 0) 0 0), (10, .ptr (0, 10, 0) 0 0), (11, .own (0, 86, 0) 0 x9.1.length x9.1.length), (15, .ptr (0, 15, 0) 0 0), (94, .v (.int .i64 x10.1)), (95, .v (.int .i64 s.2.2.2))], [((0, 9, 0), .bx true ([.arr x1.fF.length (lm (ik .u32) x1.fF), .v (.int .i64 s.1), .v (.int .i64 x5), .v (.int .i64 1), .v (.int .i64 x6), .v (.int .i64 x5)])), ((0, 10, 0), .bx true ([.arr x2.fF.length (lm (ik .u32) x2.fF), .v (.int .i64 s.2.1), .v (.int .i64 x7), .v (.int .i64 1), .v (.int .i64 x8), .v (.int .i64 x7)])), ((0, 86, 0), .sl true true 1 x9.1.length (lm (ik .i64) x9.1)), ((0, 15, 0), .bx true ([.own (0, 15, 78) 0 s.2.2.1.length s.2.2.1.length])), ((0, 15, 78), .sl true true 1 s.2.2.1.length (lm (ik .u32) s.2.2.1))])) (fun next s => mat_product_L1 fu x1 x2 x3 x4 x5 x6 x7 x8 x9 x10 (fun x48 x49 x50 x51 => next (x48, x49, x50, x51)) s.1 s.2.1 s.2.2.1 s.2.2.2) (s0 := (0, 0, ([] : List Int), 0)) ?_ ?_ ?_
   ·first | rfl | (simp only [LN, NN, NT])
   ·first | (simp (disch := first | assumption | decide | with_unfolding_all rfl | omega | simp only [OZ] <;> omega | fail) only [RR, simprocAttr, LN, NN, NT]; done) | (simp (disch := first | assumption | decide | with_unfolding_all rfl | omega | simp only [OZ] <;> omega | fail) only [RR, simprocAttr, LN, fm_app, NN, NT]; done) | rfl
   rintro next k1 hn1 ⟨x48, x49, x50, x51⟩
   let nx1 : Int → Int → (List Int) → Int → Option (List Int) := (fun x48 x49 x50 x51 => next (x48, x49, x50, x51))
   show J _ (mat_product_L1 fu x1 x2 x3 x4 x5 x6 x7 x8 x9 x10 nx1 x48 x49 x50 x51) _
   unfold mat_product_L1
   conv => arg 1; simp (disch := first | assumption | decide | with_unfolding_all rfl | omega | simp only [OZ] <;> omega | fail) only [ZZ, d28_at, simprocAttr, go_b51, bodyOf, Tryz.f51, d51_at, go_b52, bodyOf, Tryz.f52, d52_at, RI, RIk, initE, RL, lm_ik h3, lm_ik h6, lm_ik h9, lm_ik h12, e_h15, e_h16]
   refine J.eq go_seq ?_
   conv => arg 1; simp (disch := first | assumption | decide | with_unfolding_all rfl | omega | simp only [OZ] <;> omega | fail) only [ZZ, d28_at, simprocAttr, go_b51, bodyOf, Tryz.f51, d51_at, go_b52, bodyOf, Tryz.f52, d52_at, RI, RIk, initE, RL, lm_ik h3, lm_ik h6, lm_ik h9, lm_ik h12, e_h15, e_h16]
   refine J.ite (fun h17 => ?_) (fun h17 => ?_)
   ·have h17' := decide_eq_true h17
    have h17'' : decide (x10.1 ≤ x51) = false := decide_eq_false (by omega)
    conv => arg 1; simp (disch := first | assumption | decide | with_unfolding_all rfl | omega | simp only [OZ] <;> omega | fail) only [ZZ, d28_at, simprocAttr, go_b51, bodyOf, Tryz.f51, d51_at, go_b52, bodyOf, Tryz.f52, d52_at, RI, RIk, initE, RL, lm_ik h3, lm_ik h6, lm_ik h9, lm_ik h12, e_h15, e_h16, h17'', h17']
    refine J.eq ret_seq ?_
    refine J.eq go_seq ?_
    refine J.bind fun x89 h18 => ?_
    have e_h18 := H50_0 _ _ _ _ h18
    try simp only [NN, NT, LN, simprocAttr, DT] at e_h18
    refine J.bind fun x90 h19 => ?_
    have e_h19 := H50_0 _ _ _ _ h19
    try simp only [NN, NT, LN, simprocAttr, DT] at e_h19
    conv => arg 1; simp (disch := first | assumption | decide | with_unfolding_all rfl | omega | simp only [OZ] <;> omega | fail) only [ZZ, d28_at, simprocAttr, go_b51, bodyOf, Tryz.f51, d51_at, go_b52, bodyOf, Tryz.f52, d52_at, RI, RIk, initE, RL, lm_ik h3, lm_ik h6, lm_ik h9, lm_ik h12, e_h15, e_h16, h17'', h17', e_h18, e_h19]
    refine J.joinS (fun (t : List (List Int)) => ([(2, .fn 52 [] [.ptr (0, 15, 0) 0 0]), (3, .ptr (1, 3, 0) 0 0), (6, .own (1, 6, 77) 0 t.length t.length)], [((0, 9, 0), .bx true ([.arr x1.fF.length (lm (ik .u32) x1.fF), .v (.int .i64 (wk .i64 ((wk .i64 (x89.1 * x6)) * x5))), .v (.int .i64 x5), .v (.int .i64 1), .v (.int .i64 x6), .v (.int .i64 x5)])), ((0, 10, 0), .bx true ([.arr x2.fF.length (lm (ik .u32) x2.fF), .v (.int .i64 (wk .i64 ((wk .i64 (x90.1 * x8)) * x7))), .v (.int .i64 x7), .v (.int .i64 1), .v (.int .i64 x8), .v (.int .i64 x7)])), ((0, 86, 0), .sl true true 1 x9.1.length (lm (ik .i64) x9.1)), ((0, 15, 0), .bx true ([.own (0, 15, 78) 0 x50.length x50.length])), ((0, 15, 78), .sl true true 1 x50.length (lm (ik .u32) x50)), ((1, 3, 0), .bx true ([.arr x1.fF.length (lm (ik .u32) x1.fF), .v (.int .i64 (wk .i64 ((wk .i64 (x89.1 * x6)) * x5))), .v (.int .i64 x5), .v (.int .i64 1), .v (.int .i64 x6), .v (.int .i64 x5)])), ((1, 4, 0), .bx true ([.arr x2.fF.length (lm (ik .u32) x2.fF), .v (.int .i64 (wk .i64 ((wk .i64 (x90.1 * x8)) * x7))), .v (.int .i64 x7), .v (.int .i64 1), .v (.int .i64 x8), .v (.int .i64 x7)])), ((1, 6, 77), .sl true true 1 t.length (lm (avl (ik .u32)) t))])) (fun t => mat_product_k3 fu nx1 x1 x5 x6 x7 x8 x50 x51 x89 x90 t) ?_ (fun hj3 => ?_)
    ·rintro x91
     show J _ (mat_product_k3 fu nx1 x1 x5 x6 x7 x8 x50 x51 x89 x90 x91) _
     unfold mat_product_k3
     conv => arg 1; simp (disch := first | assumption | decide | with_unfolding_all rfl | omega | simp only [OZ] <;> omega | fail) only [ZZ, d28_at, simprocAttr, go_b51, bodyOf, Tryz.f51, d51_at, go_b52, bodyOf, Tryz.f52, d52_at, RI, RIk, initE, RL, lm_ik h3, lm_ik h6, lm_ik h9, lm_ik h12, e_h15, e_h16, h17'', h17', e_h18, e_h19]
     unfold mat_product_W2
     refine J.loop (fun (s : (List Int) × Int) => ([(2, .fn 52 [] [.ptr (0, 15, 0) 0 0]), (3, .ptr (1, 3, 0) 0 0), (6, .own (1, 6, 77) 0 x91.length x91.length), (25, .v (.int .i64 x6)), (26, .v (.int .i64 s.2))], [((0, 9, 0), .bx true ([.arr x1.fF.length (lm (ik .u32) x1.fF), .v (.int .i64 (wk .i64 ((wk .i64 (x89.1 * x6)) * x5))), .v (.int .i64 x5), .v (.int .i64 1), .v (.int .i64 x6), .v (.int .i64 x5)])), ((0, 10, 0), .bx true ([.arr x2.fF.length (lm (ik .u32) x2.fF), .v (.int .i64 (wk .i64 ((wk .i64 (x90.1 * x8)) * x7))), .v (.int .i64 x7), .v (.int .i64 1), .v (.int .i64 x8), .v (.int .i64 x7)])), ((0, 86, 0), .sl true true 1 x9.1.length (lm (ik .i64) x9.1)), ((0, 15, 0), .bx true ([.own (0, 15, 78) 0 s.1.length s.1.length])), ((0, 15, 78), .sl true true 1 s.1.length (lm (ik .u32) s.1)), ((1, 3, 0), .bx true ([.arr x1.fF.length (lm (ik .u32) x1.fF), .v (.int .i64 (wk .i64 ((wk .i64 (x89.1 * x6)) * x5))), .v (.int .i64 x5), .v (.int .i64 1), .v (.int .i64 x6), .v (.int .i64 x5)])), ((1, 6, 77), .sl true true 1 x91.length (lm (avl (ik .u32)) x91))])) (fun next s => mat_product_L2 fu nx1 x1 x5 x6 x7 x8 x51 x89 x90 x91 (fun x101 x102 => next (x101, x102)) s.1 s.2) (s0 := (x50, 0)) ?_ ?_ ?_
     ·first | rfl | (simp only [LN, NN, NT])
     ·first | (simp (disch := first | assumption | decide | with_unfolding_all rfl | omega | simp only [OZ] <;> omega | fail) only [RR, simprocAttr, LN, NN, NT]; done) | (simp (disch := first | assumption | decide | with_unfolding_all rfl | omega | simp only [OZ] <;> omega | fail) only [RR, simprocAttr, LN, fm_app, NN, NT]; done) | rfl
     rintro next k2 hn2 ⟨x101, x102⟩
     let nx2 : (List Int) → Int → Option (List Int) := (fun x101 x102 => next (x101, x102))
     show J _ (mat_product_L2 fu nx1 x1 x5 x6 x7 x8 x51 x89 x90 x91 nx2 x101 x102) _
     unfold mat_product_L2
     conv => arg 1; simp (disch := first | assumption | decide | with_unfolding_all rfl | omega | simp only [OZ] <;> omega | fail) only [ZZ, d28_at, simprocAttr, go_b51, bodyOf, Tryz.f51, d51_at, go_b52, bodyOf, Tryz.f52, d52_at, RI, RIk, initE, RL, lm_ik h3, lm_ik h6, lm_ik h9, lm_ik h12, e_h15, e_h16, h17'', h17', e_h18, e_h19]
     refine J.eq go_seq ?_
     conv => arg 1; simp (disch := first | assumption | decide | with_unfolding_all rfl | omega | simp only [OZ] <;> omega | fail) only [ZZ, d28_at, simprocAttr, go_b51, bodyOf, Tryz.f51, d51_at, go_b52, bodyOf, Tryz.f52, d52_at, RI, RIk, initE, RL, lm_ik h3, lm_ik h6, lm_ik h9, lm_ik h12, e_h15, e_h16, h17'', h17', e_h18, e_h19]
     refine J.ite (fun h20 => ?_) (fun h20 => ?_)
     ·have h20' := decide_eq_true h20
      have h20'' : decide (x6 ≤ x102) = false := decide_eq_false (by omega)
      conv => arg 1; simp (disch := first | assumption | decide | with_unfolding_all rfl | omega | simp only [OZ] <;> omega | fail) only [ZZ, d28_at, simprocAttr, go_b51, bodyOf, Tryz.f51, d51_at, go_b52, bodyOf, Tryz.f52, d52_at, RI, RIk, initE, RL, lm_ik h3, lm_ik h6, lm_ik h9, lm_ik h12, e_h15, e_h16, h17'', h17', e_h18, e_h19, h20'', h20']
      refine J.eq ret_seq ?_
      refine J.eq go_seq ?_
      refine J.bind fun x112 h21 => ?_
      have e_h21 := H108_0 _ _ _ h21
      try simp only [NN, NT, LN, simprocAttr, DT] at e_h21
      conv => arg 1; simp (disch := first | assumption | decide | with_unfolding_all rfl | omega | simp only [OZ] <;> omega | fail) only [ZZ, d28_at, simprocAttr, go_b51, bodyOf, Tryz.f51, d51_at, go_b52, bodyOf, Tryz.f52, d52_at, RI, RIk, initE, RL, lm_ik h3, lm_ik h6, lm_ik h9, lm_ik h12, e_h15, e_h16, h17'', h17', e_h18, e_h19, h20'', h20', e_h21]
      unfold mat_product_W3
      refine J.loop (fun (s : (List Int) × Int) => ([(2, .fn 52 [] [.ptr (0, 15, 0) 0 0]), (3, .ptr (1, 3, 0) 0 0), (6, .own (1, 6, 77) 0 x91.length x91.length), (9, .own (1, 31, 0) 0 x112.length x112.length), (25, .v (.int .i64 x6)), (26, .v (.int .i64 x102)), (32, .own (1, 6, 77) 0 x91.length x91.length), (33, .v (.int .i64 (x91.length : Int))), (34, .v (.int .i64 s.2))], [((0, 9, 0), .bx true ([.arr x1.fF.length (lm (ik .u32) x1.fF), .v (.int .i64 (wk .i64 ((wk .i64 (x89.1 * x6)) * x5))), .v (.int .i64 x5), .v (.int .i64 1), .v (.int .i64 x6), .v (.int .i64 x5)])), ((0, 10, 0), .bx true ([.arr x2.fF.length (lm (ik .u32) x2.fF), .v (.int .i64 (wk .i64 ((wk .i64 (x90.1 * x8)) * x7))), .v (.int .i64 x7), .v (.int .i64 1), .v (.int .i64 x8), .v (.int .i64 x7)])), ((0, 86, 0), .sl true true 1 x9.1.length (lm (ik .i64) x9.1)), ((0, 15, 0), .bx true ([.own (0, 15, 78) 0 s.1.length s.1.length])), ((0, 15, 78), .sl true true 1 s.1.length (lm (ik .u32) s.1)), ((1, 3, 0), .bx true ([.arr x1.fF.length (lm (ik .u32) x1.fF), .v (.int .i64 (wk .i64 ((wk .i64 (x89.1 * x6)) * x5))), .v (.int .i64 x5), .v (.int .i64 1), .v (.int .i64 x6), .v (.int .i64 x5)])), ((1, 6, 77), .sl true true 1 x91.length (lm (avl (ik .u32)) x91)), ((1, 31, 0), .sl true true 1 x112.length (lm (ik .u32) x112))])) (fun next s => mat_product_L3 fu nx2 x91 x102 x112 (fun x115 x116 => next (x115, x116)) s.1 s.2) (s0 := (x101, 0)) ?_ ?_ ?_
      ·first | rfl | (simp only [LN, NN, NT])
      ·first | (simp (disch := first | assumption | decide | with_unfolding_all rfl | omega | simp only [OZ] <;> omega | fail) only [RR, simprocAttr, LN, NN, NT]; done) | (simp (disch := first | assumption | decide | with_unfolding_all rfl | omega | simp only [OZ] <;> omega | fail) only [RR, simprocAttr, LN, fm_app, NN, NT]; done) | rfl
      rintro next k3 hn3 ⟨x115, x116⟩
      let nx3 : (List Int) → Int → Option (List Int) := (fun x115 x116 => next (x115, x116))
      show J _ (mat_product_L3 fu nx2 x91 x102 x112 nx3 x115 x116) _
      unfold mat_product_L3
      conv => arg 1; simp (disch := first | assumption | decide | with_unfolding_all rfl | omega | simp only [OZ] <;> omega | fail) only [ZZ, d28_at, simprocAttr, go_b51, bodyOf, Tryz.f51, d51_at, go_b52, bodyOf, Tryz.f52, d52_at, RI, RIk, initE, RL, lm_ik h3, lm_ik h6, lm_ik h9, lm_ik h12, e_h15, e_h16, h17'', h17', e_h18, e_h19, h20'', h20', e_h21]
      refine J.eq go_seq ?_
      conv => arg 1; simp (disch := first | assumption | decide | with_unfolding_all rfl | omega | simp only [OZ] <;> omega | fail) only [ZZ, d28_at, simprocAttr, go_b51, bodyOf, Tryz.f51, d51_at, go_b52, bodyOf, Tryz.f52, d52_at, RI, RIk, initE, RL, lm_ik h3, lm_ik h6, lm_ik h9, lm_ik h12, e_h15, e_h16, h17'', h17', e_h18, e_h19, h20'', h20', e_h21]
      refine J.ite (fun h22 => ?_) (fun h22 => ?_)
      ·have h22' := decide_eq_true h22
       have h22'' : decide ((x91.length : Int) ≤ x116) = false := decide_eq_false (by omega)
       conv => arg 1; simp (disch := first | assumption | decide | with_unfolding_all rfl | omega | simp only [OZ] <;> omega | fail) only [ZZ, d28_at, simprocAttr, go_b51, bodyOf, Tryz.f51, d51_at, go_b52, bodyOf, Tryz.f52, d52_at, RI, RIk, initE, RL, lm_ik h3, lm_ik h6, lm_ik h9, lm_ik h12, e_h15, e_h16, h17'', h17', e_h18, e_h19, h20'', h20', e_h21, h22'', h22']
       refine J.eq ret_seq ?_
       refine J.eq go_seq ?_
       refine J.at fun x119 h23 h24 h25 => ?_
       refine J.bind fun x120 h26 => ?_
       have e_h26 := H9_0 _ _ _ h26
       try simp only [NN, NT, LN, simprocAttr, DT] at e_h26
       refine J.chk fun h27 => ?_
       conv => arg 1; simp (disch := first | assumption | decide | with_unfolding_all rfl | omega | simp only [OZ] <;> omega | fail) only [ZZ, d28_at, simprocAttr, go_b51, bodyOf, Tryz.f51, d51_at, go_b52, bodyOf, Tryz.f52, d52_at, RI, RIk, initE, RL, lm_ik h3, lm_ik h6, lm_ik h9, lm_ik h12, e_h15, e_h16, h17'', h17', e_h18, e_h19, h20'', h20', e_h21, h22'', h22', lm_avl h25, e_h26]
       refine J.eq ret_seq ?_
       conv => arg 1; simp (disch := first | assumption | decide | with_unfolding_all rfl | omega | simp only [OZ] <;> omega | fail) only [ZZ, d28_at, simprocAttr, go_b51, bodyOf, Tryz.f51, d51_at, go_b52, bodyOf, Tryz.f52, d52_at, RI, RIk, initE, RL, lm_ik h3, lm_ik h6, lm_ik h9, lm_ik h12, e_h15, e_h16, h17'', h17', e_h18, e_h19, h20'', h20', e_h21, h22'', h22', lm_avl h25, e_h26]
       refine J.next (s := (x115 ++ ([x120]), wk .i64 (x116 + 1))) hn3 ?_ ?_
       ·first | rfl | (simp only [LN, NN, NT])
       ·first | (simp (disch := first | assumption | decide | with_unfolding_all rfl | omega | simp only [OZ] <;> omega | fail) only [RR, simprocAttr, LN, NN, NT]; done) | (simp (disch := first | assumption | decide | with_unfolding_all rfl | omega | simp only [OZ] <;> omega | fail) only [RR, simprocAttr, LN, fm_app, NN, NT]; done) | rfl
      ·have h22' := decide_eq_false h22
       have h22'' : decide ((x91.length : Int) ≤ x116) = true := decide_eq_true (by omega)
       conv => arg 1; simp (disch := first | assumption | decide | with_unfolding_all rfl | omega | simp only [OZ] <;> omega | fail) only [ZZ, d28_at, simprocAttr, go_b51, bodyOf, Tryz.f51, d51_at, go_b52, bodyOf, Tryz.f52, d52_at, RI, RIk, initE, RL, lm_ik h3, lm_ik h6, lm_ik h9, lm_ik h12, e_h15, e_h16, h17'', h17', e_h18, e_h19, h20'', h20', e_h21, h22'', h22']
       refine J.eq ret_seq ?_
       conv => arg 1; simp (disch := first | assumption | decide | with_unfolding_all rfl | omega | simp only [OZ] <;> omega | fail) only [ZZ, d28_at, simprocAttr, go_b51, bodyOf, Tryz.f51, d51_at, go_b52, bodyOf, Tryz.f52, d52_at, RI, RIk, initE, RL, lm_ik h3, lm_ik h6, lm_ik h9, lm_ik h12, e_h15, e_h16, h17'', h17', e_h18, e_h19, h20'', h20', e_h21, h22'', h22']
       refine J.next (s := (x115, wk .i64 (x102 + 1))) hn2 ?_ ?_
       ·first | rfl | (simp only [LN, NN, NT])
       ·first | (simp (disch := first | assumption | decide | with_unfolding_all rfl | omega | simp only [OZ] <;> omega | fail) only [RR, simprocAttr, LN, NN, NT]; done) | (simp (disch := first | assumption | decide | with_unfolding_all rfl | omega | simp only [OZ] <;> omega | fail) only [RR, simprocAttr, LN, fm_app, NN, NT]; done) | rfl
     ·have h20' := decide_eq_false h20
      have h20'' : decide (x6 ≤ x102) = true := decide_eq_true (by omega)
      conv => arg 1; simp (disch := first | assumption | decide | with_unfolding_all rfl | omega | simp only [OZ] <;> omega | fail) only [ZZ, d28_at, simprocAttr, go_b51, bodyOf, Tryz.f51, d51_at, go_b52, bodyOf, Tryz.f52, d52_at, RI, RIk, initE, RL, lm_ik h3, lm_ik h6, lm_ik h9, lm_ik h12, e_h15, e_h16, h17'', h17', e_h18, e_h19, h20'', h20']
      refine J.eq ret_seq ?_
      conv => arg 1; simp (disch := first | assumption | decide | with_unfolding_all rfl | omega | simp only [OZ] <;> omega | fail) only [ZZ, d28_at, simprocAttr, go_b51, bodyOf, Tryz.f51, d51_at, go_b52, bodyOf, Tryz.f52, d52_at, RI, RIk, initE, RL, lm_ik h3, lm_ik h6, lm_ik h9, lm_ik h12, e_h15, e_h16, h17'', h17', e_h18, e_h19, h20'', h20']
      refine J.next (s := (wk .i64 ((wk .i64 (x89.1 * x6)) * x5), wk .i64 ((wk .i64 (x90.1 * x8)) * x7), x101, wk .i64 (x51 + 1))) hn1 ?_ ?_
      ·first | rfl | (simp only [LN, NN, NT])
      ·first | (simp (disch := first | assumption | decide | with_unfolding_all rfl | omega | simp only [OZ] <;> omega | fail) only [RR, simprocAttr, LN, NN, NT]; done) | (simp (disch := first | assumption | decide | with_unfolding_all rfl | omega | simp only [OZ] <;> omega | fail) only [RR, simprocAttr, LN, fm_app, NN, NT]; done) | rfl
    ·conv => arg 1; simp (disch := first | assumption | decide | with_unfolding_all rfl | omega | simp only [OZ] <;> omega | fail) only [ZZ, d28_at, simprocAttr, go_b51, bodyOf, Tryz.f51, d51_at, go_b52, bodyOf, Tryz.f52, d52_at, RI, RIk, initE, RL, lm_ik h3, lm_ik h6, lm_ik h9, lm_ik h12, e_h15, e_h16, h17'', h17', e_h18, e_h19]
     unfold mat_product_W4
     refine J.loop (fun (s : (List (List Int)) × Int) => ([(2, .fn 52 [] [.ptr (0, 15, 0) 0 0]), (3, .ptr (1, 3, 0) 0 0), (4, .ptr (1, 4, 0) 0 0), (6, .own (1, 6, 77) 0 s.1.length s.1.length), (13, .v (.int .i64 x7)), (14, .v (.int .i64 s.2))], [((0, 9, 0), .bx true ([.arr x1.fF.length (lm (ik .u32) x1.fF), .v (.int .i64 (wk .i64 ((wk .i64 (x89.1 * x6)) * x5))), .v (.int .i64 x5), .v (.int .i64 1), .v (.int .i64 x6), .v (.int .i64 x5)])), ((0, 10, 0), .bx true ([.arr x2.fF.length (lm (ik .u32) x2.fF), .v (.int .i64 (wk .i64 ((wk .i64 (x90.1 * x8)) * x7))), .v (.int .i64 x7), .v (.int .i64 1), .v (.int .i64 x8), .v (.int .i64 x7)])), ((0, 86, 0), .sl true true 1 x9.1.length (lm (ik .i64) x9.1)), ((0, 15, 0), .bx true ([.own (0, 15, 78) 0 x50.length x50.length])), ((0, 15, 78), .sl true true 1 x50.length (lm (ik .u32) x50)), ((1, 3, 0), .bx true ([.arr x1.fF.length (lm (ik .u32) x1.fF), .v (.int .i64 (wk .i64 ((wk .i64 (x89.1 * x6)) * x5))), .v (.int .i64 x5), .v (.int .i64 1), .v (.int .i64 x6), .v (.int .i64 x5)])), ((1, 4, 0), .bx true ([.arr x2.fF.length (lm (ik .u32) x2.fF), .v (.int .i64 (wk .i64 ((wk .i64 (x90.1 * x8)) * x7))), .v (.int .i64 x7), .v (.int .i64 1), .v (.int .i64 x8), .v (.int .i64 x7)])), ((1, 6, 77), .sl true true 1 s.1.length (lm (avl (ik .u32)) s.1))])) (fun next s => mat_product_L4 fu nx1 x1 x2 x5 x6 x7 x8 x50 x51 x89 x90 (fun x122 x123 => next (x122, x123)) s.1 s.2) (s0 := (([] : List (List Int)), 0)) ?_ ?_ ?_
     ·first | rfl | (simp only [LN, NN, NT])
     ·first | (simp (disch := first | assumption | decide | with_unfolding_all rfl | omega | simp only [OZ] <;> omega | fail) only [RR, simprocAttr, LN, NN, NT]; done) | (simp (disch := first | assumption | decide | with_unfolding_all rfl | omega | simp only [OZ] <;> omega | fail) only [RR, simprocAttr, LN, fm_app, NN, NT]; done) | rfl
     rintro next k4 hn4 ⟨x122, x123⟩
     let nx4 : (List (List Int)) → Int → Option (List Int) := (fun x122 x123 => next (x122, x123))
     show J _ (mat_product_L4 fu nx1 x1 x2 x5 x6 x7 x8 x50 x51 x89 x90 nx4 x122 x123) _
     unfold mat_product_L4
     conv => arg 1; simp (disch := first | assumption | decide | with_unfolding_all rfl | omega | simp only [OZ] <;> omega | fail) only [ZZ, d28_at, simprocAttr, go_b51, bodyOf, Tryz.f51, d51_at, go_b52, bodyOf, Tryz.f52, d52_at, RI, RIk, initE, RL, lm_ik h3, lm_ik h6, lm_ik h9, lm_ik h12, e_h15, e_h16, h17'', h17', e_h18, e_h19]
     refine J.eq go_seq ?_
     conv => arg 1; simp (disch := first | assumption | decide | with_unfolding_all rfl | omega | simp only [OZ] <;> omega | fail) only [ZZ, d28_at, simprocAttr, go_b51, bodyOf, Tryz.f51, d51_at, go_b52, bodyOf, Tryz.f52, d52_at, RI, RIk, initE, RL, lm_ik h3, lm_ik h6, lm_ik h9, lm_ik h12, e_h15, e_h16, h17'', h17', e_h18, e_h19]
     refine J.ite (fun h28 => ?_) (fun h28 => ?_)
     ·have h28' := decide_eq_true h28
      have h28'' : decide (x7 ≤ x123) = false := decide_eq_false (by omega)
      conv => arg 1; simp (disch := first | assumption | decide | with_unfolding_all rfl | omega | simp only [OZ] <;> omega | fail) only [ZZ, d28_at, simprocAttr, go_b51, bodyOf, Tryz.f51, d51_at, go_b52, bodyOf, Tryz.f52, d52_at, RI, RIk, initE, RL, lm_ik h3, lm_ik h6, lm_ik h9, lm_ik h12, e_h15, e_h16, h17'', h17', e_h18, e_h19, h28'', h28']
      refine J.eq ret_seq ?_
      refine J.eq go_seq ?_
      refine J.bind fun x125 h29 => ?_
      have e_h29 := H107_0 _ _ _ h29
      try simp only [NN, NT, LN, simprocAttr, DT] at e_h29
      refine J.chk fun h30 => ?_
      conv => arg 1; simp (disch := first | assumption | decide | with_unfolding_all rfl | omega | simp only [OZ] <;> omega | fail) only [ZZ, d28_at, simprocAttr, go_b51, bodyOf, Tryz.f51, d51_at, go_b52, bodyOf, Tryz.f52, d52_at, RI, RIk, initE, RL, lm_ik h3, lm_ik h6, lm_ik h9, lm_ik h12, e_h15, e_h16, h17'', h17', e_h18, e_h19, h28'', h28', e_h29]
      refine J.eq ret_seq ?_
      conv => arg 1; simp (disch := first | assumption | decide | with_unfolding_all rfl | omega | simp only [OZ] <;> omega | fail) only [ZZ, d28_at, simprocAttr, go_b51, bodyOf, Tryz.f51, d51_at, go_b52, bodyOf, Tryz.f52, d52_at, RI, RIk, initE, RL, lm_ik h3, lm_ik h6, lm_ik h9, lm_ik h12, e_h15, e_h16, h17'', h17', e_h18, e_h19, h28'', h28', e_h29]
      refine J.next (s := (x122 ++ ([x125]), wk .i64 (x123 + 1))) hn4 ?_ ?_
      ·first | rfl | (simp only [LN, NN, NT])
      ·first | (simp (disch := first | assumption | decide | with_unfolding_all rfl | omega | simp only [OZ] <;> omega | fail) only [RR, simprocAttr, LN, NN, NT]; done) | (simp (disch := first | assumption | decide | with_unfolding_all rfl | omega | simp only [OZ] <;> omega | fail) only [RR, simprocAttr, LN, fm_app, NN, NT]; done) | rfl
     ·have h28' := decide_eq_false h28
      have h28'' : decide (x7 ≤ x123) = true := decide_eq_true (by omega)
      conv => arg 1; simp (disch := first | assumption | decide | with_unfolding_all rfl | omega | simp only [OZ] <;> omega | fail) only [ZZ, d28_at, simprocAttr, go_b51, bodyOf, Tryz.f51, d51_at, go_b52, bodyOf, Tryz.f52, d52_at, RI, RIk, initE, RL, lm_ik h3, lm_ik h6, lm_ik h9, lm_ik h12, e_h15, e_h16, h17'', h17', e_h18, e_h19, h28'', h28']
      refine J.jmp (t := x122) hj3 ?_ ?_
      ·first | rfl | (simp only [LN, NN, NT])
      ·first | (simp (disch := first | assumption | decide | with_unfolding_all rfl | omega | simp only [OZ] <;> omega | fail) only [RR, simprocAttr, LN, NN, NT]; done) | (simp (disch := first | assumption | decide | with_unfolding_all rfl | omega | simp only [OZ] <;> omega | fail) only [RR, simprocAttr, LN, fm_app, NN, NT]; done) | rfl
   ·have h17' := decide_eq_false h17
    have h17'' : decide (x10.1 ≤ x51) = true := decide_eq_true (by omega)
    conv => arg 1; simp (disch := first | assumption | decide | with_unfolding_all rfl | omega | simp only [OZ] <;> omega | fail) only [ZZ, d28_at, simprocAttr, go_b51, bodyOf, Tryz.f51, d51_at, go_b52, bodyOf, Tryz.f52, d52_at, RI, RIk, initE, RL, lm_ik h3, lm_ik h6, lm_ik h9, lm_ik h12, e_h15, e_h16, h17'', h17']
    refine J.eq ret_seq ?_
    refine J.some ?_
    simp (maxSteps := 20000000) (disch := first | assumption | decide | with_unfolding_all rfl | omega | simp only [OZ] <;> omega | fail) only [ZZ, d28_at, simprocAttr, go_b51, bodyOf, Tryz.f51, d51_at, go_b52, bodyOf, Tryz.f52, d52_at, RI, RIk, initE, RL, lm_ik h3, lm_ik h6, lm_ik h9, lm_ik h12, e_h15, e_h16, h17'', h17', FF, LN, NN, NT]
  ·conv => arg 1; simp (disch := first | assumption | decide | with_unfolding_all rfl | omega | simp only [OZ] <;> omega | fail) only [ZZ, d28_at, simprocAttr, go_b51, bodyOf, Tryz.f51, d51_at, go_b52, bodyOf, Tryz.f52, d52_at, RI, RIk, initE, RL]
   refine J.ite (fun h31 => ?_) (fun h31 => ?_)
   ·have h31' := decide_eq_true h31
    refine J.at fun x126 h32 h33 h34 => ?_
    replace h34 : x2.fDims[0]? = some x126 := h34
    conv => arg 1; simp (disch := first | assumption | decide | with_unfolding_all rfl | omega | simp only [OZ] <;> omega | fail) only [ZZ, d28_at, simprocAttr, go_b51, bodyOf, Tryz.f51, d51_at, go_b52, bodyOf, Tryz.f52, d52_at, RI, RIk, initE, RL, h31', lm_ik h34]
    refine J.jmp (t := [x126, 1]) hj2 ?_ ?_
    ·first | rfl | (simp only [LN, NN, NT])
    ·first | (simp (disch := first | assumption | decide | with_unfolding_all rfl | omega | simp only [OZ] <;> omega | fail) only [RR, simprocAttr, LN, NN, NT]; done) | (simp (disch := first | assumption | decide | with_unfolding_all rfl | omega | simp only [OZ] <;> omega | fail) only [RR, simprocAttr, LN, fm_app, NN, NT]; done) | rfl
   ·have h31' := decide_eq_false h31
    conv => arg 1; simp (disch := first | assumption | decide | with_unfolding_all rfl | omega | simp only [OZ] <;> omega | fail) only [ZZ, d28_at, simprocAttr, go_b51, bodyOf, Tryz.f51, d51_at, go_b52, bodyOf, Tryz.f52, d52_at, RI, RIk, initE, RL, h31']
    refine J.jmp (t := x2.fDims) hj2 ?_ ?_
    ·first | rfl | (simp only [LN, NN, NT])
    ·first | (simp (disch := first | assumption | decide | with_unfolding_all rfl | omega | simp only [OZ] <;> omega | fail) only [RR, simprocAttr, LN, NN, NT]; done) | (simp (disch := first | assumption | decide | with_unfolding_all rfl | omega | simp only [OZ] <;> omega | fail) only [RR, simprocAttr, LN, fm_app, NN, NT]; done) | rfl
 ·conv => arg 1; simp (disch := first | assumption | decide | with_unfolding_all rfl | omega | simp only [OZ] <;> omega | fail) only [ZZ, d28_at, simprocAttr, go_b51, bodyOf, Tryz.f51, d51_at, go_b52, bodyOf, Tryz.f52, d52_at, RI, RIk, initE, RL]
  refine J.ite (fun h35 => ?_) (fun h35 => ?_)
  ·have h35' := decide_eq_true h35
   refine J.at fun x127 h36 h37 h38 => ?_
   replace h38 : x1.fDims[0]? = some x127 := h38
   conv => arg 1; simp (disch := first | assumption | decide | with_unfolding_all rfl | omega | simp only [OZ] <;> omega | fail) only [ZZ, d28_at, simprocAttr, go_b51, bodyOf, Tryz.f51, d51_at, go_b52, bodyOf, Tryz.f52, d52_at, RI, RIk, initE, RL, h35', lm_ik h38]
   refine J.jmp (t := [1, x127]) hj1 ?_ ?_
   ·first | rfl | (simp only [LN, NN, NT])
   ·first | (simp (disch := first | assumption | decide | with_unfolding_all rfl | omega | simp only [OZ] <;> omega | fail) only [RR, simprocAttr, LN, NN, NT]; done) | (simp (disch := first | assumption | decide | with_unfolding_all rfl | omega | simp only [OZ] <;> omega | fail) only [RR, simprocAttr, LN, fm_app, NN, NT]; done) | rfl
  ·have h35' := decide_eq_false h35
   conv => arg 1; simp (disch := first | assumption | decide | with_unfolding_all rfl | omega | simp only [OZ] <;> omega | fail) only [ZZ, d28_at, simprocAttr, go_b51, bodyOf, Tryz.f51, d51_at, go_b52, bodyOf, Tryz.f52, d52_at, RI, RIk, initE, RL, h35']
   refine J.jmp (t := x1.fDims) hj1 ?_ ?_
   ·first | rfl | (simp only [LN, NN, NT])
   ·first | (simp (disch := first | assumption | decide | with_unfolding_all rfl | omega | simp only [OZ] <;> omega | fail) only [RR, simprocAttr, LN, NN, NT]; done) | (simp (disch := first | assumption | decide | with_unfolding_all rfl | omega | simp only [OZ] <;> omega | fail) only [RR, simprocAttr, LN, fm_app, NN, NT]; done) | rfl
noncomputable def t28 (fu : Nat) : CallP := orE 49 (mkC (fun (t : (List Int) × (List Int)) => ([.arr t.1.length (lm (ik .i64) t.1), .arr t.2.length (lm (ik .i64) t.2)] : List AV)) (fun t => shape_Broadcast fu t.1 t.2) e49) (orE 27 (mkC (fun (t : List Int) => ([.arr t.length (lm (ik .i64) t)] : List AV)) (fun t => shape_Size fu t) e27) (orE 50 (mkC (fun (t : (List Int) × (List Int) × Int) => ([.arr t.1.length (lm (ik .i64) t.1), .arr t.2.1.length (lm (ik .i64) t.2.1), .v (.int .i64 t.2.2)] : List AV)) (fun t => shape_From fu t.1 t.2.1 t.2.2) e50) (orE 107 (mkC (fun (t : T_mat_grid × Int) => ([.agg (c_T_mat_grid t.1), .v (.int .i64 t.2)] : List AV)) (fun t => mat_grid_down fu t.1 t.2) e107) (orE 108 (mkC (fun (t : T_mat_grid × Int) => ([.agg (c_T_mat_grid t.1), .v (.int .i64 t.2)] : List AV)) (fun t => mat_grid_across fu t.1 t.2) e108) (orE 9 (mkC (fun (t : (List Int) × (List Int)) => ([.arr t.1.length (lm (ik .u32) t.1), .arr t.2.length (lm (ik .u32) t.2)] : List AV)) (fun t => mat_Dot fu t.1 t.2) e9) (noP))))))
theorem t28_ok (fu : Nat) : CpOK Tryz.prog (t28 fu ) := orE_ok (orE_ok (orE_ok (orE_ok (orE_ok (orE_ok (noP_ok) (mkC_ok (fun t b h => ok9 fu t.1 t.2  b h))) (mkC_ok (fun t b h => ok108 fu t.1 t.2  b h))) (mkC_ok (fun t b h => ok107 fu t.1 t.2  b h))) (mkC_ok (fun t b h => ok50 fu t.1 t.2.1 t.2.2  b h))) (mkC_ok (fun t b h => ok27 fu t  b h))) (mkC_ok (fun t b h => ok49 fu t.1 t.2  b h))
theorem ok28 (fu : Nat) (x1 : T_Tensor) (x2 : T_Tensor) (r) (h : mat_product fu x1 x2 = some r) : PureOK Tryz.prog 28 [.agg (c_T_Tensor x1), .agg (c_T_Tensor x2)] (e28 r) :=
  pure_J mixed (cp := t28 fu ) (t28_ok fu  ) (ciE_ok mixed (t28_ok fu  ) (ciE_ok mixed (t28_ok fu  ) noI_ok i52 noI_ok) i51 (ciE_ok mixed (t28_ok fu  ) noI_ok i52 noI_ok)) i28 (w28 _ fu x1 x2  (fun a0 a1 r h => orE_hit (mkC_at (a := (a0, a1)) (by intro a b h; first | (exact rfl) | (simp only [INJ, IJ] at h; first | exact h | (simp_all [Prod.ext_iff]) )) h)) (fun a0 r h => orE_miss (by decide) (orE_hit (mkC_at (a := a0) (by intro a b h; first | (exact rfl) | (simp only [INJ, IJ] at h; first | exact h | (simp_all [Prod.ext_iff]) )) h))) (fun a0 a1 a2 r h => orE_miss (by decide) (orE_miss (by decide) (orE_hit (mkC_at (a := (a0, a1, a2)) (by intro a b h; first | (exact rfl) | (simp only [INJ, IJ] at h; first | exact h | (simp_all [Prod.ext_iff]) )) h)))) (fun a0 a1 r h => orE_miss (by decide) (orE_miss (by decide) (orE_miss (by decide) (orE_hit (mkC_at (a := (a0, a1)) (by intro a b h; first | (exact rfl) | (simp only [INJ, IJ] at h; first | exact h | (simp_all [Prod.ext_iff]) )) h))))) (fun a0 a1 r h => orE_miss (by decide) (orE_miss (by decide) (orE_miss (by decide) (orE_miss (by decide) (orE_hit (mkC_at (a := (a0, a1)) (by intro a b h; first | (exact rfl) | (simp only [INJ, IJ] at h; first | exact h | (simp_all [Prod.ext_iff]) )) h)))))) (fun a0 a1 r h => orE_miss (by decide) (orE_miss (by decide) (orE_miss (by decide) (orE_miss (by decide) (orE_miss (by decide) (orE_hit (mkC_at (a := (a0, a1)) (by intro a b h; first | (exact rfl) | (simp only [INJ, IJ] at h; first | exact h | (simp_all [Prod.ext_iff]) )) h)))))))) h
/-! 11: lattice/mat.Do -/
open Aw (d11)
def d11_at := by have h := tabL Aw.d11.eq_1; simp only [AllAt, Nat.zero_add, Nat.reduceAdd] at h; exact h
theorem i11 : finfo Tryz.prog 11 d11 = some ⟨bodyOf Tryz.f11, [.cell 6 31, .tmp 7], [31, 35]⟩ := finfo_at Tryz.func11 rfl (by kernel_rfl) (by kernel_rfl)
def e11 : (T_Tensor × Int) → AV := fun r => .tuple [.agg [.v (.int .i64 r.1.fType), .arr r.1.fDims.length (lm (ik .i64) r.1.fDims), .arr r.1.fF.length (lm (ik .u32) r.1.fF), .arr r.1.fI.length (lm (ik .i64) r.1.fI), .arr r.1.fB.length (lm (bk) r.1.fB)], .v (.int .i64 r.2)]
set_option maxHeartbeats 20000000 in
theorem w11 (cp : CallP) (fu : Nat) (x1 : Int) (x2 : T_Setting) (x3 : List T_Tensor) (H18_0 : ∀ (a0 : Int) r, mat_Has fu a0 = some r → cp 18 [.v (.int .i64 a0)] = some (.v (.bool r))) (H23_0 : ∀ (a0 : T_Tensor) r, tens_Check fu a0 = some r → cp 23 [.agg (c_T_Tensor a0)] = some (.v (.int .i64 r))) (H24_0 : ∀ (a0 : T_Tensor) r, tens_Canon fu a0 = some r → cp 24 [.agg (c_T_Tensor a0)] = some (.agg [.v (.int .i64 r.fType), .fresh 1 r.fDims.length (lm (ik .i64) r.fDims), .fresh 1 r.fF.length (lm (ik .u32) r.fF), .fresh 1 r.fI.length (lm (ik .i64) r.fI), .fresh 1 r.fB.length (lm (bk) r.fB)])) (H26_0 : ∀ (a0 : List T_Tensor) r, ewise_Vals fu a0 = some r → cp 26 [.arr a0.length (fm c_T_Tensor a0)] = some (.arr r.length (fm c_T_Val r))) (H25_0 : ∀ (a0 : Int) (a1 : T_Setting) (a2 : List T_Val) (a3 : Int) r, infer_Node fu a0 a1 a2 a3 = some r → cp 25 [.v (.int .i64 a0), .agg (c_T_Setting a1), .arr a2.length (fm c_T_Val a2), .v (.int .i64 a3)] = some (.tuple [.arr r.1.length (fm c_T_Val r.1), .v (.int .i64 r.2)])) (H27_0 : ∀ (a0 : List Int) r, shape_Size fu a0 = some r → cp 27 [.arr a0.length (lm (ik .i64) a0)] = some (.tuple [.v (.int .i64 r.1), .v (.int .i64 r.2)])) (H28_0 : ∀ (a0 : T_Tensor) (a1 : T_Tensor) r, mat_product fu a0 a1 = some r → cp 28 [.agg (c_T_Tensor a0), .agg (c_T_Tensor a1)] = some (.fresh 1 r.length (lm (ik .u32) r))) : J (go Tryz.prog noC cp noI 0 [] d11 fu (finS Tryz.prog [.cell 6 31, .tmp 7] [31, 35]) (bodyOf Tryz.f11) (initE 0 [.v (.int .i64 x1), .agg (c_T_Setting x2), .arr x3.length (fm c_T_Tensor x3)]) [] []) (mat_Do fu x1 x2 x3) e11 := by
 unfold mat_Do e11
 refine J.chk fun h1 => ?_
 conv => arg 1; simp (disch := first | assumption | decide | with_unfolding_all rfl | omega | simp only [OZ] <;> omega | fail) only [bodyOf, Tryz.f11, ZZ, d11_at, simprocAttr, SE, h1]
 refine J.eq go_seq ?_
 refine J.bind fun x4 h2 => ?_
 have e_h2 := H18_0 _ _ h2
 try simp only [NN, NT, LN, simprocAttr, DT] at e_h2
 conv => arg 1; simp (disch := first | assumption | decide | with_unfolding_all rfl | omega | simp only [OZ] <;> omega | fail) only [ZZ, d11_at, simprocAttr, SE, h1, e_h2]
 refine J.ite (fun h3 => ?_) (fun h3 => ?_)
 ·have h3' : x4 = true := h3
  conv => arg 1; simp (disch := first | assumption | decide | with_unfolding_all rfl | omega | simp only [OZ] <;> omega | fail) only [ZZ, d11_at, simprocAttr, SE, h1, e_h2, h3']
  refine J.eq ret_seq ?_
  conv => arg 1; simp (disch := first | assumption | decide | with_unfolding_all rfl | omega | simp only [OZ] <;> omega | fail) only [ZZ, d11_at, simprocAttr, SE, h1, e_h2, h3']
  refine J.joinS (fun (t : List T_Tensor) => ([(0, .v (.int .i64 73)), (2, .arr x3.length (fm c_T_Tensor x3)), (4, .ptr (0, 4, 0) 0 0), (6, .ptr (0, 6, 0) 0 0), (8, .own (0, 8, 77) 0 t.length t.length)], [((0, 4, 0), .bx true ([.v (.int .i64 x2.fAxis), .arr x2.fAxes.length (lm (ik .i64) x2.fAxes), .v (.bool x2.fHasAxes), .v (.bool x2.fKeep), .v (.bool x2.fNoop), .v (.bool x2.fLast), .v (.bool x2.fZero), .arr x2.fPerm.length (lm (ik .i64) x2.fPerm), .v (.bool x2.fHasPerm), .v (.int .u32 x2.fAlpha), .v (.int .u32 x2.fBeta), .v (.int .u32 x2.fEpsilon), .v (.bool x2.fLow), .v (.bool x2.fHigh), .v (.bool x2.fFmod), .v (.int .i64 x2.fTo), .v (.int .i64 x2.fMode), .v (.bool x2.fTransA), .v (.bool x2.fTransB), .v (.int .i64 x2.fGroup), .arr x2.fKernel.length (lm (ik .i64) x2.fKernel), .arr x2.fStrides.length (lm (ik .i64) x2.fStrides), .arr x2.fPads.length (lm (ik .i64) x2.fPads), .arr x2.fDilations.length (lm (ik .i64) x2.fDilations), .v (.int .i64 x2.fAuto), .v (.bool x2.fCeil), .v (.bool x2.fCount), .v (.int .i64 x2.fBlock), .v (.int .i64 x2.fStart), .v (.int .i64 x2.fEnd), .v (.bool x2.fHasEnd), .v (.int .i64 x2.fValue.fType), .arr x2.fValue.fDims.length (lm (ik .i64) x2.fValue.fDims), .arr x2.fValue.fF.length (lm (ik .u32) x2.fValue.fF), .arr x2.fValue.fI.length (lm (ik .i64) x2.fValue.fI), .arr x2.fValue.fB.length (lm (bk) x2.fValue.fB)])), ((0, 6, 0), .bx true ([.v (.int .i64 0), .v (.slice none 0 0), .v (.slice none 0 0), .v (.slice none 0 0), .v (.slice none 0 0)])), ((0, 8, 77), .sl true true 5 t.length (fm c_T_Tensor t))])) (fun t => mat_Do_k1 fu x2 x3 t) ?_ (fun hj1 => ?_)
  ·rintro x5
   show J _ (mat_Do_k1 fu x2 x3 x5) _
   unfold mat_Do_k1
   refine J.bind fun x6 h4 => ?_
   have e_h4 := H26_0 _ _ h4
   try simp only [NN, NT, LN, simprocAttr, DT] at e_h4
   refine J.bind fun x7 h5 => ?_
   have e_h5 := H25_0 _ _ _ _ _ h5
   try simp only [NN, NT, LN, simprocAttr, DT] at e_h5
   conv => arg 1; simp (disch := first | assumption | decide | with_unfolding_all rfl | omega | simp only [OZ] <;> omega | fail) only [ZZ, d11_at, simprocAttr, SE, h1, e_h2, h3', e_h4, e_h5]
   refine J.eq go_seq ?_
   conv => arg 1; simp (disch := first | assumption | decide | with_unfolding_all rfl | omega | simp only [OZ] <;> omega | fail) only [ZZ, d11_at, simprocAttr, SE, h1, e_h2, h3', e_h4, e_h5]
   refine J.ite (fun h6 => ?_) (fun h6 => ?_)
   ·have h6' := decide_eq_true h6
    conv => arg 1; simp (disch := first | assumption | decide | with_unfolding_all rfl | omega | simp only [OZ] <;> omega | fail) only [ZZ, d11_at, simprocAttr, SE, h1, e_h2, h3', e_h4, e_h5, h6']
    refine J.eq ret_seq ?_
    refine J.at fun x8 h7 h8 h9 => ?_
    replace h9 : x7.1[0]? = some x8 := h9
    have h9k := fm_cut c_T_Val_len h9
    have h9f := fm_fit c_T_Val_len h9
    have h9a0 := fm_at (j := 0) c_T_Val_len h9 (by decide)
    have h9a1 := fm_at (j := 1) c_T_Val_len h9 (by decide)
    have h9a2 := fm_at (j := 2) c_T_Val_len h9 (by decide)
    have h9a3 := fm_at (j := 3) c_T_Val_len h9 (by decide)
    have h9a4 := fm_at (j := 4) c_T_Val_len h9 (by decide)
    have h9a5 := fm_at (j := 5) c_T_Val_len h9 (by decide)
    have h9a6 := fm_at (j := 6) c_T_Val_len h9 (by decide)
    have h9a7 := fm_at (j := 7) c_T_Val_len h9 (by decide)
    simp only [simprocAttr, Nat.zero_mul, Nat.zero_add, Nat.add_zero, List.drop_zero] at h9k h9f h9a0 h9a1 h9a2 h9a3 h9a4 h9a5 h9a6 h9a7
    conv => arg 1; simp (disch := first | assumption | decide | with_unfolding_all rfl | omega | simp only [OZ] <;> omega | fail) only [ZZ, d11_at, simprocAttr, SE, h1, e_h2, h3', e_h4, e_h5, h6', h9k, h9f, h9a0, h9a1, h9a2, h9a3, h9a4, h9a5, h9a6, h9a7]
    refine J.eq go_seq ?_
    refine J.bind fun x9 h10 => ?_
    have e_h10 := H27_0 _ _ h10
    try simp only [NN, NT, LN, simprocAttr, DT] at e_h10
    conv => arg 1; simp (disch := first | assumption | decide | with_unfolding_all rfl | omega | simp only [OZ] <;> omega | fail) only [ZZ, d11_at, simprocAttr, SE, h1, e_h2, h3', e_h4, e_h5, h6', h9k, h9f, h9a0, h9a1, h9a2, h9a3, h9a4, h9a5, h9a6, h9a7, e_h10]
    refine J.ite (fun h11 => ?_) (fun h11 => ?_)
    ·have h11' := decide_eq_true h11
     refine J.some ?_
     simp (maxSteps := 20000000) (disch := first | assumption | decide | with_unfolding_all rfl | omega | simp only [OZ] <;> omega | fail) only [ZZ, d11_at, simprocAttr, SE, h1, e_h2, h3', e_h4, e_h5, h6', h9k, h9f, h9a0, h9a1, h9a2, h9a3, h9a4, h9a5, h9a6, h9a7, e_h10, h11', FF, LN, NN, NT]
    ·have h11' := decide_eq_false h11
     conv => arg 1; simp (disch := first | assumption | decide | with_unfolding_all rfl | omega | simp only [OZ] <;> omega | fail) only [ZZ, d11_at, simprocAttr, SE, h1, e_h2, h3', e_h4, e_h5, h6', h9k, h9f, h9a0, h9a1, h9a2, h9a3, h9a4, h9a5, h9a6, h9a7, e_h10, h11']
     refine J.eq ret_seq ?_
     refine J.eq go_seq ?_
     refine J.at fun x10 h12 h13 h14 => ?_
     replace h14 : x5[0]? = some x10 := h14
     have h14k := fm_cut c_T_Tensor_len h14
     have h14f := fm_fit c_T_Tensor_len h14
     have h14a0 := fm_at (j := 0) c_T_Tensor_len h14 (by decide)
     have h14a1 := fm_at (j := 1) c_T_Tensor_len h14 (by decide)
     have h14a2 := fm_at (j := 2) c_T_Tensor_len h14 (by decide)
     have h14a3 := fm_at (j := 3) c_T_Tensor_len h14 (by decide)
     have h14a4 := fm_at (j := 4) c_T_Tensor_len h14 (by decide)
     simp only [simprocAttr, Nat.zero_mul, Nat.zero_add, Nat.add_zero, List.drop_zero] at h14k h14f h14a0 h14a1 h14a2 h14a3 h14a4
     refine J.at fun x11 h15 h16 h17 => ?_
     replace h17 : x5[1]? = some x11 := h17
     have h17k := fm_cut c_T_Tensor_len h17
     have h17f := fm_fit c_T_Tensor_len h17
     have h17a0 := fm_at (j := 0) c_T_Tensor_len h17 (by decide)
     have h17a1 := fm_at (j := 1) c_T_Tensor_len h17 (by decide)
     have h17a2 := fm_at (j := 2) c_T_Tensor_len h17 (by decide)
     have h17a3 := fm_at (j := 3) c_T_Tensor_len h17 (by decide)
     have h17a4 := fm_at (j := 4) c_T_Tensor_len h17 (by decide)
     simp only [simprocAttr, Nat.zero_mul, Nat.zero_add, Nat.add_zero, List.drop_zero] at h17k h17f h17a0 h17a1 h17a2 h17a3 h17a4
     refine J.bind fun x12 h18 => ?_
     have e_h18 := H28_0 _ _ _ h18
     try simp only [NN, NT, LN, simprocAttr, DT] at e_h18
     conv => arg 1; simp (disch := first | assumption | decide | with_unfolding_all rfl | omega | simp only [OZ] <;> omega | fail) only [ZZ, d11_at, simprocAttr, SE, h1, e_h2, h3', e_h4, e_h5, h6', h9k, h9f, h9a0, h9a1, h9a2, h9a3, h9a4, h9a5, h9a6, h9a7, e_h10, h11', h14k, h14f, h14a0, h14a1, h14a2, h14a3, h14a4, h17k, h17f, h17a0, h17a1, h17a2, h17a3, h17a4, e_h18]
     refine J.eq ret_seq ?_
     refine J.some ?_
     simp (maxSteps := 20000000) (disch := first | assumption | decide | with_unfolding_all rfl | omega | simp only [OZ] <;> omega | fail) only [ZZ, d11_at, simprocAttr, SE, h1, e_h2, h3', e_h4, e_h5, h6', h9k, h9f, h9a0, h9a1, h9a2, h9a3, h9a4, h9a5, h9a6, h9a7, e_h10, h11', h14k, h14f, h14a0, h14a1, h14a2, h14a3, h14a4, h17k, h17f, h17a0, h17a1, h17a2, h17a3, h17a4, e_h18, FF, LN, NN, NT]
   ·have h6' := decide_eq_false h6
    refine J.some ?_
    simp (maxSteps := 20000000) (disch := first | assumption | decide | with_unfolding_all rfl | omega | simp only [OZ] <;> omega | fail) only [ZZ, d11_at, simprocAttr, SE, h1, e_h2, h3', e_h4, e_h5, h6', FF, LN, NN, NT]
  ·conv => arg 1; simp (disch := first | assumption | decide | with_unfolding_all rfl | omega | simp only [OZ] <;> omega | fail) only [ZZ, d11_at, simprocAttr, SE, h1, e_h2, h3']
   unfold mat_Do_W1
   refine J.loop (fun (s : (List T_Tensor) × Int) => ([(0, .v (.int .i64 73)), (2, .arr x3.length (fm c_T_Tensor x3)), (4, .ptr (0, 4, 0) 0 0), (6, .ptr (0, 6, 0) 0 0), (8, .own (0, 8, 77) 0 s.1.length s.1.length), (21, .arr x3.length (fm c_T_Tensor x3)), (22, .v (.int .i64 (x3.length : Int))), (23, .v (.int .i64 s.2))], [((0, 4, 0), .bx true ([.v (.int .i64 x2.fAxis), .arr x2.fAxes.length (lm (ik .i64) x2.fAxes), .v (.bool x2.fHasAxes), .v (.bool x2.fKeep), .v (.bool x2.fNoop), .v (.bool x2.fLast), .v (.bool x2.fZero), .arr x2.fPerm.length (lm (ik .i64) x2.fPerm), .v (.bool x2.fHasPerm), .v (.int .u32 x2.fAlpha), .v (.int .u32 x2.fBeta), .v (.int .u32 x2.fEpsilon), .v (.bool x2.fLow), .v (.bool x2.fHigh), .v (.bool x2.fFmod), .v (.int .i64 x2.fTo), .v (.int .i64 x2.fMode), .v (.bool x2.fTransA), .v (.bool x2.fTransB), .v (.int .i64 x2.fGroup), .arr x2.fKernel.length (lm (ik .i64) x2.fKernel), .arr x2.fStrides.length (lm (ik .i64) x2.fStrides), .arr x2.fPads.length (lm (ik .i64) x2.fPads), .arr x2.fDilations.length (lm (ik .i64) x2.fDilations), .v (.int .i64 x2.fAuto), .v (.bool x2.fCeil), .v (.bool x2.fCount), .v (.int .i64 x2.fBlock), .v (.int .i64 x2.fStart), .v (.int .i64 x2.fEnd), .v (.bool x2.fHasEnd), .v (.int .i64 x2.fValue.fType), .arr x2.fValue.fDims.length (lm (ik .i64) x2.fValue.fDims), .arr x2.fValue.fF.length (lm (ik .u32) x2.fValue.fF), .arr x2.fValue.fI.length (lm (ik .i64) x2.fValue.fI), .arr x2.fValue.fB.length (lm (bk) x2.fValue.fB)])), ((0, 6, 0), .bx true ([.v (.int .i64 0), .v (.slice none 0 0), .v (.slice none 0 0), .v (.slice none 0 0), .v (.slice none 0 0)])), ((0, 8, 77), .sl true true 5 s.1.length (fm c_T_Tensor s.1))])) (fun next s => mat_Do_L1 fu x2 x3 (fun x17 x18 => next (x17, x18)) s.1 s.2) (s0 := (([] : List T_Tensor), 0)) ?_ ?_ ?_
   ·first | rfl | (simp only [LN, NN, NT])
   ·first | (simp (disch := first | assumption | decide | with_unfolding_all rfl | omega | simp only [OZ] <;> omega | fail) only [RR, simprocAttr, LN, NN, NT]; done) | (simp (disch := first | assumption | decide | with_unfolding_all rfl | omega | simp only [OZ] <;> omega | fail) only [RR, simprocAttr, LN, fm_app, NN, NT]; done) | rfl
   rintro next k1 hn1 ⟨x17, x18⟩
   let nx1 : (List T_Tensor) → Int → Option (T_Tensor × Int) := (fun x17 x18 => next (x17, x18))
   show J _ (mat_Do_L1 fu x2 x3 nx1 x17 x18) _
   unfold mat_Do_L1
   conv => arg 1; simp (disch := first | assumption | decide | with_unfolding_all rfl | omega | simp only [OZ] <;> omega | fail) only [ZZ, d11_at, simprocAttr, SE, h1, e_h2, h3']
   refine J.eq go_seq ?_
   conv => arg 1; simp (disch := first | assumption | decide | with_unfolding_all rfl | omega | simp only [OZ] <;> omega | fail) only [ZZ, d11_at, simprocAttr, SE, h1, e_h2, h3']
   refine J.ite (fun h19 => ?_) (fun h19 => ?_)
   ·have h19' := decide_eq_true h19
    have h19'' : decide ((x3.length : Int) ≤ x18) = false := decide_eq_false (by omega)
    conv => arg 1; simp (disch := first | assumption | decide | with_unfolding_all rfl | omega | simp only [OZ] <;> omega | fail) only [ZZ, d11_at, simprocAttr, SE, h1, e_h2, h3', h19'', h19']
    refine J.eq ret_seq ?_
    refine J.eq go_seq ?_
    refine J.at fun x23 h20 h21 h22 => ?_
    conv => arg 1; simp (disch := first | assumption | decide | with_unfolding_all rfl | omega | simp only [OZ] <;> omega | fail) only [ZZ, d11_at, simprocAttr, SE, h1, e_h2, h3', h19'', h19', fm_cut c_T_Tensor_len h22, fm_fit c_T_Tensor_len h22, fm_at c_T_Tensor_len h22, fm_at0 c_T_Tensor_len h22]
    refine J.eq go_seq ?_
    conv => arg 1; simp (disch := first | assumption | decide | with_unfolding_all rfl | omega | simp only [OZ] <;> omega | fail) only [ZZ, d11_at, simprocAttr, SE, h1, e_h2, h3', h19'', h19', fm_cut c_T_Tensor_len h22, fm_fit c_T_Tensor_len h22, fm_at c_T_Tensor_len h22, fm_at0 c_T_Tensor_len h22]
    refine J.ite (fun h23 => ?_) (fun h23 => ?_)
    ·have h23' := decide_eq_true h23
     conv => arg 1; simp (disch := first | assumption | decide | with_unfolding_all rfl | omega | simp only [OZ] <;> omega | fail) only [ZZ, d11_at, simprocAttr, SE, h1, e_h2, h3', h19'', h19', fm_cut c_T_Tensor_len h22, fm_fit c_T_Tensor_len h22, fm_at c_T_Tensor_len h22, fm_at0 c_T_Tensor_len h22, h23']
     refine J.eq ret_seq ?_
     refine J.bind fun x24 h24 => ?_
     have e_h24 := H24_0 _ _ h24
     try simp only [NN, NT, LN, simprocAttr, DT] at e_h24
     refine J.chk fun h25 => ?_
     conv => arg 1; simp (disch := first | assumption | decide | with_unfolding_all rfl | omega | simp only [OZ] <;> omega | fail) only [ZZ, d11_at, simprocAttr, SE, h1, e_h2, h3', h19'', h19', fm_cut c_T_Tensor_len h22, fm_fit c_T_Tensor_len h22, fm_at c_T_Tensor_len h22, fm_at0 c_T_Tensor_len h22, h23', e_h24]
     refine J.eq ret_seq ?_
     conv => arg 1; simp (disch := first | assumption | decide | with_unfolding_all rfl | omega | simp only [OZ] <;> omega | fail) only [ZZ, d11_at, simprocAttr, SE, h1, e_h2, h3', h19'', h19', fm_cut c_T_Tensor_len h22, fm_fit c_T_Tensor_len h22, fm_at c_T_Tensor_len h22, fm_at0 c_T_Tensor_len h22, h23', e_h24]
     refine J.next (s := (x17 ++ ([x24]), wk .i64 (x18 + 1))) hn1 ?_ ?_
     ·first | rfl | (simp only [LN, NN, NT])
     ·first | (simp (disch := first | assumption | decide | with_unfolding_all rfl | omega | simp only [OZ] <;> omega | fail) only [RR, simprocAttr, LN, NN, NT]; done) | (simp (disch := first | assumption | decide | with_unfolding_all rfl | omega | simp only [OZ] <;> omega | fail) only [RR, simprocAttr, LN, fm_app, NN, NT]; done) | rfl
    ·have h23' := decide_eq_false h23
     refine J.bind fun x25 h26 => ?_
     have e_h26 := H23_0 _ _ h26
     try simp only [NN, NT, LN, simprocAttr, DT] at e_h26
     conv => arg 1; simp (disch := first | assumption | decide | with_unfolding_all rfl | omega | simp only [OZ] <;> omega | fail) only [ZZ, d11_at, simprocAttr, SE, h1, e_h2, h3', h19'', h19', fm_cut c_T_Tensor_len h22, fm_fit c_T_Tensor_len h22, fm_at c_T_Tensor_len h22, fm_at0 c_T_Tensor_len h22, h23', e_h26]
     refine J.ite (fun h27 => ?_) (fun h27 => ?_)
     ·have h27' := decide_eq_true h27
      conv => arg 1; simp (disch := first | assumption | decide | with_unfolding_all rfl | omega | simp only [OZ] <;> omega | fail) only [ZZ, d11_at, simprocAttr, SE, h1, e_h2, h3', h19'', h19', fm_cut c_T_Tensor_len h22, fm_fit c_T_Tensor_len h22, fm_at c_T_Tensor_len h22, fm_at0 c_T_Tensor_len h22, h23', e_h26, h27']
      refine J.eq ret_seq ?_
      refine J.bind fun x26 h28 => ?_
      have e_h28 := H24_0 _ _ h28
      try simp only [NN, NT, LN, simprocAttr, DT] at e_h28
      refine J.chk fun h29 => ?_
      conv => arg 1; simp (disch := first | assumption | decide | with_unfolding_all rfl | omega | simp only [OZ] <;> omega | fail) only [ZZ, d11_at, simprocAttr, SE, h1, e_h2, h3', h19'', h19', fm_cut c_T_Tensor_len h22, fm_fit c_T_Tensor_len h22, fm_at c_T_Tensor_len h22, fm_at0 c_T_Tensor_len h22, h23', e_h26, h27', e_h28]
      refine J.eq ret_seq ?_
      conv => arg 1; simp (disch := first | assumption | decide | with_unfolding_all rfl | omega | simp only [OZ] <;> omega | fail) only [ZZ, d11_at, simprocAttr, SE, h1, e_h2, h3', h19'', h19', fm_cut c_T_Tensor_len h22, fm_fit c_T_Tensor_len h22, fm_at c_T_Tensor_len h22, fm_at0 c_T_Tensor_len h22, h23', e_h26, h27', e_h28]
      refine J.next (s := (x17 ++ ([x26]), wk .i64 (x18 + 1))) hn1 ?_ ?_
      ·first | rfl | (simp only [LN, NN, NT])
      ·first | (simp (disch := first | assumption | decide | with_unfolding_all rfl | omega | simp only [OZ] <;> omega | fail) only [RR, simprocAttr, LN, NN, NT]; done) | (simp (disch := first | assumption | decide | with_unfolding_all rfl | omega | simp only [OZ] <;> omega | fail) only [RR, simprocAttr, LN, fm_app, NN, NT]; done) | rfl
     ·have h27' := decide_eq_false h27
      refine J.some ?_
      simp (maxSteps := 20000000) (disch := first | assumption | decide | with_unfolding_all rfl | omega | simp only [OZ] <;> omega | fail) only [ZZ, d11_at, simprocAttr, SE, h1, e_h2, h3', h19'', h19', fm_cut c_T_Tensor_len h22, fm_fit c_T_Tensor_len h22, fm_at c_T_Tensor_len h22, fm_at0 c_T_Tensor_len h22, h23', e_h26, h27', FF, LN, NN, NT]
   ·have h19' := decide_eq_false h19
    have h19'' : decide ((x3.length : Int) ≤ x18) = true := decide_eq_true (by omega)
    conv => arg 1; simp (disch := first | assumption | decide | with_unfolding_all rfl | omega | simp only [OZ] <;> omega | fail) only [ZZ, d11_at, simprocAttr, SE, h1, e_h2, h3', h19'', h19']
    refine J.jmp (t := x17) hj1 ?_ ?_
    ·first | rfl | (simp only [LN, NN, NT])
    ·first | (simp (disch := first | assumption | decide | with_unfolding_all rfl | omega | simp only [OZ] <;> omega | fail) only [RR, simprocAttr, LN, NN, NT]; done) | (simp (disch := first | assumption | decide | with_unfolding_all rfl | omega | simp only [OZ] <;> omega | fail) only [RR, simprocAttr, LN, fm_app, NN, NT]; done) | rfl
 ·have h3' : x4 = false := Bool.eq_false_iff.2 h3
  refine J.some ?_
  simp (maxSteps := 20000000) (disch := first | assumption | decide | with_unfolding_all rfl | omega | simp only [OZ] <;> omega | fail) only [ZZ, d11_at, simprocAttr, SE, h1, e_h2, h3', FF, LN, NN, NT]
noncomputable def t11 (fu : Nat) : CallP := orE 18 (mkC (fun (t : Int) => ([.v (.int .i64 t)] : List AV)) (fun t => mat_Has fu t) e18) (orE 23 (mkC (fun (t : T_Tensor) => ([.agg (c_T_Tensor t)] : List AV)) (fun t => tens_Check fu t) e23) (orE 24 (mkC (fun (t : T_Tensor) => ([.agg (c_T_Tensor t)] : List AV)) (fun t => tens_Canon fu t) e24) (orE 26 (mkC (fun (t : List T_Tensor) => ([.arr t.length (fm c_T_Tensor t)] : List AV)) (fun t => ewise_Vals fu t) e26) (orE 25 (mkC (fun (t : Int × T_Setting × (List T_Val) × Int) => ([.v (.int .i64 t.1), .agg (c_T_Setting t.2.1), .arr t.2.2.1.length (fm c_T_Val t.2.2.1), .v (.int .i64 t.2.2.2)] : List AV)) (fun t => infer_Node fu t.1 t.2.1 t.2.2.1 t.2.2.2) e25) (orE 27 (mkC (fun (t : List Int) => ([.arr t.length (lm (ik .i64) t)] : List AV)) (fun t => shape_Size fu t) e27) (orE 28 (mkC (fun (t : T_Tensor × T_Tensor) => ([.agg (c_T_Tensor t.1), .agg (c_T_Tensor t.2)] : List AV)) (fun t => mat_product fu t.1 t.2) e28) (noP)))))))
theorem t11_ok (fu : Nat) : CpOK Tryz.prog (t11 fu ) := orE_ok (orE_ok (orE_ok (orE_ok (orE_ok (orE_ok (orE_ok (noP_ok) (mkC_ok (fun t b h => ok28 fu t.1 t.2  b h))) (mkC_ok (fun t b h => ok27 fu t  b h))) (mkC_ok (fun t b h => ok25 fu t.1 t.2.1 t.2.2.1 t.2.2.2  b h))) (mkC_ok (fun t b h => ok26 fu t  b h))) (mkC_ok (fun t b h => ok24 fu t  b h))) (mkC_ok (fun t b h => ok23 fu t  b h))) (mkC_ok (fun t b h => ok18 fu t  b h))
theorem ok11 (fu : Nat) (x1 : Int) (x2 : T_Setting) (x3 : List T_Tensor) (r) (h : mat_Do fu x1 x2 x3 = some r) : PureOK Tryz.prog 11 [.v (.int .i64 x1), .agg (c_T_Setting x2), .arr x3.length (fm c_T_Tensor x3)] (e11 r) :=
  pureS_J mixed (cp := t11 fu ) (t11_ok fu  ) noI_ok i11 (w11 _ fu x1 x2 x3  (fun a0 r h => orE_hit (mkC_at (a := a0) (by intro a b h; first | (exact rfl) | (simp only [INJ, IJ] at h; first | exact h | (simp_all [Prod.ext_iff]) )) h)) (fun a0 r h => orE_miss (by decide) (orE_hit (mkC_at (a := a0) (by intro a b h; first | (exact rfl) | (simp only [INJ, IJ] at h; first | exact h | (simp_all [Prod.ext_iff]) )) h))) (fun a0 r h => orE_miss (by decide) (orE_miss (by decide) (orE_hit (mkC_at (a := a0) (by intro a b h; first | (exact rfl) | (simp only [INJ, IJ] at h; first | exact h | (simp_all [Prod.ext_iff]) )) h)))) (fun a0 r h => orE_miss (by decide) (orE_miss (by decide) (orE_miss (by decide) (orE_hit (mkC_at (a := a0) (by intro a b h; first | (exact rfl) | (simp only [INJ, IJ] at h; first | exact h | (simp_all [Prod.ext_iff]) )) h))))) (fun a0 a1 a2 a3 r h => orE_miss (by decide) (orE_miss (by decide) (orE_miss (by decide) (orE_miss (by decide) (orE_hit (mkC_at (a := (a0, a1, a2, a3)) (by intro a b h; first | (exact rfl) | (simp only [INJ, IJ] at h; first | exact h | (simp_all [Prod.ext_iff]) )) h)))))) (fun a0 r h => orE_miss (by decide) (orE_miss (by decide) (orE_miss (by decide) (orE_miss (by decide) (orE_miss (by decide) (orE_hit (mkC_at (a := a0) (by intro a b h; first | (exact rfl) | (simp only [INJ, IJ] at h; first | exact h | (simp_all [Prod.ext_iff]) )) h))))))) (fun a0 a1 r h => orE_miss (by decide) (orE_miss (by decide) (orE_miss (by decide) (orE_miss (by decide) (orE_miss (by decide) (orE_miss (by decide) (orE_hit (mkC_at (a := (a0, a1)) (by intro a b h; first | (exact rfl) | (simp only [INJ, IJ] at h; first | exact h | (simp_all [Prod.ext_iff]) )) h))))))))) h
/-! 16: lattice/latticelaw14.floats -/
open Aw (d16)
def d16_at := by have h := tabL Aw.d16.eq_1; simp only [AllAt, Nat.zero_add, Nat.reduceAdd] at h; exact h
theorem i16 : finfo Tryz.prog 16 d16 = some ⟨bodyOf Tryz.f16, [.cell 4 31], [31]⟩ := finfo_at Tryz.func16 rfl (by kernel_rfl) (by kernel_rfl)
def e16 : T_Tensor → AV := fun r => .agg [.v (.int .i64 r.fType), .arr r.fDims.length (lm (ik .i64) r.fDims), .arr r.fF.length (lm (ik .u32) r.fF), .arr r.fI.length (lm (ik .i64) r.fI), .arr r.fB.length (lm (bk) r.fB)]
set_option maxHeartbeats 20000000 in
theorem w16 (cp : CallP) (fu : Nat) (x1 : List Int) (x2 : List Int) : J (go Tryz.prog noC cp noI 0 [] d16 fu (finS Tryz.prog [.cell 4 31] [31]) (bodyOf Tryz.f16) (initE 0 [.arr x1.length (lm (ik .i64) x1), .arr x2.length (lm (ik .u32) x2)]) [] []) (law14_floats fu x1 x2) e16 := by
 unfold law14_floats e16
 refine J.some ?_
 simp (maxSteps := 20000000) (disch := first | assumption | decide | with_unfolding_all rfl | omega | simp only [OZ] <;> omega | fail) only [bodyOf, Tryz.f16, ZZ, d16_at, simprocAttr, SE, FF, LN, NN, NT]
noncomputable def t16 (fu : Nat) : CallP := noP
theorem t16_ok (fu : Nat) : CpOK Tryz.prog (t16 fu ) := noP_ok
theorem ok16 (fu : Nat) (x1 : List Int) (x2 : List Int) (r) (h : law14_floats fu x1 x2 = some r) : PureOK Tryz.prog 16 [.arr x1.length (lm (ik .i64) x1), .arr x2.length (lm (ik .u32) x2)] (e16 r) :=
  pureS_J mixed (cp := t16 fu ) (t16_ok fu  ) noI_ok i16 (w16 _ fu x1 x2  ) h
/-! 17: lattice/latticeref04.SameInts -/
def d17 : List (Nat × List Nat) := [(0, [4]), (0, [0, 1, 5]), (0, [6, 7, 8, 9]), (0, []), (0, []), (0, []), (0, []), (0, []), (0, [11, 12, 13]), (0, []), (0, [15, 16]), (0, []), (9, [17, 18, 19, 20, 21, 22, 23, 24]), (0, []), (0, []), (0, []), (0, [])]
def d17_at := by have h := tabL d17.eq_1; simp only [AllAt, Nat.zero_add, Nat.reduceAdd] at h; exact h
theorem i17 : finfo Tryz.prog 17 d17 = some ⟨bodyOf Tryz.f17, [.tmp 4], [4]⟩ := finfo_at Tryz.func17 rfl (by kernel_rfl) (by kernel_rfl)
def e17 : Bool → AV := fun r => .v (.bool r)
set_option maxHeartbeats 20000000 in
theorem w17 (cp : CallP) (fu : Nat) (x1 : List Int) (x2 : List Int) : J (go Tryz.prog noC cp noI 0 [] d17 fu (fin Tryz.prog [.tmp 4] [4]) (bodyOf Tryz.f17) (initE 0 [.arr x1.length (lm (ik .i64) x1), .arr x2.length (lm (ik .i64) x2)]) [] []) (ref04_SameInts fu x1 x2) e17 := by
 unfold ref04_SameInts e17
 conv => arg 1; simp (disch := first | assumption | decide | with_unfolding_all rfl | omega | simp only [OZ] <;> omega | fail) only [bodyOf, Tryz.f17, ZZ, d17_at, simprocAttr]
 refine J.eq go_seq ?_
 conv => arg 1; simp (disch := first | assumption | decide | with_unfolding_all rfl | omega | simp only [OZ] <;> omega | fail) only [ZZ, d17_at, simprocAttr]
 refine J.ite (fun h1 => ?_) (fun h1 => ?_)
 ·have h1' := decide_eq_true h1
  conv => arg 1; simp (disch := first | assumption | decide | with_unfolding_all rfl | omega | simp only [OZ] <;> omega | fail) only [ZZ, d17_at, simprocAttr, h1']
  refine J.eq ret_seq ?_
  refine J.eq go_seq ?_
  conv => arg 1; simp (disch := first | assumption | decide | with_unfolding_all rfl | omega | simp only [OZ] <;> omega | fail) only [ZZ, d17_at, simprocAttr, h1']
  unfold ref04_SameInts_W1
  refine J.loop (fun (s : Int) => ([(0, .arr x1.length (lm (ik .i64) x1)), (1, .arr x2.length (lm (ik .i64) x2)), (5, .v (.int .i64 s))], [])) (fun next s => ref04_SameInts_L1 fu x1 x2 next s) (s0 := 0) ?_ ?_ ?_
  ·first | rfl | (simp only [LN, NN, NT])
  ·first | (simp (disch := first | assumption | decide | with_unfolding_all rfl | omega | simp only [OZ] <;> omega | fail) only [RR, simprocAttr, LN, NN, NT]; done) | (simp (disch := first | assumption | decide | with_unfolding_all rfl | omega | simp only [OZ] <;> omega | fail) only [RR, simprocAttr, LN, fm_app, NN, NT]; done) | rfl
  rintro nx1 k1 hn1 x5
  show J _ (ref04_SameInts_L1 fu x1 x2 nx1 x5) _
  unfold ref04_SameInts_L1
  refine J.eq go_seq ?_
  conv => arg 1; simp (disch := first | assumption | decide | with_unfolding_all rfl | omega | simp only [OZ] <;> omega | fail) only [ZZ, d17_at, simprocAttr, h1']
  refine J.ite (fun h2 => ?_) (fun h2 => ?_)
  ·have h2' := decide_eq_true h2
   have h2'' : decide ((x1.length : Int) ≤ x5) = false := decide_eq_false (by omega)
   conv => arg 1; simp (disch := first | assumption | decide | with_unfolding_all rfl | omega | simp only [OZ] <;> omega | fail) only [ZZ, d17_at, simprocAttr, h1', h2'', h2']
   refine J.eq ret_seq ?_
   refine J.eq go_seq ?_
   refine J.at fun x8 h3 h4 h5 => ?_
   refine J.at fun x9 h6 h7 h8 => ?_
   conv => arg 1; simp (disch := first | assumption | decide | with_unfolding_all rfl | omega | simp only [OZ] <;> omega | fail) only [ZZ, d17_at, simprocAttr, h1', h2'', h2', lm_ik h5, lm_ik h8]
   refine J.ite (fun h9 => ?_) (fun h9 => ?_)
   ·have h9' := decide_eq_true h9
    conv => arg 1; simp (disch := first | assumption | decide | with_unfolding_all rfl | omega | simp only [OZ] <;> omega | fail) only [ZZ, d17_at, simprocAttr, h1', h2'', h2', lm_ik h5, lm_ik h8, h9']
    refine J.eq ret_seq ?_
    conv => arg 1; simp (disch := first | assumption | decide | with_unfolding_all rfl | omega | simp only [OZ] <;> omega | fail) only [ZZ, d17_at, simprocAttr, h1', h2'', h2', lm_ik h5, lm_ik h8, h9']
    refine J.next (s := wk .i64 (x5 + 1)) hn1 ?_ ?_
    ·first | rfl | (simp only [LN, NN, NT])
    ·first | (simp (disch := first | assumption | decide | with_unfolding_all rfl | omega | simp only [OZ] <;> omega | fail) only [RR, simprocAttr, LN, NN, NT]; done) | (simp (disch := first | assumption | decide | with_unfolding_all rfl | omega | simp only [OZ] <;> omega | fail) only [RR, simprocAttr, LN, fm_app, NN, NT]; done) | rfl
   ·have h9' := decide_eq_false h9
    refine J.some ?_
    simp (maxSteps := 20000000) (disch := first | assumption | decide | with_unfolding_all rfl | omega | simp only [OZ] <;> omega | fail) only [ZZ, d17_at, simprocAttr, h1', h2'', h2', lm_ik h5, lm_ik h8, h9', FF, LN, NN, NT]
  ·have h2' := decide_eq_false h2
   have h2'' : decide ((x1.length : Int) ≤ x5) = true := decide_eq_true (by omega)
   conv => arg 1; simp (disch := first | assumption | decide | with_unfolding_all rfl | omega | simp only [OZ] <;> omega | fail) only [ZZ, d17_at, simprocAttr, h1', h2'', h2']
   refine J.eq ret_seq ?_
   refine J.some ?_
   simp (maxSteps := 20000000) (disch := first | assumption | decide | with_unfolding_all rfl | omega | simp only [OZ] <;> omega | fail) only [ZZ, d17_at, simprocAttr, h1', h2'', h2', FF, LN, NN, NT]
 ·have h1' := decide_eq_false h1
  refine J.some ?_
  simp (maxSteps := 20000000) (disch := first | assumption | decide | with_unfolding_all rfl | omega | simp only [OZ] <;> omega | fail) only [ZZ, d17_at, simprocAttr, h1', FF, LN, NN, NT]
noncomputable def t17 (fu : Nat) : CallP := noP
theorem t17_ok (fu : Nat) : CpOK Tryz.prog (t17 fu ) := noP_ok
theorem ok17 (fu : Nat) (x1 : List Int) (x2 : List Int) (r) (h : ref04_SameInts fu x1 x2 = some r) : PureOK Tryz.prog 17 [.arr x1.length (lm (ik .i64) x1), .arr x2.length (lm (ik .i64) x2)] (e17 r) :=
  pure_J mixed (cp := t17 fu ) (t17_ok fu  ) noI_ok i17 (w17 _ fu x1 x2  ) h
/-! 13: lattice/latticeref05.Same -/
def d13 : List (Nat × List Nat) := [(0, [0, 1, 4]), (0, [5]), (0, [8, 9, 10, 11, 12, 13, 14, 15, 16, 17, 18, 19, 20, 21, 22, 23, 24, 25, 26, 27, 28, 29, 30, 31, 32, 33, 34, 35, 36, 37, 38, 39, 40, 41, 42, 43, 44, 45, 46]), (0, []), (0, []), (0, [6]), (0, []), (0, []), (0, [48, 49, 50, 51]), (0, [2, 3, 7]), (0, [53, 54]), (0, []), (11, [55, 56, 57, 58, 59, 60, 61, 62, 63, 64]), (0, []), (0, []), (0, []), (0, []), (0, []), (0, [66, 67, 68, 69]), (0, []), (0, [71, 72]), (0, []), (11, [73, 74, 75, 76, 77, 78, 79, 80, 81, 82]), (0, []), (0, []), (0, []), (0, []), (0, []), (0, [84, 85, 86, 87]), (0, []), (0, [89, 90]), (0, []), (11, [91, 92, 93, 94, 95, 96, 97, 98, 99, 100]), (0, []), (0, []), (0, []), (0, [])]
def d13_at := by have h := tabL d13.eq_1; simp only [AllAt, Nat.zero_add, Nat.reduceAdd] at h; exact h
theorem i13 : finfo Tryz.prog 13 d13 = some ⟨bodyOf Tryz.f13, [.tmp 4], [4]⟩ := finfo_at Tryz.func13 rfl (by kernel_rfl) (by kernel_rfl)
def e13 : Bool → AV := fun r => .v (.bool r)
set_option maxHeartbeats 20000000 in
theorem w13 (cp : CallP) (fu : Nat) (x1 : T_Tensor) (x2 : T_Tensor) (H17_0 : ∀ (a0 : List Int) (a1 : List Int) r, ref04_SameInts fu a0 a1 = some r → cp 17 [.arr a0.length (lm (ik .i64) a0), .arr a1.length (lm (ik .i64) a1)] = some (.v (.bool r))) : J (go Tryz.prog noC cp noI 0 [] d13 fu (fin Tryz.prog [.tmp 4] [4]) (bodyOf Tryz.f13) (initE 0 [.agg (c_T_Tensor x1), .agg (c_T_Tensor x2)]) [] []) (ref05_Same fu x1 x2) e13 := by
 unfold ref05_Same e13
 conv => arg 1; simp (disch := first | assumption | decide | with_unfolding_all rfl | omega | simp only [OZ] <;> omega | fail) only [bodyOf, Tryz.f13, ZZ, d13_at, simprocAttr]
 refine J.joinS (fun (t : Unit) => ([(2, .ptr (0, 2, 0) 0 0), (3, .ptr (0, 3, 0) 0 0)], [((0, 2, 0), .bx true ([.v (.int .i64 x1.fType), .arr x1.fDims.length (lm (ik .i64) x1.fDims), .arr x1.fF.length (lm (ik .u32) x1.fF), .arr x1.fI.length (lm (ik .i64) x1.fI), .arr x1.fB.length (lm (bk) x1.fB)])), ((0, 3, 0), .bx true ([.v (.int .i64 x2.fType), .arr x2.fDims.length (lm (ik .i64) x2.fDims), .arr x2.fF.length (lm (ik .u32) x2.fF), .arr x2.fI.length (lm (ik .i64) x2.fI), .arr x2.fB.length (lm (bk) x2.fB)]))])) (fun t => ref05_Same_k1 fu x1 x2) ?_ (fun hj1 => ?_)
 ·rintro ⟨⟩
  show J _ (ref05_Same_k1 fu x1 x2) _
  unfold ref05_Same_k1
  refine J.joinS (fun (t : Unit) => ([(2, .ptr (0, 2, 0) 0 0), (3, .ptr (0, 3, 0) 0 0)], [((0, 2, 0), .bx true ([.v (.int .i64 x1.fType), .arr x1.fDims.length (lm (ik .i64) x1.fDims), .arr x1.fF.length (lm (ik .u32) x1.fF), .arr x1.fI.length (lm (ik .i64) x1.fI), .arr x1.fB.length (lm (bk) x1.fB)])), ((0, 3, 0), .bx true ([.v (.int .i64 x2.fType), .arr x2.fDims.length (lm (ik .i64) x2.fDims), .arr x2.fF.length (lm (ik .u32) x2.fF), .arr x2.fI.length (lm (ik .i64) x2.fI), .arr x2.fB.length (lm (bk) x2.fB)]))])) (fun t => ref05_Same_k2 fu x1 x2) ?_ (fun hj2 => ?_)
  ·rintro ⟨⟩
   show J _ (ref05_Same_k2 fu x1 x2) _
   unfold ref05_Same_k2
   refine J.joinS (fun (t : Unit) => ([(2, .ptr (0, 2, 0) 0 0), (3, .ptr (0, 3, 0) 0 0)], [((0, 2, 0), .bx true ([.v (.int .i64 x1.fType), .arr x1.fDims.length (lm (ik .i64) x1.fDims), .arr x1.fF.length (lm (ik .u32) x1.fF), .arr x1.fI.length (lm (ik .i64) x1.fI), .arr x1.fB.length (lm (bk) x1.fB)])), ((0, 3, 0), .bx true ([.v (.int .i64 x2.fType), .arr x2.fDims.length (lm (ik .i64) x2.fDims), .arr x2.fF.length (lm (ik .u32) x2.fF), .arr x2.fI.length (lm (ik .i64) x2.fI), .arr x2.fB.length (lm (bk) x2.fB)]))])) (fun t => ref05_Same_k3 fu x1 x2) ?_ (fun hj3 => ?_)
   ·rintro ⟨⟩
    show J _ (ref05_Same_k3 fu x1 x2) _
    unfold ref05_Same_k3
    refine J.eq go_seq ?_
    conv => arg 1; simp (disch := first | assumption | decide | with_unfolding_all rfl | omega | simp only [OZ] <;> omega | fail) only [ZZ, d13_at, simprocAttr]
    unfold ref05_Same_W1
    refine J.loop (fun (s : Int) => ([(2, .ptr (0, 2, 0) 0 0), (3, .ptr (0, 3, 0) 0 0), (7, .v (.int .i64 s))], [((0, 2, 0), .bx true ([.v (.int .i64 x1.fType), .arr x1.fDims.length (lm (ik .i64) x1.fDims), .arr x1.fF.length (lm (ik .u32) x1.fF), .arr x1.fI.length (lm (ik .i64) x1.fI), .arr x1.fB.length (lm (bk) x1.fB)])), ((0, 3, 0), .bx true ([.v (.int .i64 x2.fType), .arr x2.fDims.length (lm (ik .i64) x2.fDims), .arr x2.fF.length (lm (ik .u32) x2.fF), .arr x2.fI.length (lm (ik .i64) x2.fI), .arr x2.fB.length (lm (bk) x2.fB)]))])) (fun next s => ref05_Same_L1 fu x1 x2 next s) (s0 := 0) ?_ ?_ ?_
    ·first | rfl | (simp only [LN, NN, NT])
    ·first | (simp (disch := first | assumption | decide | with_unfolding_all rfl | omega | simp only [OZ] <;> omega | fail) only [RR, simprocAttr, LN, NN, NT]; done) | (simp (disch := first | assumption | decide | with_unfolding_all rfl | omega | simp only [OZ] <;> omega | fail) only [RR, simprocAttr, LN, fm_app, NN, NT]; done) | rfl
    rintro nx1 k1 hn1 x5
    show J _ (ref05_Same_L1 fu x1 x2 nx1 x5) _
    unfold ref05_Same_L1
    refine J.eq go_seq ?_
    conv => arg 1; simp (disch := first | assumption | decide | with_unfolding_all rfl | omega | simp only [OZ] <;> omega | fail) only [ZZ, d13_at, simprocAttr]
    refine J.ite (fun h1 => ?_) (fun h1 => ?_)
    ·have h1' := decide_eq_true h1
     have h1'' : decide ((x1.fB.length : Int) ≤ x5) = false := decide_eq_false (by omega)
     conv => arg 1; simp (disch := first | assumption | decide | with_unfolding_all rfl | omega | simp only [OZ] <;> omega | fail) only [ZZ, d13_at, simprocAttr, h1'', h1']
     refine J.eq ret_seq ?_
     refine J.eq go_seq ?_
     refine J.at fun x8 h2 h3 h4 => ?_
     refine J.at fun x9 h5 h6 h7 => ?_
     conv => arg 1; simp (disch := first | assumption | decide | with_unfolding_all rfl | omega | simp only [OZ] <;> omega | fail) only [ZZ, d13_at, simprocAttr, h1'', h1', lm_bk h4, lm_bk h7]
     refine J.ite (fun h8 => ?_) (fun h8 => ?_)
     ·have h8' : (x8 == x9) = true := h8
      conv => arg 1; simp (disch := first | assumption | decide | with_unfolding_all rfl | omega | simp only [OZ] <;> omega | fail) only [ZZ, d13_at, simprocAttr, h1'', h1', lm_bk h4, lm_bk h7, h8']
      refine J.eq ret_seq ?_
      conv => arg 1; simp (disch := first | assumption | decide | with_unfolding_all rfl | omega | simp only [OZ] <;> omega | fail) only [ZZ, d13_at, simprocAttr, h1'', h1', lm_bk h4, lm_bk h7, h8']
      refine J.next (s := wk .i64 (x5 + 1)) hn1 ?_ ?_
      ·first | rfl | (simp only [LN, NN, NT])
      ·first | (simp (disch := first | assumption | decide | with_unfolding_all rfl | omega | simp only [OZ] <;> omega | fail) only [RR, simprocAttr, LN, NN, NT]; done) | (simp (disch := first | assumption | decide | with_unfolding_all rfl | omega | simp only [OZ] <;> omega | fail) only [RR, simprocAttr, LN, fm_app, NN, NT]; done) | rfl
     ·have h8' : (x8 == x9) = false := Bool.eq_false_iff.2 h8
      refine J.some ?_
      simp (maxSteps := 20000000) (disch := first | assumption | decide | with_unfolding_all rfl | omega | simp only [OZ] <;> omega | fail) only [ZZ, d13_at, simprocAttr, h1'', h1', lm_bk h4, lm_bk h7, h8', FF, LN, NN, NT]
    ·have h1' := decide_eq_false h1
     have h1'' : decide ((x1.fB.length : Int) ≤ x5) = true := decide_eq_true (by omega)
     conv => arg 1; simp (disch := first | assumption | decide | with_unfolding_all rfl | omega | simp only [OZ] <;> omega | fail) only [ZZ, d13_at, simprocAttr, h1'', h1']
     refine J.eq ret_seq ?_
     refine J.some ?_
     simp (maxSteps := 20000000) (disch := first | assumption | decide | with_unfolding_all rfl | omega | simp only [OZ] <;> omega | fail) only [ZZ, d13_at, simprocAttr, h1'', h1', FF, LN, NN, NT]
   ·conv => arg 1; simp (disch := first | assumption | decide | with_unfolding_all rfl | omega | simp only [OZ] <;> omega | fail) only [ZZ, d13_at, simprocAttr]
    unfold ref05_Same_W2
    refine J.loop (fun (s : Int) => ([(2, .ptr (0, 2, 0) 0 0), (3, .ptr (0, 3, 0) 0 0), (6, .v (.int .i64 s))], [((0, 2, 0), .bx true ([.v (.int .i64 x1.fType), .arr x1.fDims.length (lm (ik .i64) x1.fDims), .arr x1.fF.length (lm (ik .u32) x1.fF), .arr x1.fI.length (lm (ik .i64) x1.fI), .arr x1.fB.length (lm (bk) x1.fB)])), ((0, 3, 0), .bx true ([.v (.int .i64 x2.fType), .arr x2.fDims.length (lm (ik .i64) x2.fDims), .arr x2.fF.length (lm (ik .u32) x2.fF), .arr x2.fI.length (lm (ik .i64) x2.fI), .arr x2.fB.length (lm (bk) x2.fB)]))])) (fun next s => ref05_Same_L2 fu x1 x2 next s) (s0 := 0) ?_ ?_ ?_
    ·first | rfl | (simp only [LN, NN, NT])
    ·first | (simp (disch := first | assumption | decide | with_unfolding_all rfl | omega | simp only [OZ] <;> omega | fail) only [RR, simprocAttr, LN, NN, NT]; done) | (simp (disch := first | assumption | decide | with_unfolding_all rfl | omega | simp only [OZ] <;> omega | fail) only [RR, simprocAttr, LN, fm_app, NN, NT]; done) | rfl
    rintro nx2 k2 hn2 x12
    show J _ (ref05_Same_L2 fu x1 x2 nx2 x12) _
    unfold ref05_Same_L2
    refine J.eq go_seq ?_
    conv => arg 1; simp (disch := first | assumption | decide | with_unfolding_all rfl | omega | simp only [OZ] <;> omega | fail) only [ZZ, d13_at, simprocAttr]
    refine J.ite (fun h9 => ?_) (fun h9 => ?_)
    ·have h9' := decide_eq_true h9
     have h9'' : decide ((x1.fI.length : Int) ≤ x12) = false := decide_eq_false (by omega)
     conv => arg 1; simp (disch := first | assumption | decide | with_unfolding_all rfl | omega | simp only [OZ] <;> omega | fail) only [ZZ, d13_at, simprocAttr, h9'', h9']
     refine J.eq ret_seq ?_
     refine J.eq go_seq ?_
     refine J.at fun x15 h10 h11 h12 => ?_
     refine J.at fun x16 h13 h14 h15 => ?_
     conv => arg 1; simp (disch := first | assumption | decide | with_unfolding_all rfl | omega | simp only [OZ] <;> omega | fail) only [ZZ, d13_at, simprocAttr, h9'', h9', lm_ik h12, lm_ik h15]
     refine J.ite (fun h16 => ?_) (fun h16 => ?_)
     ·have h16' := decide_eq_true h16
      conv => arg 1; simp (disch := first | assumption | decide | with_unfolding_all rfl | omega | simp only [OZ] <;> omega | fail) only [ZZ, d13_at, simprocAttr, h9'', h9', lm_ik h12, lm_ik h15, h16']
      refine J.eq ret_seq ?_
      conv => arg 1; simp (disch := first | assumption | decide | with_unfolding_all rfl | omega | simp only [OZ] <;> omega | fail) only [ZZ, d13_at, simprocAttr, h9'', h9', lm_ik h12, lm_ik h15, h16']
      refine J.next (s := wk .i64 (x12 + 1)) hn2 ?_ ?_
      ·first | rfl | (simp only [LN, NN, NT])
      ·first | (simp (disch := first | assumption | decide | with_unfolding_all rfl | omega | simp only [OZ] <;> omega | fail) only [RR, simprocAttr, LN, NN, NT]; done) | (simp (disch := first | assumption | decide | with_unfolding_all rfl | omega | simp only [OZ] <;> omega | fail) only [RR, simprocAttr, LN, fm_app, NN, NT]; done) | rfl
     ·have h16' := decide_eq_false h16
      refine J.some ?_
      simp (maxSteps := 20000000) (disch := first | assumption | decide | with_unfolding_all rfl | omega | simp only [OZ] <;> omega | fail) only [ZZ, d13_at, simprocAttr, h9'', h9', lm_ik h12, lm_ik h15, h16', FF, LN, NN, NT]
    ·have h9' := decide_eq_false h9
     have h9'' : decide ((x1.fI.length : Int) ≤ x12) = true := decide_eq_true (by omega)
     conv => arg 1; simp (disch := first | assumption | decide | with_unfolding_all rfl | omega | simp only [OZ] <;> omega | fail) only [ZZ, d13_at, simprocAttr, h9'', h9']
     refine J.jmp (t := ()) hj3 ?_ ?_
     ·first | rfl | (simp only [LN, NN, NT])
     ·first | (simp (disch := first | assumption | decide | with_unfolding_all rfl | omega | simp only [OZ] <;> omega | fail) only [RR, simprocAttr, LN, NN, NT]; done) | (simp (disch := first | assumption | decide | with_unfolding_all rfl | omega | simp only [OZ] <;> omega | fail) only [RR, simprocAttr, LN, fm_app, NN, NT]; done) | rfl
  ·conv => arg 1; simp (disch := first | assumption | decide | with_unfolding_all rfl | omega | simp only [OZ] <;> omega | fail) only [ZZ, d13_at, simprocAttr]
   unfold ref05_Same_W3
   refine J.loop (fun (s : Int) => ([(2, .ptr (0, 2, 0) 0 0), (3, .ptr (0, 3, 0) 0 0), (5, .v (.int .i64 s))], [((0, 2, 0), .bx true ([.v (.int .i64 x1.fType), .arr x1.fDims.length (lm (ik .i64) x1.fDims), .arr x1.fF.length (lm (ik .u32) x1.fF), .arr x1.fI.length (lm (ik .i64) x1.fI), .arr x1.fB.length (lm (bk) x1.fB)])), ((0, 3, 0), .bx true ([.v (.int .i64 x2.fType), .arr x2.fDims.length (lm (ik .i64) x2.fDims), .arr x2.fF.length (lm (ik .u32) x2.fF), .arr x2.fI.length (lm (ik .i64) x2.fI), .arr x2.fB.length (lm (bk) x2.fB)]))])) (fun next s => ref05_Same_L3 fu x1 x2 next s) (s0 := 0) ?_ ?_ ?_
   ·first | rfl | (simp only [LN, NN, NT])
   ·first | (simp (disch := first | assumption | decide | with_unfolding_all rfl | omega | simp only [OZ] <;> omega | fail) only [RR, simprocAttr, LN, NN, NT]; done) | (simp (disch := first | assumption | decide | with_unfolding_all rfl | omega | simp only [OZ] <;> omega | fail) only [RR, simprocAttr, LN, fm_app, NN, NT]; done) | rfl
   rintro nx3 k3 hn3 x19
   show J _ (ref05_Same_L3 fu x1 x2 nx3 x19) _
   unfold ref05_Same_L3
   refine J.eq go_seq ?_
   conv => arg 1; simp (disch := first | assumption | decide | with_unfolding_all rfl | omega | simp only [OZ] <;> omega | fail) only [ZZ, d13_at, simprocAttr]
   refine J.ite (fun h17 => ?_) (fun h17 => ?_)
   ·have h17' := decide_eq_true h17
    have h17'' : decide ((x1.fF.length : Int) ≤ x19) = false := decide_eq_false (by omega)
    conv => arg 1; simp (disch := first | assumption | decide | with_unfolding_all rfl | omega | simp only [OZ] <;> omega | fail) only [ZZ, d13_at, simprocAttr, h17'', h17']
    refine J.eq ret_seq ?_
    refine J.eq go_seq ?_
    refine J.at fun x22 h18 h19 h20 => ?_
    refine J.at fun x23 h21 h22 h23 => ?_
    conv => arg 1; simp (disch := first | assumption | decide | with_unfolding_all rfl | omega | simp only [OZ] <;> omega | fail) only [ZZ, d13_at, simprocAttr, h17'', h17', lm_ik h20, lm_ik h23]
    refine J.ite (fun h24 => ?_) (fun h24 => ?_)
    ·have h24' := decide_eq_true h24
     conv => arg 1; simp (disch := first | assumption | decide | with_unfolding_all rfl | omega | simp only [OZ] <;> omega | fail) only [ZZ, d13_at, simprocAttr, h17'', h17', lm_ik h20, lm_ik h23, h24']
     refine J.eq ret_seq ?_
     conv => arg 1; simp (disch := first | assumption | decide | with_unfolding_all rfl | omega | simp only [OZ] <;> omega | fail) only [ZZ, d13_at, simprocAttr, h17'', h17', lm_ik h20, lm_ik h23, h24']
     refine J.next (s := wk .i64 (x19 + 1)) hn3 ?_ ?_
     ·first | rfl | (simp only [LN, NN, NT])
     ·first | (simp (disch := first | assumption | decide | with_unfolding_all rfl | omega | simp only [OZ] <;> omega | fail) only [RR, simprocAttr, LN, NN, NT]; done) | (simp (disch := first | assumption | decide | with_unfolding_all rfl | omega | simp only [OZ] <;> omega | fail) only [RR, simprocAttr, LN, fm_app, NN, NT]; done) | rfl
    ·have h24' := decide_eq_false h24
     refine J.some ?_
     simp (maxSteps := 20000000) (disch := first | assumption | decide | with_unfolding_all rfl | omega | simp only [OZ] <;> omega | fail) only [ZZ, d13_at, simprocAttr, h17'', h17', lm_ik h20, lm_ik h23, h24', FF, LN, NN, NT]
   ·have h17' := decide_eq_false h17
    have h17'' : decide ((x1.fF.length : Int) ≤ x19) = true := decide_eq_true (by omega)
    conv => arg 1; simp (disch := first | assumption | decide | with_unfolding_all rfl | omega | simp only [OZ] <;> omega | fail) only [ZZ, d13_at, simprocAttr, h17'', h17']
    refine J.jmp (t := ()) hj2 ?_ ?_
    ·first | rfl | (simp only [LN, NN, NT])
    ·first | (simp (disch := first | assumption | decide | with_unfolding_all rfl | omega | simp only [OZ] <;> omega | fail) only [RR, simprocAttr, LN, NN, NT]; done) | (simp (disch := first | assumption | decide | with_unfolding_all rfl | omega | simp only [OZ] <;> omega | fail) only [RR, simprocAttr, LN, fm_app, NN, NT]; done) | rfl
 ·refine J.eq go_seq ?_
  conv => arg 1; simp (disch := first | assumption | decide | with_unfolding_all rfl | omega | simp only [OZ] <;> omega | fail) only [ZZ, d13_at, simprocAttr]
  refine J.ite (fun h25 => ?_) (fun h25 => ?_)
  ·have h25' := decide_eq_true h25
   refine J.bind fun x24 h26 => ?_
   have e_h26 := H17_0 _ _ _ h26
   try simp only [NN, NT, LN, simprocAttr, DT] at e_h26
   conv => arg 1; simp (disch := first | assumption | decide | with_unfolding_all rfl | omega | simp only [OZ] <;> omega | fail) only [ZZ, d13_at, simprocAttr, h25', e_h26]
   refine J.ite (fun h27 => ?_) (fun h27 => ?_)
   ·have h27' : x24 = true := h27
    conv => arg 1; simp (disch := first | assumption | decide | with_unfolding_all rfl | omega | simp only [OZ] <;> omega | fail) only [ZZ, d13_at, simprocAttr, h25', e_h26, h27']
    refine J.ite (fun h28 => ?_) (fun h28 => ?_)
    ·have h28' := decide_eq_true h28
     conv => arg 1; simp (disch := first | assumption | decide | with_unfolding_all rfl | omega | simp only [OZ] <;> omega | fail) only [ZZ, d13_at, simprocAttr, h25', e_h26, h27', h28']
     refine J.ite (fun h29 => ?_) (fun h29 => ?_)
     ·have h29' := decide_eq_true h29
      conv => arg 1; simp (disch := first | assumption | decide | with_unfolding_all rfl | omega | simp only [OZ] <;> omega | fail) only [ZZ, d13_at, simprocAttr, h25', e_h26, h27', h28', h29']
      refine J.eq ret_seq ?_
      conv => arg 1; simp (disch := first | assumption | decide | with_unfolding_all rfl | omega | simp only [OZ] <;> omega | fail) only [ZZ, d13_at, simprocAttr, h25', e_h26, h27', h28', h29']
      refine J.ite (fun h30 => ?_) (fun h30 => ?_)
      ·have h30' := decide_eq_true h30
       conv => arg 1; simp (disch := first | assumption | decide | with_unfolding_all rfl | omega | simp only [OZ] <;> omega | fail) only [ZZ, d13_at, simprocAttr, h25', e_h26, h27', h28', h29', h30']
       refine J.jmp (t := ()) hj1 ?_ ?_
       ·first | rfl | (simp only [LN, NN, NT])
       ·first | (simp (disch := first | assumption | decide | with_unfolding_all rfl | omega | simp only [OZ] <;> omega | fail) only [RR, simprocAttr, LN, NN, NT]; done) | (simp (disch := first | assumption | decide | with_unfolding_all rfl | omega | simp only [OZ] <;> omega | fail) only [RR, simprocAttr, LN, fm_app, NN, NT]; done) | rfl
      ·have h30' := decide_eq_false h30
       refine J.some ?_
       simp (maxSteps := 20000000) (disch := first | assumption | decide | with_unfolding_all rfl | omega | simp only [OZ] <;> omega | fail) only [ZZ, d13_at, simprocAttr, h25', e_h26, h27', h28', h29', h30', FF, LN, NN, NT]
     ·have h29' := decide_eq_false h29
      conv => arg 1; simp (disch := first | assumption | decide | with_unfolding_all rfl | omega | simp only [OZ] <;> omega | fail) only [ZZ, d13_at, simprocAttr, h25', e_h26, h27', h28', h29']
      refine J.eq ret_seq ?_
      refine J.some ?_
      simp (maxSteps := 20000000) (disch := first | assumption | decide | with_unfolding_all rfl | omega | simp only [OZ] <;> omega | fail) only [ZZ, d13_at, simprocAttr, h25', e_h26, h27', h28', h29', FF, LN, NN, NT]
    ·have h28' := decide_eq_false h28
     conv => arg 1; simp (disch := first | assumption | decide | with_unfolding_all rfl | omega | simp only [OZ] <;> omega | fail) only [ZZ, d13_at, simprocAttr, h25', e_h26, h27', h28']
     refine J.eq ret_seq ?_
     refine J.some ?_
     simp (maxSteps := 20000000) (disch := first | assumption | decide | with_unfolding_all rfl | omega | simp only [OZ] <;> omega | fail) only [ZZ, d13_at, simprocAttr, h25', e_h26, h27', h28', FF, LN, NN, NT]
   ·have h27' : x24 = false := Bool.eq_false_iff.2 h27
    conv => arg 1; simp (disch := first | assumption | decide | with_unfolding_all rfl | omega | simp only [OZ] <;> omega | fail) only [ZZ, d13_at, simprocAttr, h25', e_h26, h27']
    refine J.eq ret_seq ?_
    refine J.some ?_
    simp (maxSteps := 20000000) (disch := first | assumption | decide | with_unfolding_all rfl | omega | simp only [OZ] <;> omega | fail) only [ZZ, d13_at, simprocAttr, h25', e_h26, h27', FF, LN, NN, NT]
  ·have h25' := decide_eq_false h25
   conv => arg 1; simp (disch := first | assumption | decide | with_unfolding_all rfl | omega | simp only [OZ] <;> omega | fail) only [ZZ, d13_at, simprocAttr, h25']
   refine J.eq ret_seq ?_
   refine J.some ?_
   simp (maxSteps := 20000000) (disch := first | assumption | decide | with_unfolding_all rfl | omega | simp only [OZ] <;> omega | fail) only [ZZ, d13_at, simprocAttr, h25', FF, LN, NN, NT]
noncomputable def t13 (fu : Nat) : CallP := orE 17 (mkC (fun (t : (List Int) × (List Int)) => ([.arr t.1.length (lm (ik .i64) t.1), .arr t.2.length (lm (ik .i64) t.2)] : List AV)) (fun t => ref04_SameInts fu t.1 t.2) e17) (noP)
theorem t13_ok (fu : Nat) : CpOK Tryz.prog (t13 fu ) := orE_ok (noP_ok) (mkC_ok (fun t b h => ok17 fu t.1 t.2  b h))
theorem ok13 (fu : Nat) (x1 : T_Tensor) (x2 : T_Tensor) (r) (h : ref05_Same fu x1 x2 = some r) : PureOK Tryz.prog 13 [.agg (c_T_Tensor x1), .agg (c_T_Tensor x2)] (e13 r) :=
  pure_J mixed (cp := t13 fu ) (t13_ok fu  ) noI_ok i13 (w13 _ fu x1 x2  (fun a0 a1 r h => orE_hit (mkC_at (a := (a0, a1)) (by intro a b h; first | (exact rfl) | (simp only [INJ, IJ] at h; first | exact h | (simp_all [Prod.ext_iff]) )) h))) h
/-! 6: lattice/latticelaw14.MatEach -/
def d6 : List (Nat × List Nat) := [(0, [0, 1, 4]), (0, [2, 3, 6, 8, 9]), (0, [16]), (0, []), (0, [17, 18, 19, 20, 21, 22, 23, 24, 25]), (0, []), (0, [27]), (0, []), (0, [28, 29, 30, 31, 32, 33, 34, 35]), (0, []), (0, [7, 36, 37, 38, 39, 40, 41, 42]), (0, []), (0, [44]), (0, []), (9, [45, 46, 47, 48, 49, 50, 51, 52]), (0, []), (0, []), (0, []), (0, [53, 54, 55, 56, 57]), (0, []), (0, [59, 60]), (0, []), (0, [61, 62, 63, 64, 65, 66]), (0, []), (0, [67, 68, 69, 70, 71, 72]), (0, []), (9, [73, 74, 75, 76, 77, 78, 79, 80]), (0, []), (9, [81, 82, 83, 84, 85, 86, 87, 88]), (0, []), (36035002038037, [10, 11, 12, 13, 89, 90, 91, 92, 93, 94, 95, 96, 97, 98, 99, 100, 101, 102, 103, 104, 105, 106, 107, 108, 109, 110, 111, 112, 113, 114, 115, 116, 117, 118, 119, 120, 121, 122, 123, 124]), (0, []), (22, [14, 15, 125, 126, 127, 128, 129, 130, 131, 132, 133, 134, 135, 136, 137, 138, 139, 140, 141, 142, 143, 144, 145]), (0, []), (0, []), (0, []), (0, [5, 147])]
def d6_at := by have h := tabL d6.eq_1; simp only [AllAt, Nat.zero_add, Nat.reduceAdd] at h; exact h
theorem i6 : finfo Tryz.prog 6 d6 = some ⟨bodyOf Tryz.f6, [.tmp 4], [4]⟩ := finfo_at Tryz.func6 rfl (by kernel_rfl) (by kernel_rfl)
def e6 : Bool → AV := fun r => .v (.bool r)
set_option maxHeartbeats 20000000 in
theorem w6 (cp : CallP) (fu : Nat) (x1 : T_Tensor) (x2 : T_Tensor) (H8 : cp 8 [] = some (.v (.bool true))) (H11_0 : ∀ (a0 : Int) (a1 : T_Setting) (a2 : List T_Tensor) r, mat_Do fu a0 a1 a2 = some r → cp 11 [.v (.int .i64 a0), .agg (c_T_Setting a1), .arr a2.length (fm c_T_Tensor a2)] = some (.tuple [.agg [.v (.int .i64 r.1.fType), .arr r.1.fDims.length (lm (ik .i64) r.1.fDims), .arr r.1.fF.length (lm (ik .u32) r.1.fF), .arr r.1.fI.length (lm (ik .i64) r.1.fI), .arr r.1.fB.length (lm (bk) r.1.fB)], .v (.int .i64 r.2)])) (H16_0 : ∀ (a0 : List Int) (a1 : List Int) r, law14_floats fu a0 a1 = some r → cp 16 [.arr a0.length (lm (ik .i64) a0), .arr a1.length (lm (ik .u32) a1)] = some (.agg [.v (.int .i64 r.fType), .arr r.fDims.length (lm (ik .i64) r.fDims), .arr r.fF.length (lm (ik .u32) r.fF), .arr r.fI.length (lm (ik .i64) r.fI), .arr r.fB.length (lm (bk) r.fB)])) (H13_0 : ∀ (a0 : T_Tensor) (a1 : T_Tensor) r, ref05_Same fu a0 a1 = some r → cp 13 [.agg (c_T_Tensor a0), .agg (c_T_Tensor a1)] = some (.v (.bool r))) : J (go Tryz.prog noCs cp noI 0 [] d6 fu (fin Tryz.prog [.tmp 4] [4]) (bodyOf Tryz.f6) (initE 0 [.agg (c_T_Tensor x1), .agg (c_T_Tensor x2)]) [] []) (law14_MatEach fu x1 x2) e6 := by
 unfold law14_MatEach e6
 conv => arg 1; simp (disch := first | assumption | decide | with_unfolding_all rfl | omega | simp only [OZ] <;> omega | fail) only [bodyOf, Tryz.f6, ZZ, d6_at, simprocAttr, RL, aop_callC, aq_callC, H8]
 refine J.joinS (fun (t : Unit) => ([(2, .ptr (0, 2, 0) 0 0), (3, .ptr (0, 3, 0) 0 0), (5, .v (.bool true))], [((0, 2, 0), .bx true ([.v (.int .i64 x1.fType), .arr x1.fDims.length (lm (ik .i64) x1.fDims), .arr x1.fF.length (lm (ik .u32) x1.fF), .arr x1.fI.length (lm (ik .i64) x1.fI), .arr x1.fB.length (lm (bk) x1.fB)])), ((0, 3, 0), .bx true ([.v (.int .i64 x2.fType), .arr x2.fDims.length (lm (ik .i64) x2.fDims), .arr x2.fF.length (lm (ik .u32) x2.fF), .arr x2.fI.length (lm (ik .i64) x2.fI), .arr x2.fB.length (lm (bk) x2.fB)]))])) (fun t => law14_MatEach_k1 fu x1 x2) ?_ (fun hj1 => ?_)
 ·rintro ⟨⟩
  show J _ (law14_MatEach_k1 fu x1 x2) _
  unfold law14_MatEach_k1
  refine J.bind fun x3 h1 => ?_
  have e_h1 := H11_0 _ _ _ _ h1
  try simp only [NN, NT, LN, simprocAttr, DT] at e_h1
  conv => arg 1; simp (disch := first | assumption | decide | with_unfolding_all rfl | omega | simp only [OZ] <;> omega | fail) only [ZZ, d6_at, simprocAttr, RL, aop_callC, aq_callC, H8, e_h1]
  refine J.joinS (fun (t : Unit) => ([(2, .ptr (0, 2, 0) 0 0), (3, .ptr (0, 3, 0) 0 0), (5, .v (.bool true)), (6, .ptr (0, 6, 0) 0 0)], [((0, 2, 0), .bx true ([.v (.int .i64 x1.fType), .arr x1.fDims.length (lm (ik .i64) x1.fDims), .arr x1.fF.length (lm (ik .u32) x1.fF), .arr x1.fI.length (lm (ik .i64) x1.fI), .arr x1.fB.length (lm (bk) x1.fB)])), ((0, 3, 0), .bx true ([.v (.int .i64 x2.fType), .arr x2.fDims.length (lm (ik .i64) x2.fDims), .arr x2.fF.length (lm (ik .u32) x2.fF), .arr x2.fI.length (lm (ik .i64) x2.fI), .arr x2.fB.length (lm (bk) x2.fB)])), ((0, 6, 0), .bx true ([.v (.int .i64 x3.1.fType), .arr x3.1.fDims.length (lm (ik .i64) x3.1.fDims), .arr x3.1.fF.length (lm (ik .u32) x3.1.fF), .arr x3.1.fI.length (lm (ik .i64) x3.1.fI), .arr x3.1.fB.length (lm (bk) x3.1.fB)]))])) (fun t => law14_MatEach_k2 fu x1 x2 x3) ?_ (fun hj2 => ?_)
  ·rintro ⟨⟩
   show J _ (law14_MatEach_k2 fu x1 x2 x3) _
   unfold law14_MatEach_k2
   refine J.at fun x4 h2 h3 h4 => ?_
   replace h4 : x3.1.fDims[0]? = some x4 := h4
   refine J.chk fun h5 => ?_
   conv => arg 1; simp (disch := first | assumption | decide | with_unfolding_all rfl | omega | simp only [OZ] <;> omega | fail) only [ZZ, d6_at, simprocAttr, RL, aop_callC, aq_callC, H8, e_h1, lm_ik h4]
   refine J.eq go_seq ?_
   conv => arg 1; simp (disch := first | assumption | decide | with_unfolding_all rfl | omega | simp only [OZ] <;> omega | fail) only [ZZ, d6_at, simprocAttr, RL, aop_callC, aq_callC, H8, e_h1, lm_ik h4]
   unfold law14_MatEach_W1
   refine J.loop (fun (s : Int) => ([(2, .ptr (0, 2, 0) 0 0), (3, .ptr (0, 3, 0) 0 0), (5, .v (.bool true)), (6, .ptr (0, 6, 0) 0 0), (8, .v (.int .i64 (wk .i64 (Int.tdiv (x3.1.fF.length : Int) x4)))), (9, .v (.int .i64 s))], [((0, 2, 0), .bx true ([.v (.int .i64 x1.fType), .arr x1.fDims.length (lm (ik .i64) x1.fDims), .arr x1.fF.length (lm (ik .u32) x1.fF), .arr x1.fI.length (lm (ik .i64) x1.fI), .arr x1.fB.length (lm (bk) x1.fB)])), ((0, 3, 0), .bx true ([.v (.int .i64 x2.fType), .arr x2.fDims.length (lm (ik .i64) x2.fDims), .arr x2.fF.length (lm (ik .u32) x2.fF), .arr x2.fI.length (lm (ik .i64) x2.fI), .arr x2.fB.length (lm (bk) x2.fB)])), ((0, 6, 0), .bx true ([.v (.int .i64 x3.1.fType), .arr x3.1.fDims.length (lm (ik .i64) x3.1.fDims), .arr x3.1.fF.length (lm (ik .u32) x3.1.fF), .arr x3.1.fI.length (lm (ik .i64) x3.1.fI), .arr x3.1.fB.length (lm (bk) x3.1.fB)]))])) (fun next s => law14_MatEach_L1 fu x1 x2 x3 x4 next s) (s0 := 0) ?_ ?_ ?_
   ·first | rfl | (simp only [LN, NN, NT])
   ·first | (simp (disch := first | assumption | decide | with_unfolding_all rfl | omega | simp only [OZ] <;> omega | fail) only [RR, simprocAttr, LN, NN, NT]; done) | (simp (disch := first | assumption | decide | with_unfolding_all rfl | omega | simp only [OZ] <;> omega | fail) only [RR, simprocAttr, LN, fm_app, NN, NT]; done) | rfl
   rintro nx1 k1 hn1 x12
   show J _ (law14_MatEach_L1 fu x1 x2 x3 x4 nx1 x12) _
   unfold law14_MatEach_L1
   refine J.eq go_seq ?_
   conv => arg 1; simp (disch := first | assumption | decide | with_unfolding_all rfl | omega | simp only [OZ] <;> omega | fail) only [ZZ, d6_at, simprocAttr, RL, aop_callC, aq_callC, H8, e_h1, lm_ik h4]
   refine J.ite (fun h6 => ?_) (fun h6 => ?_)
   ·have h6' := decide_eq_true h6
    have h6'' : decide (x4 ≤ x12) = false := decide_eq_false (by omega)
    conv => arg 1; simp (disch := first | assumption | decide | with_unfolding_all rfl | omega | simp only [OZ] <;> omega | fail) only [ZZ, d6_at, simprocAttr, RL, aop_callC, aq_callC, H8, e_h1, lm_ik h4, h6'', h6']
    refine J.eq ret_seq ?_
    refine J.eq go_seq ?_
    refine J.at fun x20 h7 h8 h9 => ?_
    replace h9 : x1.fDims[0]? = some x20 := h9
    refine J.chk fun h10 => ?_
    refine J.at fun x21 h11 h12 h13 => ?_
    replace h13 : x2.fDims[0]? = some x21 := h13
    refine J.chk fun h14 => ?_
    refine J.chk fun h15 => ?_
    refine J.chk fun h16 => ?_
    refine J.bind fun x22 h17 => ?_
    have e_h17 := H16_0 _ _ _ h17
    try simp only [NN, NT, LN, simprocAttr, DT] at e_h17
    refine J.chk fun h18 => ?_
    refine J.chk fun h19 => ?_
    refine J.bind fun x23 h20 => ?_
    have e_h20 := H16_0 _ _ _ h20
    try simp only [NN, NT, LN, simprocAttr, DT] at e_h20
    refine J.bind fun x24 h21 => ?_
    have e_h21 := H11_0 _ _ _ _ h21
    try simp only [NN, NT, LN, simprocAttr, DT] at e_h21
    conv => arg 1; simp (disch := first | assumption | decide | with_unfolding_all rfl | omega | simp only [OZ] <;> omega | fail) only [ZZ, d6_at, simprocAttr, RL, aop_callC, aq_callC, H8, e_h1, lm_ik h4, h6'', h6', lm_ik h9, lm_ik h13, e_h17, e_h20, e_h21]
    refine J.eq go_seq ?_
    conv => arg 1; simp (disch := first | assumption | decide | with_unfolding_all rfl | omega | simp only [OZ] <;> omega | fail) only [ZZ, d6_at, simprocAttr, RL, aop_callC, aq_callC, H8, e_h1, lm_ik h4, h6'', h6', lm_ik h9, lm_ik h13, e_h17, e_h20, e_h21]
    refine J.ite (fun h22 => ?_) (fun h22 => ?_)
    ·have h22' := decide_eq_true h22
     refine J.chk fun h23 => ?_
     refine J.chk fun h24 => ?_
     refine J.bind fun x25 h25 => ?_
     have e_h25 := H16_0 _ _ _ h25
     try simp only [NN, NT, LN, simprocAttr, DT] at e_h25
     refine J.bind fun x26 h26 => ?_
     have e_h26 := H13_0 _ _ _ h26
     try simp only [NN, NT, LN, simprocAttr, DT] at e_h26
     conv => arg 1; simp (disch := first | assumption | decide | with_unfolding_all rfl | omega | simp only [OZ] <;> omega | fail) only [ZZ, d6_at, simprocAttr, RL, aop_callC, aq_callC, H8, e_h1, lm_ik h4, h6'', h6', lm_ik h9, lm_ik h13, e_h17, e_h20, e_h21, h22', e_h25, e_h26]
     refine J.eq ret_seq ?_
     conv => arg 1; simp (disch := first | assumption | decide | with_unfolding_all rfl | omega | simp only [OZ] <;> omega | fail) only [ZZ, d6_at, simprocAttr, RL, aop_callC, aq_callC, H8, e_h1, lm_ik h4, h6'', h6', lm_ik h9, lm_ik h13, e_h17, e_h20, e_h21, h22', e_h25, e_h26]
     refine J.ite (fun h27 => ?_) (fun h27 => ?_)
     ·have h27' : x26 = true := h27
      conv => arg 1; simp (disch := first | assumption | decide | with_unfolding_all rfl | omega | simp only [OZ] <;> omega | fail) only [ZZ, d6_at, simprocAttr, RL, aop_callC, aq_callC, H8, e_h1, lm_ik h4, h6'', h6', lm_ik h9, lm_ik h13, e_h17, e_h20, e_h21, h22', e_h25, e_h26, h27']
      refine J.eq ret_seq ?_
      conv => arg 1; simp (disch := first | assumption | decide | with_unfolding_all rfl | omega | simp only [OZ] <;> omega | fail) only [ZZ, d6_at, simprocAttr, RL, aop_callC, aq_callC, H8, e_h1, lm_ik h4, h6'', h6', lm_ik h9, lm_ik h13, e_h17, e_h20, e_h21, h22', e_h25, e_h26, h27']
      refine J.next (s := wk .i64 (x12 + 1)) hn1 ?_ ?_
      ·first | rfl | (simp only [LN, NN, NT])
      ·first | (simp (disch := first | assumption | decide | with_unfolding_all rfl | omega | simp only [OZ] <;> omega | fail) only [RR, simprocAttr, LN, NN, NT]; done) | (simp (disch := first | assumption | decide | with_unfolding_all rfl | omega | simp only [OZ] <;> omega | fail) only [RR, simprocAttr, LN, fm_app, NN, NT]; done) | rfl
     ·have h27' : x26 = false := Bool.eq_false_iff.2 h27
      refine J.some ?_
      simp (maxSteps := 20000000) (disch := first | assumption | decide | with_unfolding_all rfl | omega | simp only [OZ] <;> omega | fail) only [ZZ, d6_at, simprocAttr, RL, aop_callC, aq_callC, H8, e_h1, lm_ik h4, h6'', h6', lm_ik h9, lm_ik h13, e_h17, e_h20, e_h21, h22', e_h25, e_h26, h27', FF, LN, NN, NT]
    ·have h22' := decide_eq_false h22
     conv => arg 1; simp (disch := first | assumption | decide | with_unfolding_all rfl | omega | simp only [OZ] <;> omega | fail) only [ZZ, d6_at, simprocAttr, RL, aop_callC, aq_callC, H8, e_h1, lm_ik h4, h6'', h6', lm_ik h9, lm_ik h13, e_h17, e_h20, e_h21, h22']
     refine J.eq ret_seq ?_
     refine J.some ?_
     simp (maxSteps := 20000000) (disch := first | assumption | decide | with_unfolding_all rfl | omega | simp only [OZ] <;> omega | fail) only [ZZ, d6_at, simprocAttr, RL, aop_callC, aq_callC, H8, e_h1, lm_ik h4, h6'', h6', lm_ik h9, lm_ik h13, e_h17, e_h20, e_h21, h22', FF, LN, NN, NT]
   ·have h6' := decide_eq_false h6
    have h6'' : decide (x4 ≤ x12) = true := decide_eq_true (by omega)
    conv => arg 1; simp (disch := first | assumption | decide | with_unfolding_all rfl | omega | simp only [OZ] <;> omega | fail) only [ZZ, d6_at, simprocAttr, RL, aop_callC, aq_callC, H8, e_h1, lm_ik h4, h6'', h6']
    refine J.eq ret_seq ?_
    refine J.some ?_
    simp (maxSteps := 20000000) (disch := first | assumption | decide | with_unfolding_all rfl | omega | simp only [OZ] <;> omega | fail) only [ZZ, d6_at, simprocAttr, RL, aop_callC, aq_callC, H8, e_h1, lm_ik h4, h6'', h6', FF, LN, NN, NT]
  ·refine J.eq go_seq ?_
   conv => arg 1; simp (disch := first | assumption | decide | with_unfolding_all rfl | omega | simp only [OZ] <;> omega | fail) only [ZZ, d6_at, simprocAttr, RL, aop_callC, aq_callC, H8, e_h1]
   refine J.ite (fun h28 => ?_) (fun h28 => ?_)
   ·have h28' := decide_eq_true h28
    conv => arg 1; simp (disch := first | assumption | decide | with_unfolding_all rfl | omega | simp only [OZ] <;> omega | fail) only [ZZ, d6_at, simprocAttr, RL, aop_callC, aq_callC, H8, e_h1, h28']
    refine J.eq ret_seq ?_
    conv => arg 1; simp (disch := first | assumption | decide | with_unfolding_all rfl | omega | simp only [OZ] <;> omega | fail) only [ZZ, d6_at, simprocAttr, RL, aop_callC, aq_callC, H8, e_h1, h28']
    refine J.ite (fun h29 => ?_) (fun h29 => ?_)
    ·have h29' := decide_eq_true h29
     refine J.some ?_
     simp (maxSteps := 20000000) (disch := first | assumption | decide | with_unfolding_all rfl | omega | simp only [OZ] <;> omega | fail) only [ZZ, d6_at, simprocAttr, RL, aop_callC, aq_callC, H8, e_h1, h28', h29', FF, LN, NN, NT]
    ·have h29' := decide_eq_false h29
     conv => arg 1; simp (disch := first | assumption | decide | with_unfolding_all rfl | omega | simp only [OZ] <;> omega | fail) only [ZZ, d6_at, simprocAttr, RL, aop_callC, aq_callC, H8, e_h1, h28', h29']
     refine J.jmp (t := ()) hj2 ?_ ?_
     ·first | rfl | (simp only [LN, NN, NT])
     ·first | (simp (disch := first | assumption | decide | with_unfolding_all rfl | omega | simp only [OZ] <;> omega | fail) only [RR, simprocAttr, LN, NN, NT]; done) | (simp (disch := first | assumption | decide | with_unfolding_all rfl | omega | simp only [OZ] <;> omega | fail) only [RR, simprocAttr, LN, fm_app, NN, NT]; done) | rfl
   ·have h28' := decide_eq_false h28
    conv => arg 1; simp (disch := first | assumption | decide | with_unfolding_all rfl | omega | simp only [OZ] <;> omega | fail) only [ZZ, d6_at, simprocAttr, RL, aop_callC, aq_callC, H8, e_h1, h28']
    refine J.eq ret_seq ?_
    refine J.some ?_
    simp (maxSteps := 20000000) (disch := first | assumption | decide | with_unfolding_all rfl | omega | simp only [OZ] <;> omega | fail) only [ZZ, d6_at, simprocAttr, RL, aop_callC, aq_callC, H8, e_h1, h28', FF, LN, NN, NT]
 ·refine J.eq go_seq ?_
  conv => arg 1; simp (disch := first | assumption | decide | with_unfolding_all rfl | omega | simp only [OZ] <;> omega | fail) only [ZZ, d6_at, simprocAttr, RL, aop_callC, aq_callC, H8]
  refine J.ite (fun h30 => ?_) (fun h30 => ?_)
  ·have h30' := decide_eq_true h30
   conv => arg 1; simp (disch := first | assumption | decide | with_unfolding_all rfl | omega | simp only [OZ] <;> omega | fail) only [ZZ, d6_at, simprocAttr, RL, aop_callC, aq_callC, H8, h30']
   refine J.eq ret_seq ?_
   conv => arg 1; simp (disch := first | assumption | decide | with_unfolding_all rfl | omega | simp only [OZ] <;> omega | fail) only [ZZ, d6_at, simprocAttr, RL, aop_callC, aq_callC, H8, h30']
   refine J.ite (fun h31 => ?_) (fun h31 => ?_)
   ·have h31' := decide_eq_true h31
    conv => arg 1; simp (disch := first | assumption | decide | with_unfolding_all rfl | omega | simp only [OZ] <;> omega | fail) only [ZZ, d6_at, simprocAttr, RL, aop_callC, aq_callC, H8, h30', h31']
    refine J.jmp (t := ()) hj1 ?_ ?_
    ·first | rfl | (simp only [LN, NN, NT])
    ·first | (simp (disch := first | assumption | decide | with_unfolding_all rfl | omega | simp only [OZ] <;> omega | fail) only [RR, simprocAttr, LN, NN, NT]; done) | (simp (disch := first | assumption | decide | with_unfolding_all rfl | omega | simp only [OZ] <;> omega | fail) only [RR, simprocAttr, LN, fm_app, NN, NT]; done) | rfl
   ·have h31' := decide_eq_false h31
    refine J.some ?_
    simp (maxSteps := 20000000) (disch := first | assumption | decide | with_unfolding_all rfl | omega | simp only [OZ] <;> omega | fail) only [ZZ, d6_at, simprocAttr, RL, aop_callC, aq_callC, H8, h30', h31', FF, LN, NN, NT]
  ·have h30' := decide_eq_false h30
   conv => arg 1; simp (disch := first | assumption | decide | with_unfolding_all rfl | omega | simp only [OZ] <;> omega | fail) only [ZZ, d6_at, simprocAttr, RL, aop_callC, aq_callC, H8, h30']
   refine J.eq ret_seq ?_
   refine J.some ?_
   simp (maxSteps := 20000000) (disch := first | assumption | decide | with_unfolding_all rfl | omega | simp only [OZ] <;> omega | fail) only [ZZ, d6_at, simprocAttr, RL, aop_callC, aq_callC, H8, h30', FF, LN, NN, NT]
noncomputable def t6 (fu : Nat) : CallP := orE 8 (mkC (fun (_ : Unit) => ([] : List AV)) (fun _ => some true) (fun b => .v (.bool b))) (orE 11 (mkC (fun (t : Int × T_Setting × (List T_Tensor)) => ([.v (.int .i64 t.1), .agg (c_T_Setting t.2.1), .arr t.2.2.length (fm c_T_Tensor t.2.2)] : List AV)) (fun t => mat_Do fu t.1 t.2.1 t.2.2) e11) (orE 16 (mkC (fun (t : (List Int) × (List Int)) => ([.arr t.1.length (lm (ik .i64) t.1), .arr t.2.length (lm (ik .u32) t.2)] : List AV)) (fun t => law14_floats fu t.1 t.2) e16) (orE 13 (mkC (fun (t : T_Tensor × T_Tensor) => ([.agg (c_T_Tensor t.1), .agg (c_T_Tensor t.2)] : List AV)) (fun t => ref05_Same fu t.1 t.2) e13) (noP))))
theorem t6_ok (fu : Nat) : CpOK Tryz.prog (t6 fu ) := orE_ok (orE_ok (orE_ok (orE_ok (noP_ok) (mkC_ok (fun t b h => ok13 fu t.1 t.2  b h))) (mkC_ok (fun t b h => ok16 fu t.1 t.2  b h))) (mkC_ok (fun t b h => ok11 fu t.1 t.2.1 t.2.2  b h))) (mkC_ok (fun _ b h => by injection h with h; subst h; exact awake8))
theorem ok6 (fu : Nat) (x1 : T_Tensor) (x2 : T_Tensor) (r) (h : law14_MatEach fu x1 x2 = some r) : PureOK Tryz.prog 6 [.agg (c_T_Tensor x1), .agg (c_T_Tensor x2)] (e6 r) :=
  pure_J mixed (cp := t6 fu ) (t6_ok fu  ) noI_ok i6 (w6 _ fu x1 x2  (orE_hit (mkC_at (a := ()) (fun _ _ _ => rfl) rfl)) (fun a0 a1 a2 r h => orE_miss (by decide) (orE_hit (mkC_at (a := (a0, a1, a2)) (by intro a b h; first | (exact rfl) | (simp only [INJ, IJ] at h; first | exact h | (simp_all [Prod.ext_iff]) )) h))) (fun a0 a1 r h => orE_miss (by decide) (orE_miss (by decide) (orE_hit (mkC_at (a := (a0, a1)) (by intro a b h; first | (exact rfl) | (simp only [INJ, IJ] at h; first | exact h | (simp_all [Prod.ext_iff]) )) h)))) (fun a0 a1 r h => orE_miss (by decide) (orE_miss (by decide) (orE_miss (by decide) (orE_hit (mkC_at (a := (a0, a1)) (by intro a b h; first | (exact rfl) | (simp only [INJ, IJ] at h; first | exact h | (simp_all [Prod.ext_iff]) )) h)))))) h
end Go.Av
