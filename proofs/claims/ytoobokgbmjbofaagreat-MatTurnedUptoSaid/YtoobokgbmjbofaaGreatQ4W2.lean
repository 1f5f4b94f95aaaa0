/- The walks of the plain functions, part 2. Made by a program of mine. Conditions: none. -/
import Derived.Test.YtoobokgbmjbofaaGreatQ4W1
set_option linter.unusedVariables false
set_option linter.unusedSimpArgs false
set_option linter.defProp false
set_option maxRecDepth 20000
open Go Go.Proofs
namespace Go.Av
open Aw (d9 d18 d19 d20 d23 d24 d25 d26 d27 d33 d34 d37 d38 d39 d40 d41 d42 d43 d45 d46 d47 d48 d49 d50 d51 d53 d63 d65 d66 d78 d79 d80 d81 d82 d83 d85 d86 d87 d88 d89 d91 d96 d100 d101 d102 d103 d104 d105 d106 d107 d108 d127 d133 d135 d136 d137 d143 d144 d166 d207)
open Aw (d54)
def d54_at := by have h := tabL Aw.d54.eq_1; simp only [AllAt, Nat.zero_add, Nat.reduceAdd] at h; exact h
noncomputable def b54 : Code := bodyOf Tryz.f54
theorem go_b54 {C : Cfg} {cp : CallP} {ci : CallI} {lvl : Nat} {prot : List Id} {D : List (Nat × List Nat)} {n : Nat} {K : KK} {e : Env} {h : Heap} {fs : List Fr} : go Tryz.prog C cp ci lvl prot D n K b54 e h fs = go Tryz.prog C cp ci lvl prot D n K (bodyOf Tryz.f54) e h fs := rfl
theorem i54 : finfo Tryz.prog 54 d54 = some ⟨b54, [], []⟩ := finfo_at Tryz.func54 rfl (by kernel_rfl) (by kernel_rfl)
open Aw (d29)
def d29_at := by have h := tabL Aw.d29.eq_1; simp only [AllAt, Nat.zero_add, Nat.reduceAdd] at h; exact h
theorem i29 : finfo Tryz.prog 29 d29 = some ⟨bodyOf Tryz.f29, [.tmp 6], [22]⟩ := finfo_at Tryz.func29 rfl (by kernel_rfl) (by kernel_rfl)
def e29 : (List Int) → AV := fun r => .fresh 1 r.length (lm (ik .u32) r)
structure K53 (fu : Nat) (cp : CallP) : Prop where
 ap : ∀ {a0 : T_Tensor} {a1 : Bool} {r}, mat_matrix fu a0 a1 = some r → cp 53 [.agg (c_T_Tensor a0), .v (.bool a1)] = some (.agg [.arr r.fl.length (lm (ik .u32) r.fl), .v (.int .i64 r.fat), .v (.int .i64 r.frow), .v (.int .i64 r.fcol), .v (.int .i64 r.frows), .v (.int .i64 r.fcolumns)])
noncomputable def C53 (fu : Nat) : Cm Tryz.prog (T_Tensor × Bool) T_mat_grid := ⟨53, fun t => [.agg (c_T_Tensor t.1), .v (.bool t.2)], fun t => mat_matrix fu t.1 t.2, e53, fun t b h => ok53 fu t.1 t.2  b h, Zi⟩
theorem u53 {fu : Nat} {cp : CallP} (H : Hit cp (C53 fu).ct) : K53 fu cp := ⟨fun {a0 a1 r} h => (C53 fu).at H (a0, a1) r h⟩
structure K107 (fu : Nat) (cp : CallP) : Prop where
 ap : ∀ {a0 : T_mat_grid} {a1 : Int} {r}, mat_grid_down fu a0 a1 = some r → cp 107 [.agg (c_T_mat_grid a0), .v (.int .i64 a1)] = some (.fresh 1 r.length (lm (ik .u32) r))
noncomputable def C107 (fu : Nat) : Cm Tryz.prog (T_mat_grid × Int) (List Int) := ⟨107, fun t => [.agg (c_T_mat_grid t.1), .v (.int .i64 t.2)], fun t => mat_grid_down fu t.1 t.2, e107, fun t b h => ok107 fu t.1 t.2  b h, Zi⟩
theorem u107 {fu : Nat} {cp : CallP} (H : Hit cp (C107 fu).ct) : K107 fu cp := ⟨fun {a0 a1 r} h => (C107 fu).at H (a0, a1) r h⟩
structure K108 (fu : Nat) (cp : CallP) : Prop where
 ap : ∀ {a0 : T_mat_grid} {a1 : Int} {r}, mat_grid_across fu a0 a1 = some r → cp 108 [.agg (c_T_mat_grid a0), .v (.int .i64 a1)] = some (.fresh 1 r.length (lm (ik .u32) r))
noncomputable def C108 (fu : Nat) : Cm Tryz.prog (T_mat_grid × Int) (List Int) := ⟨108, fun t => [.agg (c_T_mat_grid t.1), .v (.int .i64 t.2)], fun t => mat_grid_across fu t.1 t.2, e108, fun t b h => ok108 fu t.1 t.2  b h, Zi⟩
theorem u108 {fu : Nat} {cp : CallP} (H : Hit cp (C108 fu).ct) : K108 fu cp := ⟨fun {a0 a1 r} h => (C108 fu).at H (a0, a1) r h⟩
structure K9 (fu : Nat) (cp : CallP) : Prop where
 ap : ∀ {a0 : List Int} {a1 : List Int} {r}, mat_Dot fu a0 a1 = some r → cp 9 [.arr a0.length (lm (ik .u32) a0), .arr a1.length (lm (ik .u32) a1)] = some (.v (.int .u32 r))
noncomputable def C9 (fu : Nat) : Cm Tryz.prog ((List Int) × (List Int)) Int := ⟨9, fun t => [.arr t.1.length (lm (ik .u32) t.1), .arr t.2.length (lm (ik .u32) t.2)], fun t => mat_Dot fu t.1 t.2, e9, fun t b h => ok9 fu t.1 t.2  b h, Zi⟩
theorem u9 {fu : Nat} {cp : CallP} (H : Hit cp (C9 fu).ct) : K9 fu cp := ⟨fun {a0 a1 r} h => (C9 fu).at H (a0, a1) r h⟩
structure K50 (fu : Nat) (cp : CallP) : Prop where
 ap : ∀ {a0 : List Int} {a1 : List Int} {a2 : Int} {r}, shape_From fu a0 a1 a2 = some r → cp 50 [.arr a0.length (lm (ik .i64) a0), .arr a1.length (lm (ik .i64) a1), .v (.int .i64 a2)] = some (.tuple [.v (.int .i64 r.1), .v (.int .i64 r.2)])
noncomputable def C50 (fu : Nat) : Cm Tryz.prog ((List Int) × (List Int) × Int) (Int × Int) := ⟨50, fun t => [.arr t.1.length (lm (ik .i64) t.1), .arr t.2.1.length (lm (ik .i64) t.2.1), .v (.int .i64 t.2.2)], fun t => shape_From fu t.1 t.2.1 t.2.2, e50, fun t b h => ok50 fu t.1 t.2.1 t.2.2  b h, Zi⟩
theorem u50 {fu : Nat} {cp : CallP} (H : Hit cp (C50 fu).ct) : K50 fu cp := ⟨fun {a0 a1 a2 r} h => (C50 fu).at H (a0, a1, a2) r h⟩
def mat_gemm.m2 : LJ 2 24 Unit ((List Int) × Int) := ⟨fun r s e => [(2, er e 2), (3, er e 3), (6, er e 6), (9, er e 9), (25, er e 25), (26, er e 26), (32, er e 32), (33, er e 33), (34, .v (.int .i64 s.2))], fun r s h => [((0, 3, 0), hr h (0, 3, 0)), ((0, 4, 0), hr h (0, 4, 0)), ((0, 5, 0), hr h (0, 5, 0)), ((0, 7, 0), bs (hr h (0, 7, 0)) 0 (.own (0, 7, 78) 0 s.1.length s.1.length)), ((0, 7, 78), .sl true true 1 s.1.length (lm (ik .u32) s.1)), ((1, 3, 0), hr h (1, 3, 0)), ((1, 6, 77), hr h (1, 6, 77)), ((1, 31, 0), hr h (1, 31, 0))]⟩
def mat_gemm.m1 : LJ 1 16 Unit ((List Int) × Int) := ⟨fun r s e => [(2, er e 2), (3, er e 3), (6, er e 6), (25, er e 25), (26, .v (.int .i64 s.2))], fun r s h => [((0, 3, 0), hr h (0, 3, 0)), ((0, 4, 0), hr h (0, 4, 0)), ((0, 5, 0), hr h (0, 5, 0)), ((0, 7, 0), bs (hr h (0, 7, 0)) 0 (.own (0, 7, 78) 0 s.1.length s.1.length)), ((0, 7, 78), .sl true true 1 s.1.length (lm (ik .u32) s.1)), ((1, 3, 0), hr h (1, 3, 0)), ((1, 6, 77), hr h (1, 6, 77))]⟩
def mat_gemm.m3 : LJ 3 6 Unit ((List (List Int)) × Int) := ⟨fun r s e => [(2, er e 2), (3, er e 3), (4, er e 4), (6, .own (1, 6, 77) 0 s.1.length s.1.length), (13, er e 13), (14, .v (.int .i64 s.2))], fun r s h => [((0, 3, 0), hr h (0, 3, 0)), ((0, 4, 0), hr h (0, 4, 0)), ((0, 5, 0), hr h (0, 5, 0)), ((0, 7, 0), hr h (0, 7, 0)), ((0, 7, 78), hr h (0, 7, 78)), ((1, 3, 0), hr h (1, 3, 0)), ((1, 4, 0), hr h (1, 4, 0)), ((1, 6, 77), .sl true true 1 s.1.length (lm (avl (ik .u32)) s.1))]⟩
def mat_gemm.j1 : LJ 1 14 Unit (List (List Int)) := ⟨fun r t e => [(2, er e 2), (3, er e 3), (6, .own (1, 6, 77) 0 t.length t.length)], fun r t h => [((0, 3, 0), hr h (0, 3, 0)), ((0, 4, 0), hr h (0, 4, 0)), ((0, 5, 0), hr h (0, 5, 0)), ((0, 7, 0), hr h (0, 7, 0)), ((0, 7, 78), hr h (0, 7, 78)), ((1, 3, 0), hr h (1, 3, 0)), ((1, 4, 0), hr h (1, 4, 0)), ((1, 6, 77), .sl true true 1 t.length (lm (avl (ik .u32)) t))]⟩
set_option maxHeartbeats 20000000 in
open mat_gemm in
theorem w29 (cp : CallP) (fu : Nat) (x1 : T_Setting) (x2 : List T_Tensor) (x3 : List Int) (H1 : K53 fu cp) (H2 : K107 fu cp) (H3 : K108 fu cp) (H4 : K9 fu cp) (H5 : K20 fu cp) (H6 : K50 fu cp) (H7 : K19 fu cp) : J (go Tryz.prog (inlC [51, 54]) cp (ciE Tryz.prog (inlC [51, 54]) cp (ciE Tryz.prog (inlC [51, 54]) cp noI fu 54 d54 ⟨b54, [], []⟩ noI) fu 51 d51 ⟨b51, [], []⟩ (ciE Tryz.prog (inlC [51, 54]) cp noI fu 54 d54 ⟨b54, [], []⟩ noI)) 0 [] d29 fu (fin Tryz.prog [.tmp 6] [22]) (bodyOf Tryz.f29) (initE 0 [.agg (c_T_Setting x1), .arr x2.length (fm c_T_Tensor x2), .arr x3.length (lm (ik .i64) x3)]) [] []) (mat_gemm fu x1 x2 x3) e29 := by
 unfold mat_gemm e29
 have da := d29_at
 conv => arg 1; simp only [bodyOf, Tryz.f29]
 have z0 := d29_at
 have z1 := d51_at
 have z2 := Tryz.f51.eq_1
 have z3 := @go_b51
 have z4 := d54_at
 have z5 := Tryz.f54.eq_1
 have z6 := @go_b54
 have z7 := RI
 have z8 := RIk
 have z9 := @bodyOf.eq_1
 exact Wk
theorem ok29 (fu : Nat) (x1 : T_Setting) (x2 : List T_Tensor) (x3 : List Int) (r) (h : mat_gemm fu x1 x2 x3 = some r) : PureOK Tryz.prog 29 [.agg (c_T_Setting x1), .arr x2.length (fm c_T_Tensor x2), .arr x3.length (lm (ik .i64) x3)] (e29 r) := pureT mixed [(C53 fu).ct, (C107 fu).ct, (C108 fu).ct, (C9 fu).ct, (C20 fu).ct, (C50 fu).ct, (C19 fu).ct] (ids := [53, 107, 108, 9, 20, 50, 19]) rfl (by decide) i29 (C := (inlC [51, 54])) (ci := fun cp => (ciE Tryz.prog (inlC [51, 54]) cp (ciE Tryz.prog (inlC [51, 54]) cp noI fu 54 d54 ⟨b54, [], []⟩ noI) fu 51 d51 ⟨b51, [], []⟩ (ciE Tryz.prog (inlC [51, 54]) cp noI fu 54 d54 ⟨b54, [], []⟩ noI))) (fun cp ok => (ciE_ok mixed ok (ciE_ok mixed ok noI_ok i54 noI_ok) i51 (ciE_ok mixed ok noI_ok i54 noI_ok))) (fun cp H => w29 cp fu x1 x2 x3 (u53 H.1) (u107 H.2.1) (u108 H.2.2.1) (u9 H.2.2.2.1) (u20 H.2.2.2.2.1) (u50 H.2.2.2.2.2.1) (u19 H.2.2.2.2.2.2.1)) h
open Aw (d11)
def d11_at := by have h := tabL Aw.d11.eq_1; simp only [AllAt, Nat.zero_add, Nat.reduceAdd] at h; exact h
theorem i11 : finfo Tryz.prog 11 d11 = some ⟨bodyOf Tryz.f11, [.cell 6 31, .tmp 7], [31, 35]⟩ := finfo_at Tryz.func11 rfl (by kernel_rfl) (by kernel_rfl)
def e11 : (T_Tensor × Int) → AV := fun r => .tuple [.agg [.v (.int .i64 r.1.fType), .arr r.1.fDims.length (lm (ik .i64) r.1.fDims), .arr r.1.fF.length (lm (ik .u32) r.1.fF), .arr r.1.fI.length (lm (ik .i64) r.1.fI), .arr r.1.fB.length (lm (bk) r.1.fB)], .v (.int .i64 r.2)]
structure K18 (fu : Nat) (cp : CallP) : Prop where
 ap : ∀ {a0 : Int} {r}, mat_Has fu a0 = some r → cp 18 [.v (.int .i64 a0)] = some (.v (.bool r))
noncomputable def C18 (fu : Nat) : Cm Tryz.prog Int Bool := ⟨18, fun t => [.v (.int .i64 t)], fun t => mat_Has fu t, e18, fun t b h => ok18 fu t  b h, Zi⟩
theorem u18 {fu : Nat} {cp : CallP} (H : Hit cp (C18 fu).ct) : K18 fu cp := ⟨fun {a0 r} h => (C18 fu).at H a0 r h⟩
structure K24 (fu : Nat) (cp : CallP) : Prop where
 ap : ∀ {a0 : T_Tensor} {r}, tens_Canon fu a0 = some r → cp 24 [.agg (c_T_Tensor a0)] = some (.agg [.v (.int .i64 r.fType), .fresh 1 r.fDims.length (lm (ik .i64) r.fDims), .fresh 1 r.fF.length (lm (ik .u32) r.fF), .fresh 1 r.fI.length (lm (ik .i64) r.fI), .fresh 1 r.fB.length (lm (bk) r.fB)])
noncomputable def C24 (fu : Nat) : Cm Tryz.prog T_Tensor T_Tensor := ⟨24, fun t => [.agg (c_T_Tensor t)], fun t => tens_Canon fu t, e24, fun t b h => ok24 fu t  b h, Zi⟩
theorem u24 {fu : Nat} {cp : CallP} (H : Hit cp (C24 fu).ct) : K24 fu cp := ⟨fun {a0 r} h => (C24 fu).at H a0 r h⟩
structure K26 (fu : Nat) (cp : CallP) : Prop where
 ap : ∀ {a0 : List T_Tensor} {r}, ewise_Vals fu a0 = some r → cp 26 [.arr a0.length (fm c_T_Tensor a0)] = some (.arr r.length (fm c_T_Val r))
noncomputable def C26 (fu : Nat) : Cm Tryz.prog (List T_Tensor) (List T_Val) := ⟨26, fun t => [.arr t.length (fm c_T_Tensor t)], fun t => ewise_Vals fu t, e26, fun t b h => ok26 fu t  b h, Zi⟩
theorem u26 {fu : Nat} {cp : CallP} (H : Hit cp (C26 fu).ct) : K26 fu cp := ⟨fun {a0 r} h => (C26 fu).at H a0 r h⟩
structure K25 (fu : Nat) (cp : CallP) : Prop where
 ap : ∀ {a0 : Int} {a1 : T_Setting} {a2 : List T_Val} {a3 : Int} {r}, infer_Node fu a0 a1 a2 a3 = some r → cp 25 [.v (.int .i64 a0), .agg (c_T_Setting a1), .arr a2.length (fm c_T_Val a2), .v (.int .i64 a3)] = some (.tuple [.arr r.1.length (fm c_T_Val r.1), .v (.int .i64 r.2)])
noncomputable def C25 (fu : Nat) : Cm Tryz.prog (Int × T_Setting × (List T_Val) × Int) ((List T_Val) × Int) := ⟨25, fun t => [.v (.int .i64 t.1), .agg (c_T_Setting t.2.1), .arr t.2.2.1.length (fm c_T_Val t.2.2.1), .v (.int .i64 t.2.2.2)], fun t => infer_Node fu t.1 t.2.1 t.2.2.1 t.2.2.2, e25, fun t b h => ok25 fu t.1 t.2.1 t.2.2.1 t.2.2.2  b h, Zi⟩
theorem u25 {fu : Nat} {cp : CallP} (H : Hit cp (C25 fu).ct) : K25 fu cp := ⟨fun {a0 a1 a2 a3 r} h => (C25 fu).at H (a0, a1, a2, a3) r h⟩
structure K29 (fu : Nat) (cp : CallP) : Prop where
 ap : ∀ {a0 : T_Setting} {a1 : List T_Tensor} {a2 : List Int} {r}, mat_gemm fu a0 a1 a2 = some r → cp 29 [.agg (c_T_Setting a0), .arr a1.length (fm c_T_Tensor a1), .arr a2.length (lm (ik .i64) a2)] = some (.fresh 1 r.length (lm (ik .u32) r))
noncomputable def C29 (fu : Nat) : Cm Tryz.prog (T_Setting × (List T_Tensor) × (List Int)) (List Int) := ⟨29, fun t => [.agg (c_T_Setting t.1), .arr t.2.1.length (fm c_T_Tensor t.2.1), .arr t.2.2.length (lm (ik .i64) t.2.2)], fun t => mat_gemm fu t.1 t.2.1 t.2.2, e29, fun t b h => ok29 fu t.1 t.2.1 t.2.2  b h, Zi⟩
theorem u29 {fu : Nat} {cp : CallP} (H : Hit cp (C29 fu).ct) : K29 fu cp := ⟨fun {a0 a1 a2 r} h => (C29 fu).at H (a0, a1, a2) r h⟩
def mat_Do.m1 : LJ 1 10 Unit ((List T_Tensor) × Int) := ⟨fun r s e => [(0, er e 0), (2, er e 2), (4, er e 4), (6, er e 6), (8, .own (0, 8, 77) 0 s.1.length s.1.length), (21, er e 21), (22, er e 22), (23, .v (.int .i64 s.2))], fun r s h => [((0, 4, 0), hr h (0, 4, 0)), ((0, 6, 0), hr h (0, 6, 0)), ((0, 8, 77), .sl true true 5 s.1.length (fm c_T_Tensor s.1))]⟩
def mat_Do.j1 : LJ 1 26 Unit (List T_Tensor) := ⟨fun r t e => [(0, er e 0), (2, er e 2), (4, er e 4), (6, er e 6), (8, .own (0, 8, 77) 0 t.length t.length)], fun r t h => [((0, 4, 0), hr h (0, 4, 0)), ((0, 6, 0), hr h (0, 6, 0)), ((0, 8, 77), .sl true true 5 t.length (fm c_T_Tensor t))]⟩
set_option maxHeartbeats 20000000 in
open mat_Do in
theorem w11 (cp : CallP) (fu : Nat) (x1 : Int) (x2 : T_Setting) (x3 : List T_Tensor) (H1 : K18 fu cp) (H2 : K23 fu cp) (H3 : K24 fu cp) (H4 : K26 fu cp) (H5 : K25 fu cp) (H6 : K27 fu cp) (H7 : K29 fu cp) : J (go Tryz.prog noC cp noI 0 [] d11 fu (finS Tryz.prog [.cell 6 31, .tmp 7] [31, 35]) (bodyOf Tryz.f11) (initE 0 [.v (.int .i64 x1), .agg (c_T_Setting x2), .arr x3.length (fm c_T_Tensor x3)]) [] []) (mat_Do fu x1 x2 x3) e11 := by
 unfold mat_Do e11
 have da := d11_at
 conv => arg 1; simp only [bodyOf, Tryz.f11]
 have z0 := d11_at
 have z1 := SE
 exact Wk
theorem ok11 (fu : Nat) (x1 : Int) (x2 : T_Setting) (x3 : List T_Tensor) (r) (h : mat_Do fu x1 x2 x3 = some r) : PureOK Tryz.prog 11 [.v (.int .i64 x1), .agg (c_T_Setting x2), .arr x3.length (fm c_T_Tensor x3)] (e11 r) := pureST mixed [(C18 fu).ct, (C23 fu).ct, (C24 fu).ct, (C26 fu).ct, (C25 fu).ct, (C27 fu).ct, (C29 fu).ct] (ids := [18, 23, 24, 26, 25, 27, 29]) rfl (by decide) i11 (C := noC) (ci := fun cp => noI) (fun cp ok => noI_ok) (fun cp H => w11 cp fu x1 x2 x3 (u18 H.1) (u23 H.2.1) (u24 H.2.2.1) (u26 H.2.2.2.1) (u25 H.2.2.2.2.1) (u27 H.2.2.2.2.2.1) (u29 H.2.2.2.2.2.2.1)) h
def d55 : List (Nat × List Nat) := [(0, [2]), (0, []), (0, [0, 3, 4, 5, 6, 7, 8, 9, 10, 11, 12])]
def d55_at := by have h := tabL d55.eq_1; simp only [AllAt, Nat.zero_add, Nat.reduceAdd] at h; exact h
theorem i55 : finfo Tryz.prog 55 d55 = some ⟨bodyOf Tryz.f55, [.tmp 2], [4]⟩ := finfo_at Tryz.func55 rfl (by kernel_rfl) (by kernel_rfl)
def e55 : Bool → AV := fun r => .v (.bool r)
set_option maxHeartbeats 20000000 in
theorem w55 (cp : CallP) (fu : Nat) (x1 : Int)  : J (go Tryz.prog noC cp noI 0 [] d55 fu (fin Tryz.prog [.tmp 2] [4]) (bodyOf Tryz.f55) (initE 0 [.v (.int .i64 x1)]) [] []) (ref12_Has fu x1) e55 := by
 unfold ref12_Has e55
 have da := d55_at
 conv => arg 1; simp only [bodyOf, Tryz.f55]
 have z0 := d55_at
 exact Wk
theorem ok55 (fu : Nat) (x1 : Int) (r) (h : ref12_Has fu x1 = some r) : PureOK Tryz.prog 55 [.v (.int .i64 x1)] (e55 r) := pureT mixed [] (ids := []) rfl (by decide) i55 (C := noC) (ci := fun cp => noI) (fun cp ok => noI_ok) (fun cp H => w55 cp fu x1 ) h
def d31 : List (Nat × List Nat) := [(0, [2]), (0, []), (0, [0, 3, 4, 5, 6, 7, 8, 9, 10, 11, 12])]
def d31_at := by have h := tabL d31.eq_1; simp only [AllAt, Nat.zero_add, Nat.reduceAdd] at h; exact h
theorem i31 : finfo Tryz.prog 31 d31 = some ⟨bodyOf Tryz.f31, [.tmp 2], [4]⟩ := finfo_at Tryz.func31 rfl (by kernel_rfl) (by kernel_rfl)
def e31 : Bool → AV := fun r => .v (.bool r)
set_option maxHeartbeats 20000000 in
theorem w31 (cp : CallP) (fu : Nat) (x1 : Int)  : J (go Tryz.prog noC cp noI 0 [] d31 fu (fin Tryz.prog [.tmp 2] [4]) (bodyOf Tryz.f31) (initE 0 [.v (.int .i64 x1)]) [] []) (ref05_Known fu x1) e31 := by
 unfold ref05_Known e31
 have da := d31_at
 conv => arg 1; simp only [bodyOf, Tryz.f31]
 have z0 := d31_at
 exact Wk
theorem ok31 (fu : Nat) (x1 : Int) (r) (h : ref05_Known fu x1 = some r) : PureOK Tryz.prog 31 [.v (.int .i64 x1)] (e31 r) := pureT mixed [] (ids := []) rfl (by decide) i31 (C := noC) (ci := fun cp => noI) (fun cp ok => noI_ok) (fun cp H => w31 cp fu x1 ) h
def d32 : List (Nat × List Nat) := [(0, [2, 3]), (0, [6]), (0, []), (0, []), (0, [9, 10, 11]), (0, [0, 8]), (0, []), (0, []), (0, [12, 13, 14]), (0, []), (0, [16, 17]), (0, []), (0, [18, 19, 20, 21]), (0, []), (0, []), (0, []), (0, [23, 24, 25, 26, 27, 28, 29, 30]), (0, []), (0, [31, 32, 33, 34, 35, 36, 37, 38]), (0, []), (0, [5]), (0, []), (0, []), (0, []), (0, [4]), (0, []), (0, []), (0, []), (0, []), (0, []), (0, []), (0, []), (0, [41, 42, 43]), (0, []), (0, [45, 46]), (0, []), (0, [47, 48, 49, 50, 51, 52, 53, 54, 55, 56, 57, 58, 59]), (0, []), (0, []), (0, []), (0, [61, 62, 63, 64, 65, 66]), (0, []), (0, [7, 67])]
def d32_at := by have h := tabL d32.eq_1; simp only [AllAt, Nat.zero_add, Nat.reduceAdd] at h; exact h
theorem i32 : finfo Tryz.prog 32 d32 = some ⟨bodyOf Tryz.f32, [.tmp 2, .tmp 3], [3, 35]⟩ := finfo_at Tryz.func32 rfl (by kernel_rfl) (by kernel_rfl)
def e32 : (Int × Int) → AV := fun r => .tuple [.v (.int .i64 r.1), .v (.int .i64 r.2)]
def ref04_Size.j2 : LJ 2 40 Unit Unit := ⟨fun r t e => [(0, er e 0), (7, er e 7), (8, er e 8)], fun r t h => []⟩
def ref04_Size.m1 : LJ 1 32 Unit (Int × Int) := ⟨fun r s e => [(0, er e 0), (7, .v (.int .i64 s.1)), (8, .v (.int .i64 s.2))], fun r s h => []⟩
def ref04_Size.j3 : LJ 3 18 Unit Bool := ⟨fun r t e => [(0, er e 0), (4, .v (.bool t)), (5, er e 5), (6, er e 6)], fun r t h => []⟩
def ref04_Size.m2 : LJ 2 8 Unit (Bool × Bool × Int) := ⟨fun r s e => [(0, er e 0), (4, .v (.bool s.1)), (5, .v (.bool s.2.1)), (6, .v (.int .i64 s.2.2))], fun r s h => []⟩
def ref04_Size.j1 : LJ 1 20 Unit (Bool × Bool) := ⟨fun r t e => [(0, er e 0), (4, .v (.bool t.1)), (5, .v (.bool t.2))], fun r t h => []⟩
set_option maxHeartbeats 20000000 in
open ref04_Size in
theorem w32 (cp : CallP) (fu : Nat) (x1 : List Int)  : J (go Tryz.prog noC cp noI 0 [] d32 fu (fin Tryz.prog [.tmp 2, .tmp 3] [3, 35]) (bodyOf Tryz.f32) (initE 0 [.arr x1.length (lm (ik .i64) x1)]) [] []) (ref04_Size fu x1) e32 := by
 unfold ref04_Size e32
 have da := d32_at
 conv => arg 1; simp only [bodyOf, Tryz.f32]
 have z0 := d32_at
 exact Wk
theorem ok32 (fu : Nat) (x1 : List Int) (r) (h : ref04_Size fu x1 = some r) : PureOK Tryz.prog 32 [.arr x1.length (lm (ik .i64) x1)] (e32 r) := pureT mixed [] (ids := []) rfl (by decide) i32 (C := noC) (ci := fun cp => noI) (fun cp ok => noI_ok) (fun cp H => w32 cp fu x1 ) h
def d14 : List (Nat × List Nat) := [(0, [0, 2]), (0, [3, 22]), (0, [8, 9, 10]), (0, []), (0, []), (0, []), (0, [12, 13, 14, 15, 16, 17]), (0, []), (0, [18]), (0, []), (0, [20]), (0, []), (0, [4]), (0, []), (0, []), (0, []), (0, []), (0, []), (0, [21]), (0, []), (0, [23]), (0, []), (0, [25]), (0, []), (0, [26]), (0, []), (0, [28]), (0, []), (0, [29]), (0, []), (0, [1, 5, 6, 7, 30, 31, 32, 33, 34, 35, 36, 37, 38, 39, 40, 41, 42, 43, 44, 45, 46, 47]), (0, []), (0, []), (0, []), (0, [])]
def d14_at := by have h := tabL d14.eq_1; simp only [AllAt, Nat.zero_add, Nat.reduceAdd] at h; exact h
theorem i14 : finfo Tryz.prog 14 d14 = some ⟨bodyOf Tryz.f14, [.tmp 2], [35]⟩ := finfo_at Tryz.func14 rfl (by kernel_rfl) (by kernel_rfl)
def e14 : Int → AV := fun r => .v (.int .i64 r)
structure K31 (fu : Nat) (cp : CallP) : Prop where
 ap : ∀ {a0 : Int} {r}, ref05_Known fu a0 = some r → cp 31 [.v (.int .i64 a0)] = some (.v (.bool r))
noncomputable def C31 (fu : Nat) : Cm Tryz.prog Int Bool := ⟨31, fun t => [.v (.int .i64 t)], fun t => ref05_Known fu t, e31, fun t b h => ok31 fu t  b h, Zi⟩
theorem u31 {fu : Nat} {cp : CallP} (H : Hit cp (C31 fu).ct) : K31 fu cp := ⟨fun {a0 r} h => (C31 fu).at H a0 r h⟩
structure K32 (fu : Nat) (cp : CallP) : Prop where
 ap : ∀ {a0 : List Int} {r}, ref04_Size fu a0 = some r → cp 32 [.arr a0.length (lm (ik .i64) a0)] = some (.tuple [.v (.int .i64 r.1), .v (.int .i64 r.2)])
noncomputable def C32 (fu : Nat) : Cm Tryz.prog (List Int) (Int × Int) := ⟨32, fun t => [.arr t.length (lm (ik .i64) t)], fun t => ref04_Size fu t, e32, fun t b h => ok32 fu t  b h, Zi⟩
theorem u32 {fu : Nat} {cp : CallP} (H : Hit cp (C32 fu).ct) : K32 fu cp := ⟨fun {a0 r} h => (C32 fu).at H a0 r h⟩
def ref05_Check.j1 : LJ 1 30 Unit (Int × Int × Int) := ⟨fun r t e => [(1, er e 1), (5, .v (.int .i64 t.1)), (6, .v (.int .i64 t.2.1)), (7, .v (.int .i64 t.2.2))], fun r t h => [((0, 1, 0), hr h (0, 1, 0))]⟩
set_option maxHeartbeats 20000000 in
open ref05_Check in
theorem w14 (cp : CallP) (fu : Nat) (x1 : T_Tensor) (H1 : K31 fu cp) (H2 : K32 fu cp) : J (go Tryz.prog noC cp noI 0 [] d14 fu (fin Tryz.prog [.tmp 2] [35]) (bodyOf Tryz.f14) (initE 0 [.agg (c_T_Tensor x1)]) [] []) (ref05_Check fu x1) e14 := by
 unfold ref05_Check e14
 have da := d14_at
 conv => arg 1; simp only [bodyOf, Tryz.f14]
 have z0 := d14_at
 exact Wk
theorem ok14 (fu : Nat) (x1 : T_Tensor) (r) (h : ref05_Check fu x1 = some r) : PureOK Tryz.prog 14 [.agg (c_T_Tensor x1)] (e14 r) := pureT mixed [(C31 fu).ct, (C32 fu).ct] (ids := [31, 32]) rfl (by decide) i14 (C := noC) (ci := fun cp => noI) (fun cp ok => noI_ok) (fun cp H => w14 cp fu x1 (u31 H.1) (u32 H.2.1)) h
def d56 : List (Nat × List Nat) := [(0, [2]), (0, [0, 3]), (0, []), (0, [4]), (0, [5, 6, 7]), (0, []), (0, [9, 10]), (0, []), (0, [11, 12, 13, 14, 15]), (0, []), (0, [17, 18, 19, 20, 21]), (0, []), (0, [22]), (0, []), (0, [24]), (0, []), (0, [])]
def d56_at := by have h := tabL d56.eq_1; simp only [AllAt, Nat.zero_add, Nat.reduceAdd] at h; exact h
theorem i56 : finfo Tryz.prog 56 d56 = some ⟨bodyOf Tryz.f56, [.tmp 2], [35]⟩ := finfo_at Tryz.func56 rfl (by kernel_rfl) (by kernel_rfl)
def e56 : Int → AV := fun r => .v (.int .i64 r)
structure K14 (fu : Nat) (cp : CallP) : Prop where
 ap : ∀ {a0 : T_Tensor} {r}, ref05_Check fu a0 = some r → cp 14 [.agg (c_T_Tensor a0)] = some (.v (.int .i64 r))
noncomputable def C14 (fu : Nat) : Cm Tryz.prog T_Tensor Int := ⟨14, fun t => [.agg (c_T_Tensor t)], fun t => ref05_Check fu t, e14, fun t b h => ok14 fu t  b h, Zi⟩
theorem u14 {fu : Nat} {cp : CallP} (H : Hit cp (C14 fu).ct) : K14 fu cp := ⟨fun {a0 r} h => (C14 fu).at H a0 r h⟩
def ref11_Right.m1 : LJ 1 4 Unit Int := ⟨fun r s e => [(0, er e 0), (3, .v (.int .i64 s))], fun r s h => []⟩
set_option maxHeartbeats 20000000 in
open ref11_Right in
theorem w56 (cp : CallP) (fu : Nat) (x1 : List T_Tensor) (H1 : K14 fu cp) : J (go Tryz.prog noC cp noI 0 [] d56 fu (fin Tryz.prog [.tmp 2] [35]) (bodyOf Tryz.f56) (initE 0 [.arr x1.length (fm c_T_Tensor x1)]) [] []) (ref11_Right fu x1) e56 := by
 unfold ref11_Right e56
 have da := d56_at
 conv => arg 1; simp only [bodyOf, Tryz.f56]
 have z0 := d56_at
 exact Wk
theorem ok56 (fu : Nat) (x1 : List T_Tensor) (r) (h : ref11_Right fu x1 = some r) : PureOK Tryz.prog 56 [.arr x1.length (fm c_T_Tensor x1)] (e56 r) := pureT mixed [(C14 fu).ct] (ids := [14]) rfl (by decide) i56 (C := noC) (ci := fun cp => noI) (fun cp ok => noI_ok) (fun cp H => w56 cp fu x1 (u14 H.1)) h
def d109 : List (Nat × List Nat) := [(0, [0]), (0, []), (0, [4, 5, 6]), (0, []), (0, [7, 8, 9, 10, 11, 12]), (0, []), (0, [13, 14, 15, 16, 17, 18]), (0, []), (0, [19, 20, 21, 22, 23, 24]), (0, []), (0, [1, 25, 26, 27, 28, 29, 30]), (0, []), (0, [3, 31])]
def d109_at := by have h := tabL d109.eq_1; simp only [AllAt, Nat.zero_add, Nat.reduceAdd] at h; exact h
theorem i109 : finfo Tryz.prog 109 d109 = some ⟨bodyOf Tryz.f109, [.cell 2 31], [31]⟩ := finfo_at Tryz.func109 rfl (by kernel_rfl) (by kernel_rfl)
def e109 : T_Tensor → AV := fun r => .agg [.v (.int .i64 r.fType), .fresh 1 r.fDims.length (lm (ik .i64) r.fDims), .fresh 1 r.fF.length (lm (ik .u32) r.fF), .fresh 1 r.fI.length (lm (ik .i64) r.fI), .fresh 1 r.fB.length (lm (bk) r.fB)]
set_option maxHeartbeats 20000000 in
theorem w109 (cp : CallP) (fu : Nat) (x1 : T_Tensor)  : J (go Tryz.prog noC cp noI 0 [] d109 fu (fin Tryz.prog [.cell 2 31] [31]) (bodyOf Tryz.f109) (initE 0 [.agg (c_T_Tensor x1)]) [] []) (ref05_Copy fu x1) e109 := by
 unfold ref05_Copy e109
 have da := d109_at
 conv => arg 1; simp only [bodyOf, Tryz.f109]
 have z0 := d109_at
 exact Wk
theorem ok109 (fu : Nat) (x1 : T_Tensor) (r) (h : ref05_Copy fu x1 = some r) : PureOK Tryz.prog 109 [.agg (c_T_Tensor x1)] (e109 r) := pureT mixed [] (ids := []) rfl (by decide) i109 (C := noC) (ci := fun cp => noI) (fun cp ok => noI_ok) (fun cp H => w109 cp fu x1 ) h
def d57 : List (Nat × List Nat) := [(0, [2]), (0, [0, 4]), (0, [8000003]), (0, []), (0, []), (0, []), (0, [6, 7, 8]), (0, []), (0, [10, 11]), (0, []), (0, [12]), (0, []), (0, [13, 14, 15, 16, 17]), (0, []), (11, [19, 20, 21, 22, 23, 24, 25, 26, 27, 28, 29]), (0, []), (7, [30, 31, 32, 33, 34, 35, 36, 37, 38]), (0, []), (0, [5, 39, 40, 41, 42]), (0, []), (0, [3, 43])]
def d57_at := by have h := tabL d57.eq_1; simp only [AllAt, Nat.zero_add, Nat.reduceAdd] at h; exact h
theorem i57 : finfo Tryz.prog 57 d57 = some ⟨bodyOf Tryz.f57, [.tmp 2], [51]⟩ := finfo_at Tryz.func57 rfl (by kernel_rfl) (by kernel_rfl)
def e57 : (List T_Val) → AV := fun r => .arr r.length (fm c_T_Val r)
structure K109 (fu : Nat) (cp : CallP) : Prop where
 ap : ∀ {a0 : T_Tensor} {r}, ref05_Copy fu a0 = some r → cp 109 [.agg (c_T_Tensor a0)] = some (.agg [.v (.int .i64 r.fType), .fresh 1 r.fDims.length (lm (ik .i64) r.fDims), .fresh 1 r.fF.length (lm (ik .u32) r.fF), .fresh 1 r.fI.length (lm (ik .i64) r.fI), .fresh 1 r.fB.length (lm (bk) r.fB)])
noncomputable def C109 (fu : Nat) : Cm Tryz.prog T_Tensor T_Tensor := ⟨109, fun t => [.agg (c_T_Tensor t)], fun t => ref05_Copy fu t, e109, fun t b h => ok109 fu t  b h, Zi⟩
theorem u109 {fu : Nat} {cp : CallP} (H : Hit cp (C109 fu).ct) : K109 fu cp := ⟨fun {a0 r} h => (C109 fu).at H a0 r h⟩
def ref11_Vals.m1 : LJ 1 6 Unit ((List T_Val) × Int) := ⟨fun r s e => [(0, er e 0), (3, .own (0, 3, 77) 0 s.1.length s.1.length), (4, .v (.int .i64 s.2))], fun r s h => [((0, 3, 77), .sl true true 8 s.1.length (fm c_T_Val s.1))]⟩
set_option maxHeartbeats 20000000 in
open ref11_Vals in
theorem w57 (cp : CallP) (fu : Nat) (x1 : List T_Tensor) (H1 : K109 fu cp) : J (go Tryz.prog noC cp noI 0 [] d57 fu (finS Tryz.prog [.tmp 2] [51]) (bodyOf Tryz.f57) (initE 0 [.arr x1.length (fm c_T_Tensor x1)]) [] []) (ref11_Vals fu x1) e57 := by
 unfold ref11_Vals e57
 have da := d57_at
 conv => arg 1; simp only [bodyOf, Tryz.f57]
 have z0 := d57_at
 have z1 := SE
 exact Wk
theorem ok57 (fu : Nat) (x1 : List T_Tensor) (r) (h : ref11_Vals fu x1 = some r) : PureOK Tryz.prog 57 [.arr x1.length (fm c_T_Tensor x1)] (e57 r) := pureST mixed [(C109 fu).ct] (ids := [109]) rfl (by decide) i57 (C := noC) (ci := fun cp => noI) (fun cp ok => noI_ok) (fun cp H => w57 cp fu x1 (u109 H.1)) h
def d167 : List (Nat × List Nat) := [(0, [2, 3, 4, 5]), (0, [12, 13, 38, 49, 54]), (0, [6, 7, 8, 9, 10]), (0, []), (0, []), (0, []), (0, [0]), (0, []), (0, [14]), (0, []), (0, [15]), (0, []), (0, [16]), (0, []), (0, [17]), (0, []), (0, [18]), (0, []), (0, [19]), (0, []), (0, [20]), (0, []), (0, [21]), (0, []), (0, [22]), (0, []), (0, [23]), (1, []), (0, [24]), (0, []), (0, [25]), (0, []), (0, [26]), (0, []), (0, [27]), (0, []), (0, [28]), (0, []), (0, [29]), (0, []), (0, [30]), (0, []), (0, [31]), (0, []), (0, [32]), (0, []), (0, [33]), (0, []), (0, [34]), (0, []), (0, [35]), (0, []), (0, [36]), (0, []), (0, [37]), (0, []), (0, []), (0, []), (0, [39]), (0, []), (0, [40]), (0, []), (0, []), (0, []), (0, [42]), (0, []), (0, []), (0, []), (0, [44]), (0, []), (0, []), (0, []), (0, [46]), (0, []), (0, []), (0, []), (0, [48]), (1, []), (0, []), (0, []), (0, [50]), (0, []), (0, [51]), (0, []), (0, [52]), (0, []), (0, [53]), (0, []), (0, []), (0, []), (0, [55]), (0, []), (0, [56]), (0, []), (0, []), (0, []), (0, [58]), (0, []), (0, []), (1, []), (0, [60]), (0, []), (0, []), (0, []), (0, []), (0, []), (0, []), (0, []), (0, []), (1, [])]
def d167_at := by have h := tabL d167.eq_1; simp only [AllAt, Nat.zero_add, Nat.reduceAdd] at h; exact h
theorem i167 : finfo Tryz.prog 167 d167 = some ⟨bodyOf Tryz.f167, [.tmp 2, .tmp 3, .tmp 4, .tmp 5], [3, 3, 3, 3]⟩ := finfo_at Tryz.func167 rfl (by kernel_rfl) (by kernel_rfl)
def e167 : (Int × Int × Int × Int) → AV := fun r => .tuple [.v (.int .i64 r.1), .v (.int .i64 r.2.1), .v (.int .i64 r.2.2.1), .v (.int .i64 r.2.2.2)]
def ref08_Arity.j3 : LJ 3 178 Unit Bool := ⟨fun r t e => [(12, er e 12), (13, er e 13), (38, er e 38), (49, .v (.bool t))], fun r t h => []⟩
def ref08_Arity.j2 : LJ 2 114 Unit Bool := ⟨fun r t e => [(12, er e 12), (13, .v (.bool t))], fun r t h => []⟩
def ref08_Arity.j1 : LJ 1 6 Unit Unit := ⟨fun r t e => [(0, er e 0)], fun r t h => []⟩
set_option maxHeartbeats 20000000 in
open ref08_Arity in
theorem w167 (cp : CallP) (fu : Nat) (x1 : Int)  : J (go Tryz.prog noC cp noI 0 [] d167 fu (fin Tryz.prog [.tmp 2, .tmp 3, .tmp 4, .tmp 5] [3, 3, 3, 3]) (bodyOf Tryz.f167) (initE 0 [.v (.int .i64 x1)]) [] []) (ref08_Arity fu x1) e167 := by
 unfold ref08_Arity e167
 have da := d167_at
 conv => arg 1; simp only [bodyOf, Tryz.f167]
 have z0 := d167_at
 exact Wk
theorem ok167 (fu : Nat) (x1 : Int) (r) (h : ref08_Arity fu x1 = some r) : PureOK Tryz.prog 167 [.v (.int .i64 x1)] (e167 r) := pureT mixed [] (ids := []) rfl (by decide) i167 (C := noC) (ci := fun cp => noI) (fun cp ok => noI_ok) (fun cp H => w167 cp fu x1 ) h
def d170 : List (Nat × List Nat) := [(0, []), (0, []), (0, [5, 6, 7]), (0, []), (0, [9]), (0, []), (0, [0, 1, 10, 11, 12, 13])]
def d170_at := by have h := tabL d170.eq_1; simp only [AllAt, Nat.zero_add, Nat.reduceAdd] at h; exact h
theorem i170 : finfo Tryz.prog 170 d170 = some ⟨bodyOf Tryz.f170, [.cell 4 56], [56]⟩ := finfo_at Tryz.func170 rfl (by kernel_rfl) (by kernel_rfl)
def e170 : T_Val → AV := fun r => .agg [.v (.int .i64 r.fType), .arr r.fDims.length (lm (ik .i64) r.fDims), .v (.bool r.fConst), .v (.int .i64 r.fT.fType), .arr r.fT.fDims.length (lm (ik .i64) r.fT.fDims), .arr r.fT.fF.length (lm (ik .u32) r.fT.fF), .arr r.fT.fI.length (lm (ik .i64) r.fT.fI), .arr r.fT.fB.length (lm (bk) r.fT.fB)]
set_option maxHeartbeats 20000000 in
theorem w170 (cp : CallP) (fu : Nat) (x1 : List T_Val) (x2 : Int)  : J (go Tryz.prog noC cp noI 0 [] d170 fu (finS Tryz.prog [.cell 4 56] [56]) (bodyOf Tryz.f170) (initE 0 [.arr x1.length (fm c_T_Val x1), .v (.int .i64 x2)]) [] []) (ref10_at fu x1 x2) e170 := by
 unfold ref10_at e170
 have da := d170_at
 conv => arg 1; simp only [bodyOf, Tryz.f170]
 have z0 := d170_at
 have z1 := SE
 exact Wk
theorem ok170 (fu : Nat) (x1 : List T_Val) (x2 : Int) (r) (h : ref10_at fu x1 x2 = some r) : PureOK Tryz.prog 170 [.arr x1.length (fm c_T_Val x1), .v (.int .i64 x2)] (e170 r) := pureST mixed [] (ids := []) rfl (by decide) i170 (C := noC) (ci := fun cp => noI) (fun cp ok => noI_ok) (fun cp H => w170 cp fu x1 x2 ) h
def d168 : List (Nat × List Nat) := [(0, [4]), (0, []), (0, [0, 1, 5, 6, 7, 8, 9])]
def d168_at := by have h := tabL d168.eq_1; simp only [AllAt, Nat.zero_add, Nat.reduceAdd] at h; exact h
theorem i168 : finfo Tryz.prog 168 d168 = some ⟨bodyOf Tryz.f168, [.tmp 4], [4]⟩ := finfo_at Tryz.func168 rfl (by kernel_rfl) (by kernel_rfl)
def e168 : Bool → AV := fun r => .v (.bool r)
structure K170 (fu : Nat) (cp : CallP) : Prop where
 ap : ∀ {a0 : List T_Val} {a1 : Int} {r}, ref10_at fu a0 a1 = some r → cp 170 [.arr a0.length (fm c_T_Val a0), .v (.int .i64 a1)] = some (.agg [.v (.int .i64 r.fType), .arr r.fDims.length (lm (ik .i64) r.fDims), .v (.bool r.fConst), .v (.int .i64 r.fT.fType), .arr r.fT.fDims.length (lm (ik .i64) r.fT.fDims), .arr r.fT.fF.length (lm (ik .u32) r.fT.fF), .arr r.fT.fI.length (lm (ik .i64) r.fT.fI), .arr r.fT.fB.length (lm (bk) r.fT.fB)])
noncomputable def C170 (fu : Nat) : Cm Tryz.prog ((List T_Val) × Int) T_Val := ⟨170, fun t => [.arr t.1.length (fm c_T_Val t.1), .v (.int .i64 t.2)], fun t => ref10_at fu t.1 t.2, e170, fun t b h => ok170 fu t.1 t.2  b h, Zi⟩
theorem u170 {fu : Nat} {cp : CallP} (H : Hit cp (C170 fu).ct) : K170 fu cp := ⟨fun {a0 a1 r} h => (C170 fu).at H (a0, a1) r h⟩
set_option maxHeartbeats 20000000 in
theorem w168 (cp : CallP) (fu : Nat) (x1 : List T_Val) (x2 : Int) (H1 : K170 fu cp) : J (go Tryz.prog noC cp noI 0 [] d168 fu (fin Tryz.prog [.tmp 4] [4]) (bodyOf Tryz.f168) (initE 0 [.arr x1.length (fm c_T_Val x1), .v (.int .i64 x2)]) [] []) (ref10_there fu x1 x2) e168 := by
 unfold ref10_there e168
 have da := d168_at
 conv => arg 1; simp only [bodyOf, Tryz.f168]
 have z0 := d168_at
 exact Wk
theorem ok168 (fu : Nat) (x1 : List T_Val) (x2 : Int) (r) (h : ref10_there fu x1 x2 = some r) : PureOK Tryz.prog 168 [.arr x1.length (fm c_T_Val x1), .v (.int .i64 x2)] (e168 r) := pureT mixed [(C170 fu).ct] (ids := [170]) rfl (by decide) i168 (C := noC) (ci := fun cp => noI) (fun cp ok => noI_ok) (fun cp H => w168 cp fu x1 x2 (u170 H.1)) h
def d110 : List (Nat × List Nat) := [(0, [6]), (0, [1, 7, 11]), (0, [12, 13, 14, 15, 16, 17, 18, 19, 20]), (0, []), (0, []), (0, []), (0, [0, 22, 23, 24, 25, 26, 27, 28]), (0, []), (0, [2, 8, 9, 10, 29, 30, 31, 32, 33, 34, 35, 36, 37, 38, 39, 40, 41, 42, 43, 44, 45, 46, 47]), (0, []), (0, []), (0, []), (0, []), (0, []), (0, [49, 50]), (0, []), (0, [52, 53]), (0, []), (0, [54, 55, 56]), (0, []), (0, []), (0, []), (0, [])]
def d110_at := by have h := tabL d110.eq_1; simp only [AllAt, Nat.zero_add, Nat.reduceAdd] at h; exact h
theorem i110 : finfo Tryz.prog 110 d110 = some ⟨bodyOf Tryz.f110, [.tmp 6], [4]⟩ := finfo_at Tryz.func110 rfl (by kernel_rfl) (by kernel_rfl)
def e110 : Bool → AV := fun r => .v (.bool r)
structure K167 (fu : Nat) (cp : CallP) : Prop where
 ap : ∀ {a0 : Int} {r}, ref08_Arity fu a0 = some r → cp 167 [.v (.int .i64 a0)] = some (.tuple [.v (.int .i64 r.1), .v (.int .i64 r.2.1), .v (.int .i64 r.2.2.1), .v (.int .i64 r.2.2.2)])
noncomputable def C167 (fu : Nat) : Cm Tryz.prog Int (Int × Int × Int × Int) := ⟨167, fun t => [.v (.int .i64 t)], fun t => ref08_Arity fu t, e167, fun t b h => ok167 fu t  b h, Zi⟩
theorem u167 {fu : Nat} {cp : CallP} (H : Hit cp (C167 fu).ct) : K167 fu cp := ⟨fun {a0 r} h => (C167 fu).at H a0 r h⟩
structure K168 (fu : Nat) (cp : CallP) : Prop where
 ap : ∀ {a0 : List T_Val} {a1 : Int} {r}, ref10_there fu a0 a1 = some r → cp 168 [.arr a0.length (fm c_T_Val a0), .v (.int .i64 a1)] = some (.v (.bool r))
noncomputable def C168 (fu : Nat) : Cm Tryz.prog ((List T_Val) × Int) Bool := ⟨168, fun t => [.arr t.1.length (fm c_T_Val t.1), .v (.int .i64 t.2)], fun t => ref10_there fu t.1 t.2, e168, fun t b h => ok168 fu t.1 t.2  b h, Zi⟩
theorem u168 {fu : Nat} {cp : CallP} (H : Hit cp (C168 fu).ct) : K168 fu cp := ⟨fun {a0 a1 r} h => (C168 fu).at H (a0, a1) r h⟩
def ref10_given.m1 : LJ 1 14 Unit Int := ⟨fun r s e => [(1, er e 1), (7, er e 7), (11, .v (.int .i64 s))], fun r s h => []⟩
def ref10_given.j2 : LJ 2 12 Unit Unit := ⟨fun r t e => [(1, er e 1), (7, er e 7)], fun r t h => []⟩
def ref10_given.j1 : LJ 1 6 Unit Unit := ⟨fun r t e => [(0, er e 0), (1, er e 1), (2, er e 2)], fun r t h => []⟩
set_option maxHeartbeats 20000000 in
open ref10_given in
theorem w110 (cp : CallP) (fu : Nat) (x1 : Int) (x2 : List T_Val) (x3 : Int) (H1 : K167 fu cp) (H2 : K168 fu cp) : J (go Tryz.prog noC cp noI 0 [] d110 fu (fin Tryz.prog [.tmp 6] [4]) (bodyOf Tryz.f110) (initE 0 [.v (.int .i64 x1), .arr x2.length (fm c_T_Val x2), .v (.int .i64 x3)]) [] []) (ref10_given fu x1 x2 x3) e110 := by
 unfold ref10_given e110
 have da := d110_at
 conv => arg 1; simp only [bodyOf, Tryz.f110]
 have z0 := d110_at
 exact Wk
theorem ok110 (fu : Nat) (x1 : Int) (x2 : List T_Val) (x3 : Int) (r) (h : ref10_given fu x1 x2 x3 = some r) : PureOK Tryz.prog 110 [.v (.int .i64 x1), .arr x2.length (fm c_T_Val x2), .v (.int .i64 x3)] (e110 r) := pureT mixed [(C167 fu).ct, (C168 fu).ct] (ids := [167, 168]) rfl (by decide) i110 (C := noC) (ci := fun cp => noI) (fun cp ok => noI_ok) (fun cp H => w110 cp fu x1 x2 x3 (u167 H.1) (u168 H.2.1)) h
def d111 : List (Nat × List Nat) := [(0, [2]), (0, [0, 3]), (0, []), (0, []), (0, [6, 7, 8]), (0, []), (0, [10, 11]), (0, []), (0, [4, 12, 13, 14, 15, 16, 17, 18, 19, 20]), (0, []), (0, [5, 21, 22, 23, 24, 25, 26]), (0, []), (0, []), (0, []), (0, [])]
def d111_at := by have h := tabL d111.eq_1; simp only [AllAt, Nat.zero_add, Nat.reduceAdd] at h; exact h
theorem i111 : finfo Tryz.prog 111 d111 = some ⟨bodyOf Tryz.f111, [.tmp 2], [4]⟩ := finfo_at Tryz.func111 rfl (by kernel_rfl) (by kernel_rfl)
def e111 : Bool → AV := fun r => .v (.bool r)
def ref10_sized.m1 : LJ 1 4 Unit Int := ⟨fun r s e => [(0, er e 0), (3, .v (.int .i64 s))], fun r s h => []⟩
set_option maxHeartbeats 20000000 in
open ref10_sized in
theorem w111 (cp : CallP) (fu : Nat) (x1 : List T_Val) (H1 : K32 fu cp) (H2 : K168 fu cp) : J (go Tryz.prog noC cp noI 0 [] d111 fu (fin Tryz.prog [.tmp 2] [4]) (bodyOf Tryz.f111) (initE 0 [.arr x1.length (fm c_T_Val x1)]) [] []) (ref10_sized fu x1) e111 := by
 unfold ref10_sized e111
 have da := d111_at
 conv => arg 1; simp only [bodyOf, Tryz.f111]
 have z0 := d111_at
 exact Wk
theorem ok111 (fu : Nat) (x1 : List T_Val) (r) (h : ref10_sized fu x1 = some r) : PureOK Tryz.prog 111 [.arr x1.length (fm c_T_Val x1)] (e111 r) := pureT mixed [(C32 fu).ct, (C168 fu).ct] (ids := [32, 168]) rfl (by decide) i111 (C := noC) (ci := fun cp => noI) (fun cp ok => noI_ok) (fun cp H => w111 cp fu x1 (u32 H.1) (u168 H.2.1)) h
def d177 : List (Nat × List Nat) := [(0, [2, 3]), (0, [4, 5]), (0, [0]), (0, []), (0, [6]), (0, []), (0, [7]), (0, []), (0, [8]), (0, []), (0, [9]), (1, []), (0, [10]), (0, []), (0, [11]), (0, []), (0, [12]), (0, []), (0, [13]), (0, []), (0, []), (0, []), (0, [15]), (0, []), (0, []), (0, []), (0, [17]), (0, []), (0, []), (0, []), (0, [])]
def d177_at := by have h := tabL d177.eq_1; simp only [AllAt, Nat.zero_add, Nat.reduceAdd] at h; exact h
theorem i177 : finfo Tryz.prog 177 d177 = some ⟨bodyOf Tryz.f177, [.tmp 2, .tmp 3], [3, 3]⟩ := finfo_at Tryz.func177 rfl (by kernel_rfl) (by kernel_rfl)
def e177 : (Int × Int) → AV := fun r => .tuple [.v (.int .i64 r.1), .v (.int .i64 r.2)]
def ref10_told.j1 : LJ 1 42 Unit Unit := ⟨fun r t e => [(4, er e 4), (5, .v (.bool (decide ((45 : Int) = 53))))], fun r t h => []⟩
set_option maxHeartbeats 20000000 in
open ref10_told in
theorem w177 (cp : CallP) (fu : Nat) (x1 : Int)  : J (go Tryz.prog noC cp noI 0 [] d177 fu (fin Tryz.prog [.tmp 2, .tmp 3] [3, 3]) (bodyOf Tryz.f177) (initE 0 [.v (.int .i64 x1)]) [] []) (ref10_told fu x1) e177 := by
 unfold ref10_told e177
 have da := d177_at
 conv => arg 1; simp only [bodyOf, Tryz.f177]
 have z0 := d177_at
 exact Wk
theorem ok177 (fu : Nat) (x1 : Int) (r) (h : ref10_told fu x1 = some r) : PureOK Tryz.prog 177 [.v (.int .i64 x1)] (e177 r) := pureT mixed [] (ids := []) rfl (by decide) i177 (C := noC) (ci := fun cp => noI) (fun cp ok => noI_ok) (fun cp H => w177 cp fu x1 ) h
def d175 : List (Nat × List Nat) := [(0, [2]), (0, []), (0, [0, 3, 4, 5, 6, 7, 8, 9, 10, 11, 12])]
def d175_at := by have h := tabL d175.eq_1; simp only [AllAt, Nat.zero_add, Nat.reduceAdd] at h; exact h
theorem i175 : finfo Tryz.prog 175 d175 = some ⟨bodyOf Tryz.f175, [.tmp 2], [4]⟩ := finfo_at Tryz.func175 rfl (by kernel_rfl) (by kernel_rfl)
def e175 : Bool → AV := fun r => .v (.bool r)
set_option maxHeartbeats 20000000 in
theorem w175 (cp : CallP) (fu : Nat) (x1 : Int)  : J (go Tryz.prog noC cp noI 0 [] d175 fu (fin Tryz.prog [.tmp 2] [4]) (bodyOf Tryz.f175) (initE 0 [.v (.int .i64 x1)]) [] []) (ref10_known fu x1) e175 := by
 unfold ref10_known e175
 have da := d175_at
 conv => arg 1; simp only [bodyOf, Tryz.f175]
 have z0 := d175_at
 exact Wk
theorem ok175 (fu : Nat) (x1 : Int) (r) (h : ref10_known fu x1 = some r) : PureOK Tryz.prog 175 [.v (.int .i64 x1)] (e175 r) := pureT mixed [] (ids := []) rfl (by decide) i175 (C := noC) (ci := fun cp => noI) (fun cp ok => noI_ok) (fun cp H => w175 cp fu x1 ) h
def d169 : List (Nat × List Nat) := [(0, [4]), (0, [1, 5, 6, 7]), (0, [0, 8, 9, 10, 11, 12]), (0, []), (0, []), (0, []), (0, [13, 14, 15]), (0, []), (0, [17, 18]), (0, []), (0, [19, 20, 21]), (0, []), (0, [23, 24, 25, 26, 27, 28, 29, 30, 31, 32, 33, 34, 35, 36, 37, 38, 39, 40, 41, 42, 43, 44, 45, 46]), (0, []), (0, []), (0, []), (0, [])]
def d169_at := by have h := tabL d169.eq_1; simp only [AllAt, Nat.zero_add, Nat.reduceAdd] at h; exact h
theorem i169 : finfo Tryz.prog 169 d169 = some ⟨bodyOf Tryz.f169, [.tmp 4], [4]⟩ := finfo_at Tryz.func169 rfl (by kernel_rfl) (by kernel_rfl)
def e169 : Bool → AV := fun r => .v (.bool r)
structure K177 (fu : Nat) (cp : CallP) : Prop where
 ap : ∀ {a0 : Int} {r}, ref10_told fu a0 = some r → cp 177 [.v (.int .i64 a0)] = some (.tuple [.v (.int .i64 r.1), .v (.int .i64 r.2)])
noncomputable def C177 (fu : Nat) : Cm Tryz.prog Int (Int × Int) := ⟨177, fun t => [.v (.int .i64 t)], fun t => ref10_told fu t, e177, fun t b h => ok177 fu t  b h, Zi⟩
theorem u177 {fu : Nat} {cp : CallP} (H : Hit cp (C177 fu).ct) : K177 fu cp := ⟨fun {a0 r} h => (C177 fu).at H a0 r h⟩
structure K175 (fu : Nat) (cp : CallP) : Prop where
 ap : ∀ {a0 : Int} {r}, ref10_known fu a0 = some r → cp 175 [.v (.int .i64 a0)] = some (.v (.bool r))
noncomputable def C175 (fu : Nat) : Cm Tryz.prog Int Bool := ⟨175, fun t => [.v (.int .i64 t)], fun t => ref10_known fu t, e175, fun t b h => ok175 fu t  b h, Zi⟩
theorem u175 {fu : Nat} {cp : CallP} (H : Hit cp (C175 fu).ct) : K175 fu cp := ⟨fun {a0 r} h => (C175 fu).at H a0 r h⟩
def ref10_typed.m1 : LJ 1 6 Unit Int := ⟨fun r s e => [(1, er e 1), (5, er e 5), (6, er e 6), (7, .v (.int .i64 s))], fun r s h => []⟩
set_option maxHeartbeats 20000000 in
open ref10_typed in
theorem w169 (cp : CallP) (fu : Nat) (x1 : Int) (x2 : List T_Val) (H1 : K177 fu cp) (H2 : K168 fu cp) (H3 : K175 fu cp) : J (go Tryz.prog noC cp noI 0 [] d169 fu (fin Tryz.prog [.tmp 4] [4]) (bodyOf Tryz.f169) (initE 0 [.v (.int .i64 x1), .arr x2.length (fm c_T_Val x2)]) [] []) (ref10_typed fu x1 x2) e169 := by
 unfold ref10_typed e169
 have da := d169_at
 conv => arg 1; simp only [bodyOf, Tryz.f169]
 have z0 := d169_at
 exact Wk
theorem ok169 (fu : Nat) (x1 : Int) (x2 : List T_Val) (r) (h : ref10_typed fu x1 x2 = some r) : PureOK Tryz.prog 169 [.v (.int .i64 x1), .arr x2.length (fm c_T_Val x2)] (e169 r) := pureT mixed [(C177 fu).ct, (C168 fu).ct, (C175 fu).ct] (ids := [177, 168, 175]) rfl (by decide) i169 (C := noC) (ci := fun cp => noI) (fun cp ok => noI_ok) (fun cp H => w169 cp fu x1 x2 (u177 H.1) (u168 H.2.1) (u175 H.2.2.1)) h
def d112 : List (Nat × List Nat) := [(0, [1, 6]), (0, [0, 2, 4, 7, 8, 9]), (0, [10, 11, 12]), (0, []), (0, []), (0, []), (0, [14, 15, 16]), (0, []), (0, [17, 18, 19]), (0, []), (0, [20, 21, 22]), (0, []), (0, [24, 25, 26, 27, 28, 29, 30, 31, 32, 33, 34, 35, 36, 37]), (0, []), (0, [38, 39]), (0, []), (0, [41, 42, 43, 44, 45, 46, 47, 48, 49, 50, 51, 52, 53, 54, 55, 56, 57, 58, 59, 60, 61, 62, 63, 64, 65, 66]), (0, []), (0, [67, 68]), (0, []), (0, [70, 71, 72, 73, 74, 75]), (0, []), (0, [76, 77]), (0, []), (0, [79, 80, 81, 82, 83, 84, 85, 86, 87, 88, 89, 90, 91, 92, 93, 94, 95, 96]), (0, []), (0, [97, 98, 99, 100, 101, 102, 103]), (0, []), (0, [105, 106, 107, 108, 109, 110]), (0, []), (0, [111, 112, 113]), (0, []), (0, [115, 116]), (0, []), (0, [117, 118, 119, 120, 121, 122, 123]), (0, []), (0, [125, 126, 127, 128, 129, 130]), (0, []), (0, [131, 132]), (0, []), (0, [134, 135]), (0, []), (0, [136, 137, 138, 139, 140, 141, 142, 143, 144, 145, 146, 147, 148, 149, 150, 151]), (0, []), (0, [153, 154]), (0, []), (0, [155, 156, 157, 158, 159, 160, 161]), (0, []), (0, [])]
def d112_at := by have h := tabL d112.eq_1; simp only [AllAt, Nat.zero_add, Nat.reduceAdd] at h; exact h
theorem i112 : finfo Tryz.prog 112 d112 = some ⟨bodyOf Tryz.f112, [.tmp 6], [4]⟩ := finfo_at Tryz.func112 rfl (by kernel_rfl) (by kernel_rfl)
def e112 : Bool → AV := fun r => .v (.bool r)
structure K169 (fu : Nat) (cp : CallP) : Prop where
 ap : ∀ {a0 : Int} {a1 : List T_Val} {r}, ref10_typed fu a0 a1 = some r → cp 169 [.v (.int .i64 a0), .arr a1.length (fm c_T_Val a1)] = some (.v (.bool r))
noncomputable def C169 (fu : Nat) : Cm Tryz.prog (Int × (List T_Val)) Bool := ⟨169, fun t => [.v (.int .i64 t.1), .arr t.2.length (fm c_T_Val t.2)], fun t => ref10_typed fu t.1 t.2, e169, fun t b h => ok169 fu t.1 t.2  b h, Zi⟩
theorem u169 {fu : Nat} {cp : CallP} (H : Hit cp (C169 fu).ct) : K169 fu cp := ⟨fun {a0 a1 r} h => (C169 fu).at H (a0, a1) r h⟩
set_option maxHeartbeats 20000000 in
theorem w112 (cp : CallP) (fu : Nat) (x1 : Int) (x2 : T_Setting) (x3 : List T_Val) (H1 : K169 fu cp) (H2 : K170 fu cp) : J (go Tryz.prog noC cp noI 0 [] d112 fu (fin Tryz.prog [.tmp 6] [4]) (bodyOf Tryz.f112) (initE 0 [.v (.int .i64 x1), .agg (c_T_Setting x2), .arr x3.length (fm c_T_Val x3)]) [] []) (ref10_types fu x1 x2 x3) e112 := by
 unfold ref10_types e112
 have da := d112_at
 conv => arg 1; simp only [bodyOf, Tryz.f112]
 have z0 := d112_at
 exact Wk
theorem ok112 (fu : Nat) (x1 : Int) (x2 : T_Setting) (x3 : List T_Val) (r) (h : ref10_types fu x1 x2 x3 = some r) : PureOK Tryz.prog 112 [.v (.int .i64 x1), .agg (c_T_Setting x2), .arr x3.length (fm c_T_Val x3)] (e112 r) := pureT mixed [(C169 fu).ct, (C170 fu).ct] (ids := [169, 170]) rfl (by decide) i112 (C := noC) (ci := fun cp => noI) (fun cp ok => noI_ok) (fun cp H => w112 cp fu x1 x2 x3 (u169 H.1) (u170 H.2.1)) h
def d173 : List (Nat × List Nat) := [(0, [4]), (0, [0, 1, 5, 6]), (0, [7, 8, 9]), (0, []), (0, []), (0, []), (0, [11, 12]), (0, []), (0, []), (0, []), (0, [13, 14]), (0, []), (0, [16, 17]), (0, []), (0, [18, 19, 20, 21, 22, 23, 24, 25, 26, 27, 28, 29, 30, 31, 32, 33, 34, 35, 36, 37, 38]), (0, []), (0, []), (0, []), (0, [40, 41, 42, 43, 44, 45]), (0, []), (0, [])]
def d173_at := by have h := tabL d173.eq_1; simp only [AllAt, Nat.zero_add, Nat.reduceAdd] at h; exact h
theorem i173 : finfo Tryz.prog 173 d173 = some ⟨bodyOf Tryz.f173, [.tmp 4], [4]⟩ := finfo_at Tryz.func173 rfl (by kernel_rfl) (by kernel_rfl)
def e173 : Bool → AV := fun r => .v (.bool r)
def ref10_order.j1 : LJ 1 18 Unit Unit := ⟨fun r t e => [(0, er e 0), (1, er e 1), (5, er e 5), (6, er e 6)], fun r t h => [((0, 12, 0), hr h (0, 12, 0))]⟩
def ref10_order.m1 : LJ 1 10 Unit ((List Bool) × Int) := ⟨fun r s e => [(0, er e 0), (1, er e 1), (5, .own (0, 12, 0) 0 s.1.length s.1.length), (6, .v (.int .i64 s.2))], fun r s h => [((0, 12, 0), .sl true true 1 s.1.length (lm (bk) s.1))]⟩
set_option maxHeartbeats 20000000 in
open ref10_order in
theorem w173 (cp : CallP) (fu : Nat) (x1 : List Int) (x2 : Int)  : J (go Tryz.prog noC cp noI 0 [] d173 fu (fin Tryz.prog [.tmp 4] [4]) (bodyOf Tryz.f173) (initE 0 [.arr x1.length (lm (ik .i64) x1), .v (.int .i64 x2)]) [] []) (ref10_order fu x1 x2) e173 := by
 unfold ref10_order e173
 have da := d173_at
 conv => arg 1; simp only [bodyOf, Tryz.f173]
 have z0 := d173_at
 exact Wk
theorem ok173 (fu : Nat) (x1 : List Int) (x2 : Int) (r) (h : ref10_order fu x1 x2 = some r) : PureOK Tryz.prog 173 [.arr x1.length (lm (ik .i64) x1), .v (.int .i64 x2)] (e173 r) := pureT mixed [] (ids := []) rfl (by decide) i173 (C := noC) (ci := fun cp => noI) (fun cp ok => noI_ok) (fun cp H => w173 cp fu x1 x2 ) h
def d113 : List (Nat × List Nat) := [(0, [1, 6]), (0, [4, 7, 8, 18, 39, 71, 113, 154]), (0, [2, 13, 14]), (0, []), (0, [15, 16, 17]), (0, []), (0, [0]), (0, []), (0, [20]), (0, []), (0, [21, 22, 23, 24, 25, 26, 27]), (0, []), (0, [29]), (0, []), (0, [30, 31, 32, 33, 34, 35, 36, 37, 38]), (0, []), (0, [40]), (0, []), (0, [41]), (0, []), (0, [42]), (0, []), (0, [43]), (0, []), (0, [44]), (0, []), (0, [45]), (0, []), (0, [46]), (0, []), (0, [47]), (0, []), (0, [48]), (0, []), (0, [9, 49, 50, 51, 52, 53, 54, 55]), (0, []), (0, [10, 56, 57]), (0, []), (0, [59]), (0, []), (0, [60, 61, 62, 63, 64, 65, 66, 67, 68, 69, 70]), (0, []), (0, [72]), (0, []), (0, [73]), (0, []), (0, [74]), (0, []), (0, [75]), (0, []), (0, [11, 76, 77, 78, 79, 80, 81, 82]), (0, []), (0, [12, 83, 84]), (0, []), (0, [86]), (0, []), (0, [87, 88, 89]), (0, []), (0, [91]), (0, []), (0, [92, 93, 94, 95, 96, 97, 98, 99, 100, 101, 102, 103, 104, 105, 106, 107, 108, 109, 110, 111, 112]), (0, []), (0, [114]), (0, []), (0, [115]), (0, []), (0, [116, 117, 118, 119, 120, 121, 122, 123]), (0, []), (0, [125]), (0, []), (0, [126, 127, 128, 129, 130, 131, 132, 133, 134, 135, 136, 137, 138, 139, 140, 141, 142, 143, 144, 145, 146, 147, 148, 149, 150, 151, 152, 153]), (0, []), (0, [155]), (0, []), (0, [156]), (0, []), (0, [157, 158, 159, 160, 161, 162, 163, 164, 165, 166, 167, 168, 169, 170, 171, 172, 173, 174, 175]), (0, []), (0, []), (1, []), (0, []), (0, []), (0, []), (0, []), (0, []), (0, []), (0, []), (0, []), (0, []), (0, []), (0, []), (0, []), (0, []), (0, []), (0, []), (0, []), (0, []), (0, []), (0, []), (0, []), (0, []), (0, []), (0, []), (0, []), (0, []), (0, []), (0, []), (0, []), (0, []), (0, []), (0, []), (0, []), (0, []), (0, []), (0, []), (0, []), (0, []), (0, []), (0, []), (0, []), (0, []), (0, []), (0, []), (0, []), (0, []), (0, []), (0, []), (0, []), (0, []), (0, []), (0, []), (0, []), (0, []), (0, []), (0, []), (0, []), (0, []), (0, []), (0, []), (0, []), (0, []), (0, []), (0, []), (1, []), (0, []), (0, []), (0, []), (0, []), (0, []), (0, []), (0, []), (0, []), (0, []), (0, []), (0, []), (0, []), (0, []), (0, []), (0, []), (0, []), (0, []), (0, []), (0, []), (0, []), (0, []), (0, []), (0, []), (0, []), (0, []), (0, []), (0, []), (0, []), (0, []), (0, []), (0, []), (0, []), (0, []), (0, []), (0, []), (0, []), (0, []), (0, []), (0, []), (0, []), (0, []), (0, []), (0, []), (0, []), (0, []), (0, []), (0, []), (0, []), (0, []), (0, []), (0, []), (0, []), (0, []), (0, []), (0, []), (0, []), (0, []), (0, []), (0, []), (0, []), (0, []), (0, []), (0, []), (0, []), (0, []), (0, []), (0, []), (0, []), (0, []), (0, []), (0, []), (0, []), (0, []), (0, []), (0, []), (0, []), (0, []), (0, []), (0, []), (0, []), (0, []), (0, []), (0, []), (1, []), (0, []), (0, []), (0, []), (0, []), (0, []), (0, []), (0, []), (0, []), (0, []), (0, []), (0, []), (0, []), (0, []), (0, []), (0, []), (0, []), (0, []), (0, []), (0, []), (0, []), (0, []), (0, []), (0, []), (0, []), (0, []), (0, []), (0, []), (0, []), (0, []), (0, []), (0, []), (0, []), (0, []), (0, []), (0, []), (0, []), (0, []), (0, []), (0, []), (0, []), (0, []), (0, []), (0, []), (0, []), (0, []), (0, []), (0, []), (0, []), (0, []), (0, []), (0, []), (0, []), (0, []), (0, []), (0, []), (0, []), (0, []), (0, []), (0, []), (0, []), (0, []), (0, []), (0, []), (0, []), (0, []), (0, []), (0, []), (0, []), (0, []), (0, []), (0, []), (0, []), (0, []), (0, []), (0, []), (0, []), (0, []), (0, []), (0, []), (0, []), (0, []), (1, [])]
def d113_at := by have h := tabL d113.eq_1; simp only [AllAt, Nat.zero_add, Nat.reduceAdd] at h; exact h
theorem i113 : finfo Tryz.prog 113 d113 = some ⟨bodyOf Tryz.f113, [.tmp 6], [4]⟩ := finfo_at Tryz.func113 rfl (by kernel_rfl) (by kernel_rfl)
def e113 : Bool → AV := fun r => .v (.bool r)
structure K173 (fu : Nat) (cp : CallP) : Prop where
 ap : ∀ {a0 : List Int} {a1 : Int} {r}, ref10_order fu a0 a1 = some r → cp 173 [.arr a0.length (lm (ik .i64) a0), .v (.int .i64 a1)] = some (.v (.bool r))
noncomputable def C173 (fu : Nat) : Cm Tryz.prog ((List Int) × Int) Bool := ⟨173, fun t => [.arr t.1.length (lm (ik .i64) t.1), .v (.int .i64 t.2)], fun t => ref10_order fu t.1 t.2, e173, fun t b h => ok173 fu t.1 t.2  b h, Zi⟩
theorem u173 {fu : Nat} {cp : CallP} (H : Hit cp (C173 fu).ct) : K173 fu cp := ⟨fun {a0 a1 r} h => (C173 fu).at H (a0, a1) r h⟩
set_option maxHeartbeats 20000000 in
theorem w113 (cp : CallP) (fu : Nat) (x1 : Int) (x2 : T_Setting) (x3 : List T_Val) (H1 : K170 fu cp) (H2 : K173 fu cp) : J (go Tryz.prog noC cp noI 0 [] d113 fu (fin Tryz.prog [.tmp 6] [4]) (bodyOf Tryz.f113) (initE 0 [.v (.int .i64 x1), .agg (c_T_Setting x2), .arr x3.length (fm c_T_Val x3)]) [] []) (ref10_attrs fu x1 x2 x3) e113 := by
 unfold ref10_attrs e113
 have da := d113_at
 conv => arg 1; simp only [bodyOf, Tryz.f113]
 have z0 := d113_at
 exact Wk
theorem ok113 (fu : Nat) (x1 : Int) (x2 : T_Setting) (x3 : List T_Val) (r) (h : ref10_attrs fu x1 x2 x3 = some r) : PureOK Tryz.prog 113 [.v (.int .i64 x1), .agg (c_T_Setting x2), .arr x3.length (fm c_T_Val x3)] (e113 r) := pureT mixed [(C170 fu).ct, (C173 fu).ct] (ids := [170, 173]) rfl (by decide) i113 (C := noC) (ci := fun cp => noI) (fun cp ok => noI_ok) (fun cp H => w113 cp fu x1 x2 x3 (u170 H.1) (u173 H.2.1)) h
def d114 : List (Nat × List Nat) := [(0, [4]), (0, [1, 6, 7]), (0, [0, 8, 9, 10, 11, 12]), (0, []), (0, [5, 13]), (0, []), (0, [14, 15]), (0, []), (0, [17, 18]), (0, []), (0, [19, 20, 21, 22, 23, 24, 25, 26, 27, 28, 29, 30, 31, 32, 33, 34, 35]), (0, []), (0, []), (0, []), (0, [])]
def d114_at := by have h := tabL d114.eq_1; simp only [AllAt, Nat.zero_add, Nat.reduceAdd] at h; exact h
theorem i114 : finfo Tryz.prog 114 d114 = some ⟨bodyOf Tryz.f114, [.tmp 4], [4]⟩ := finfo_at Tryz.func114 rfl (by kernel_rfl) (by kernel_rfl)
def e114 : Bool → AV := fun r => .v (.bool r)
def ref10_consts.m1 : LJ 1 6 Unit Int := ⟨fun r s e => [(1, er e 1), (6, er e 6), (7, .v (.int .i64 s))], fun r s h => []⟩
set_option maxHeartbeats 20000000 in
open ref10_consts in
theorem w114 (cp : CallP) (fu : Nat) (x1 : Int) (x2 : List T_Val) (H1 : K177 fu cp) (H2 : K168 fu cp) : J (go Tryz.prog noC cp noI 0 [] d114 fu (fin Tryz.prog [.tmp 4] [4]) (bodyOf Tryz.f114) (initE 0 [.v (.int .i64 x1), .arr x2.length (fm c_T_Val x2)]) [] []) (ref10_consts fu x1 x2) e114 := by
 unfold ref10_consts e114
 have da := d114_at
 conv => arg 1; simp only [bodyOf, Tryz.f114]
 have z0 := d114_at
 exact Wk
theorem ok114 (fu : Nat) (x1 : Int) (x2 : List T_Val) (r) (h : ref10_consts fu x1 x2 = some r) : PureOK Tryz.prog 114 [.v (.int .i64 x1), .arr x2.length (fm c_T_Val x2)] (e114 r) := pureT mixed [(C177 fu).ct, (C168 fu).ct] (ids := [177, 168]) rfl (by decide) i114 (C := noC) (ci := fun cp => noI) (fun cp ok => noI_ok) (fun cp H => w114 cp fu x1 x2 (u177 H.1) (u168 H.2.1)) h
def d115 : List (Nat × List Nat) := [(0, [4]), (0, [1, 6, 7]), (0, [0, 8, 9, 10, 11, 12]), (0, []), (0, [5, 13]), (0, []), (0, [14, 15]), (0, []), (0, [17, 18]), (0, []), (0, [19, 20, 21, 22, 23, 24, 25, 26, 27, 28, 29]), (0, []), (0, []), (0, []), (0, [])]
def d115_at := by have h := tabL d115.eq_1; simp only [AllAt, Nat.zero_add, Nat.reduceAdd] at h; exact h
theorem i115 : finfo Tryz.prog 115 d115 = some ⟨bodyOf Tryz.f115, [.tmp 4], [4]⟩ := finfo_at Tryz.func115 rfl (by kernel_rfl) (by kernel_rfl)
def e115 : Bool → AV := fun r => .v (.bool r)
def ref10_lists.m1 : LJ 1 6 Unit Int := ⟨fun r s e => [(1, er e 1), (6, er e 6), (7, .v (.int .i64 s))], fun r s h => []⟩
set_option maxHeartbeats 20000000 in
open ref10_lists in
theorem w115 (cp : CallP) (fu : Nat) (x1 : Int) (x2 : List T_Val) (H1 : K177 fu cp) (H2 : K168 fu cp) : J (go Tryz.prog noC cp noI 0 [] d115 fu (fin Tryz.prog [.tmp 4] [4]) (bodyOf Tryz.f115) (initE 0 [.v (.int .i64 x1), .arr x2.length (fm c_T_Val x2)]) [] []) (ref10_lists fu x1 x2) e115 := by
 unfold ref10_lists e115
 have da := d115_at
 conv => arg 1; simp only [bodyOf, Tryz.f115]
 have z0 := d115_at
 exact Wk
theorem ok115 (fu : Nat) (x1 : Int) (x2 : List T_Val) (r) (h : ref10_lists fu x1 x2 = some r) : PureOK Tryz.prog 115 [.v (.int .i64 x1), .arr x2.length (fm c_T_Val x2)] (e115 r) := pureT mixed [(C177 fu).ct, (C168 fu).ct] (ids := [177, 168]) rfl (by decide) i115 (C := noC) (ci := fun cp => noI) (fun cp ok => noI_ok) (fun cp H => w115 cp fu x1 x2 (u177 H.1) (u168 H.2.1)) h
def d116 : List (Nat × List Nat) := [(0, [4]), (0, [0, 1, 6, 7]), (0, [9, 10, 11, 12, 13]), (0, []), (0, [5, 14]), (0, [8]), (0, [15, 16, 17, 18, 19, 20]), (0, []), (0, [22, 23]), (0, []), (0, [24, 25, 26]), (0, []), (0, []), (0, []), (0, [28, 29, 30, 31, 32, 33, 34, 35]), (0, []), (0, [37, 38]), (0, []), (0, [39, 40, 41, 42, 43, 44, 45, 46, 47]), (0, []), (0, []), (0, []), (0, [])]
def d116_at := by have h := tabL d116.eq_1; simp only [AllAt, Nat.zero_add, Nat.reduceAdd] at h; exact h
theorem i116 : finfo Tryz.prog 116 d116 = some ⟨bodyOf Tryz.f116, [.tmp 4], [4]⟩ := finfo_at Tryz.func116 rfl (by kernel_rfl) (by kernel_rfl)
def e116 : Bool → AV := fun r => .v (.bool r)
def ref10_great.j1 : LJ 1 3 Unit Unit := ⟨fun r t e => [(0, er e 0), (1, er e 1), (6, er e 6), (7, er e 7)], fun r t h => []⟩
def ref10_great.m1 : LJ 1 6 Unit Int := ⟨fun r s e => [(0, er e 0), (1, er e 1), (6, er e 6), (7, .v (.int .i64 s))], fun r s h => []⟩
set_option maxHeartbeats 20000000 in
open ref10_great in
theorem w116 (cp : CallP) (fu : Nat) (x1 : Int) (x2 : List T_Val) (H1 : K177 fu cp) (H2 : K168 fu cp) : J (go Tryz.prog noC cp noI 0 [] d116 fu (fin Tryz.prog [.tmp 4] [4]) (bodyOf Tryz.f116) (initE 0 [.v (.int .i64 x1), .arr x2.length (fm c_T_Val x2)]) [] []) (ref10_great fu x1 x2) e116 := by
 unfold ref10_great e116
 have da := d116_at
 conv => arg 1; simp only [bodyOf, Tryz.f116]
 have z0 := d116_at
 exact Wk
theorem ok116 (fu : Nat) (x1 : Int) (x2 : List T_Val) (r) (h : ref10_great fu x1 x2 = some r) : PureOK Tryz.prog 116 [.v (.int .i64 x1), .arr x2.length (fm c_T_Val x2)] (e116 r) := pureT mixed [(C177 fu).ct, (C168 fu).ct] (ids := [177, 168]) rfl (by decide) i116 (C := noC) (ci := fun cp => noI) (fun cp ok => noI_ok) (fun cp H => w116 cp fu x1 x2 (u177 H.1) (u168 H.2.1)) h
def d59 : List (Nat × List Nat) := [(0, [4, 5]), (0, []), (0, [6]), (0, []), (0, []), (0, []), (0, [8, 9, 10, 11, 12, 13, 14]), (0, []), (0, [16, 17, 18]), (0, []), (0, [1, 19, 20, 21, 22, 23, 24]), (0, []), (0, [26]), (0, []), (0, [0])]
def d59_at := by have h := tabL d59.eq_1; simp only [AllAt, Nat.zero_add, Nat.reduceAdd] at h; exact h
theorem i59 : finfo Tryz.prog 59 d59 = some ⟨bodyOf Tryz.f59, [.tmp 4, .tmp 5], [3, 35]⟩ := finfo_at Tryz.func59 rfl (by kernel_rfl) (by kernel_rfl)
def e59 : (Int × Int) → AV := fun r => .tuple [.v (.int .i64 r.1), .v (.int .i64 r.2)]
def ref04_Axis.j1 : LJ 1 10 Unit Unit := ⟨fun r t e => [(0, er e 0), (1, er e 1)], fun r t h => []⟩
set_option maxHeartbeats 20000000 in
open ref04_Axis in
theorem w59 (cp : CallP) (fu : Nat) (x1 : Int) (x2 : Int)  : J (go Tryz.prog noC cp noI 0 [] d59 fu (fin Tryz.prog [.tmp 4, .tmp 5] [3, 35]) (bodyOf Tryz.f59) (initE 0 [.v (.int .i64 x1), .v (.int .i64 x2)]) [] []) (ref04_Axis fu x1 x2) e59 := by
 unfold ref04_Axis e59
 have da := d59_at
 conv => arg 1; simp only [bodyOf, Tryz.f59]
 have z0 := d59_at
 exact Wk
theorem ok59 (fu : Nat) (x1 : Int) (x2 : Int) (r) (h : ref04_Axis fu x1 x2 = some r) : PureOK Tryz.prog 59 [.v (.int .i64 x1), .v (.int .i64 x2)] (e59 r) := pureT mixed [] (ids := []) rfl (by decide) i59 (C := noC) (ci := fun cp => noI) (fun cp ok => noI_ok) (fun cp H => w59 cp fu x1 x2 ) h
def d179 : List (Nat × List Nat) := [(0, [2, 3]), (0, []), (0, []), (0, []), (0, [0, 5, 6, 7, 1000000004]), (0, []), (0, [4, 8, 9])]
def d179_at := by have h := tabL d179.eq_1; simp only [AllAt, Nat.zero_add, Nat.reduceAdd] at h; exact h
theorem i179 : finfo Tryz.prog 179 d179 = some ⟨bodyOf Tryz.f179, [.tmp 2, .tmp 3], [67, 35]⟩ := finfo_at Tryz.func179 rfl (by kernel_rfl) (by kernel_rfl)
def e179 : ((List (List Int)) × Int) → AV := fun r => .tuple [.arr r.1.length (lm (avl (ik .i64)) r.1), .v (.int .i64 r.2)]
set_option maxHeartbeats 20000000 in
theorem w179 (cp : CallP) (fu : Nat) (x1 : List Int)  : J (go Tryz.prog noC cp noI 0 [] d179 fu (finS Tryz.prog [.tmp 2, .tmp 3] [67, 35]) (bodyOf Tryz.f179) (initE 0 [.arr x1.length (lm (ik .i64) x1)]) [] []) (ref10_one fu x1) e179 := by
 unfold ref10_one e179
 have da := d179_at
 conv => arg 1; simp only [bodyOf, Tryz.f179]
 have z0 := d179_at
 have z1 := SE
 exact Wk
theorem ok179 (fu : Nat) (x1 : List Int) (r) (h : ref10_one fu x1 = some r) : PureOK Tryz.prog 179 [.arr x1.length (lm (ik .i64) x1)] (e179 r) := pureST mixed [] (ids := []) rfl (by decide) i179 (C := noC) (ci := fun cp => noI) (fun cp ok => noI_ok) (fun cp H => w179 cp fu x1 ) h
def d218 : List (Nat × List Nat) := [(0, [0, 4, 5]), (0, [1, 2, 7]), (0, [1000006]), (0, []), (0, []), (0, []), (0, [9, 10, 11]), (0, []), (0, [13, 14]), (0, []), (0, [15, 16, 17, 18, 19]), (0, []), (0, [20]), (0, []), (0, [22, 23, 24, 25, 26]), (0, []), (0, [8, 27, 28, 29, 30, 31, 32, 33]), (0, []), (0, [6, 34, 35, 36, 37])]
def d218_at := by have h := tabL d218.eq_1; simp only [AllAt, Nat.zero_add, Nat.reduceAdd] at h; exact h
theorem i218 : finfo Tryz.prog 218 d218 = some ⟨bodyOf Tryz.f218, [.tmp 4, .tmp 5], [67, 35]⟩ := finfo_at Tryz.func218 rfl (by kernel_rfl) (by kernel_rfl)
def e218 : ((List (List Int)) × Int) → AV := fun r => .tuple [.arr r.1.length (lm (avl (ik .i64)) r.1), .v (.int .i64 r.2)]
structure K179 (fu : Nat) (cp : CallP) : Prop where
 ap : ∀ {a0 : List Int} {r}, ref10_one fu a0 = some r → cp 179 [.arr a0.length (lm (ik .i64) a0)] = some (.tuple [.arr r.1.length (lm (avl (ik .i64)) r.1), .v (.int .i64 r.2)])
noncomputable def C179 (fu : Nat) : Cm Tryz.prog (List Int) ((List (List Int)) × Int) := ⟨179, fun t => [.arr t.length (lm (ik .i64) t)], fun t => ref10_one fu t, e179, fun t b h => ok179 fu t  b h, Zi⟩
theorem u179 {fu : Nat} {cp : CallP} (H : Hit cp (C179 fu).ct) : K179 fu cp := ⟨fun {a0 r} h => (C179 fu).at H a0 r h⟩
def ref10_transposed.j2 : LJ 2 16 Unit (Bool × Int) := ⟨fun r t e => [(1, er e 1), (2, er e 2), (6, er e 6), (7, er e 7), (8, .v (.int .i64 t.2))], fun r t h => [((0, 2, 0), bs (hr h (0, 2, 0)) 8 (.v (.bool t.1))), ((0, 6, 77), hr h (0, 6, 77))]⟩
def ref10_transposed.m1 : LJ 1 6 Unit (Bool × (List Int) × Int) := ⟨fun r s e => [(1, er e 1), (2, er e 2), (6, .own (0, 6, 77) 0 s.2.1.length s.2.1.length), (7, .v (.int .i64 s.2.2))], fun r s h => [((0, 2, 0), bs (hr h (0, 2, 0)) 8 (.v (.bool s.1))), ((0, 6, 77), .sl true true 1 s.2.1.length (lm (ik .i64) s.2.1))]⟩
def ref10_transposed.j1 : LJ 1 18 Unit (Bool × (List Int)) := ⟨fun r t e => [(6, .own (0, 6, 77) 0 t.2.length t.2.length)], fun r t h => [((0, 2, 0), bs (hr h (0, 2, 0)) 8 (.v (.bool t.1))), ((0, 6, 77), .sl true true 1 t.2.length (lm (ik .i64) t.2))]⟩
set_option maxHeartbeats 20000000 in
open ref10_transposed in
theorem w218 (cp : CallP) (fu : Nat) (x1 : T_Setting) (x2 : List Int) (H1 : K179 fu cp) : J (go Tryz.prog noC cp noI 0 [] d218 fu (fin Tryz.prog [.tmp 4, .tmp 5] [67, 35]) (bodyOf Tryz.f218) (initE 0 [.agg (c_T_Setting x1), .arr x2.length (lm (ik .i64) x2)]) [] []) (ref10_transposed fu x1 x2) e218 := by
 unfold ref10_transposed e218
 have da := d218_at
 conv => arg 1; simp only [bodyOf, Tryz.f218]
 have z0 := d218_at
 exact Wk
theorem ok218 (fu : Nat) (x1 : T_Setting) (x2 : List Int) (r) (h : ref10_transposed fu x1 x2 = some r) : PureOK Tryz.prog 218 [.agg (c_T_Setting x1), .arr x2.length (lm (ik .i64) x2)] (e218 r) := pureT mixed [(C179 fu).ct] (ids := [179]) rfl (by decide) i218 (C := noC) (ci := fun cp => noI) (fun cp ok => noI_ok) (fun cp H => w218 cp fu x1 x2 (u179 H.1)) h
def d183 : List (Nat × List Nat) := [(0, [1, 8, 9]), (0, [2, 3, 11, 28, 68]), (0, [16, 17, 18, 19]), (0, []), (0, [12, 20, 21, 22, 23, 24, 25, 26, 27]), (0, []), (0, []), (0, []), (0, [30]), (0, []), (0, [31, 32, 33, 34, 35]), (0, []), (0, [37]), (0, []), (11, [38, 39, 40, 41, 42, 43, 44, 45, 46]), (0, []), (0, [48]), (0, []), (0, [49, 50, 51, 52, 53]), (0, []), (0, [55]), (0, []), (0, [56, 57, 58, 59, 60, 61]), (0, []), (0, [63]), (0, []), (0, [64, 65, 66, 67]), (0, []), (0, [69]), (0, []), (0, [70]), (0, []), (0, [71]), (0, []), (0, [72, 73, 74, 75, 76, 77]), (0, []), (0, [79]), (0, []), (0, [80, 81, 82, 83, 84]), (0, []), (0, [86]), (0, []), (0, [87, 88, 89, 90, 91, 92, 93, 94]), (0, []), (0, [96]), (0, []), (0, [97, 98, 99, 100, 101, 102, 103, 104]), (0, []), (0, [106]), (0, []), (0, [107, 108, 109, 110, 111]), (0, []), (0, [113]), (0, []), (0, [114, 115, 116, 117, 118, 119, 120, 121]), (0, []), (0, [123]), (0, []), (0, [124, 125, 126, 127, 128, 129]), (0, []), (0, [131]), (0, []), (0, [132, 133, 134, 135, 136, 137, 138]), (0, []), (0, [13, 14, 139, 140, 141, 142, 143, 144, 145, 146]), (0, []), (0, [148]), (0, []), (0, [149, 150, 151]), (0, []), (0, [153]), (0, []), (0, [154, 155, 156, 157]), (0, []), (0, [158]), (0, []), (0, [160, 161, 162]), (0, []), (0, [15, 163, 164, 165, 166]), (0, []), (0, [0, 5, 10, 167, 168, 169, 170, 171, 172, 173]), (0, []), (0, []), (0, []), (0, []), (0, []), (0, []), (0, []), (0, []), (0, []), (0, []), (0, []), (0, []), (0, []), (0, []), (0, []), (0, []), (0, []), (0, []), (0, []), (0, []), (0, []), (0, []), (0, []), (0, []), (0, []), (0, []), (0, []), (0, []), (0, []), (0, []), (0, []), (0, []), (0, []), (0, []), (0, []), (0, []), (0, []), (0, []), (0, []), (0, []), (0, []), (0, []), (0, []), (0, []), (0, []), (0, []), (0, []), (0, []), (0, []), (0, []), (0, []), (0, []), (0, []), (0, []), (0, []), (0, []), (1, [])]
def d183_at := by have h := tabL d183.eq_1; simp only [AllAt, Nat.zero_add, Nat.reduceAdd] at h; exact h
theorem i183 : finfo Tryz.prog 183 d183 = some ⟨bodyOf Tryz.f183, [.tmp 8, .tmp 9], [67, 35]⟩ := finfo_at Tryz.func183 rfl (by kernel_rfl) (by kernel_rfl)
def e183 : ((List (List Int)) × Int) → AV := fun r => .tuple [.arr r.1.length (lm (avl (ik .i64)) r.1), .v (.int .i64 r.2)]
structure K59 (fu : Nat) (cp : CallP) : Prop where
 ap : ∀ {a0 : Int} {a1 : Int} {r}, ref04_Axis fu a0 a1 = some r → cp 59 [.v (.int .i64 a0), .v (.int .i64 a1)] = some (.tuple [.v (.int .i64 r.1), .v (.int .i64 r.2)])
noncomputable def C59 (fu : Nat) : Cm Tryz.prog (Int × Int) (Int × Int) := ⟨59, fun t => [.v (.int .i64 t.1), .v (.int .i64 t.2)], fun t => ref04_Axis fu t.1 t.2, e59, fun t b h => ok59 fu t.1 t.2  b h, Zi⟩
theorem u59 {fu : Nat} {cp : CallP} (H : Hit cp (C59 fu).ct) : K59 fu cp := ⟨fun {a0 a1 r} h => (C59 fu).at H (a0, a1) r h⟩
structure K218 (fu : Nat) (cp : CallP) : Prop where
 ap : ∀ {a0 : T_Setting} {a1 : List Int} {r}, ref10_transposed fu a0 a1 = some r → cp 218 [.agg (c_T_Setting a0), .arr a1.length (lm (ik .i64) a1)] = some (.tuple [.arr r.1.length (lm (avl (ik .i64)) r.1), .v (.int .i64 r.2)])
noncomputable def C218 (fu : Nat) : Cm Tryz.prog (T_Setting × (List Int)) ((List (List Int)) × Int) := ⟨218, fun t => [.agg (c_T_Setting t.1), .arr t.2.length (lm (ik .i64) t.2)], fun t => ref10_transposed fu t.1 t.2, e218, fun t b h => ok218 fu t.1 t.2  b h, Zi⟩
theorem u218 {fu : Nat} {cp : CallP} (H : Hit cp (C218 fu).ct) : K218 fu cp := ⟨fun {a0 a1 r} h => (C218 fu).at H (a0, a1) r h⟩
set_option maxHeartbeats 20000000 in
theorem w183 (cp : CallP) (fu : Nat) (x1 : Int) (x2 : T_Setting) (x3 : List T_Val) (x4 : Int) (H1 : K59 fu cp) (H2 : K218 fu cp) : J (go Tryz.prog noC cp noI 0 [] d183 fu (fin Tryz.prog [.tmp 8, .tmp 9] [67, 35]) (bodyOf Tryz.f183) (initE 0 [.v (.int .i64 x1), .agg (c_T_Setting x2), .arr x3.length (fm c_T_Val x3), .v (.int .i64 x4)]) [] []) (ref10_moves fu x1 x2 x3 x4) e183 := by
 unfold ref10_moves e183
 have da := d183_at
 conv => arg 1; simp only [bodyOf, Tryz.f183]
 have z0 := d183_at
 exact Wk
theorem ok183 (fu : Nat) (x1 : Int) (x2 : T_Setting) (x3 : List T_Val) (x4 : Int) (r) (h : ref10_moves fu x1 x2 x3 x4 = some r) : PureOK Tryz.prog 183 [.v (.int .i64 x1), .agg (c_T_Setting x2), .arr x3.length (fm c_T_Val x3), .v (.int .i64 x4)] (e183 r) := pureT mixed [(C59 fu).ct, (C218 fu).ct] (ids := [59, 218]) rfl (by decide) i183 (C := noC) (ci := fun cp => noI) (fun cp ok => noI_ok) (fun cp H => w183 cp fu x1 x2 x3 x4 (u59 H.1) (u218 H.2.1)) h
def d117 : List (Nat × List Nat) := [(0, [1, 8, 9]), (0, [0, 3, 10]), (0, [13, 14, 15, 16]), (0, []), (0, [18, 19, 20, 21, 22, 23, 24, 25, 26, 27, 28, 29, 30, 31, 32, 33, 34, 35]), (0, []), (0, [36, 37, 38, 39]), (0, []), (0, [41, 42]), (0, []), (0, [43, 44, 45, 46, 47, 48, 49, 50]), (0, []), (0, [52, 53]), (0, []), (0, [54, 55, 56, 57, 58, 59, 60, 61]), (0, []), (0, [63, 64]), (0, []), (0, [65, 66, 67, 68, 69, 70, 71, 72, 73]), (0, []), (0, [74]), (0, []), (0, [76]), (0, []), (12, [11, 12, 77, 78, 79, 80, 81, 82, 83, 84, 85, 86]), (0, []), (0, [88, 89]), (0, []), (0, [90, 91, 92, 93, 94, 95, 96, 97, 98, 99, 100]), (0, []), (0, [102, 103, 104]), (0, []), (0, [105, 106, 107, 108]), (0, []), (0, [110, 111]), (0, []), (0, [112, 113, 114, 115, 116, 117, 118]), (0, []), (0, [120, 121]), (0, []), (0, [122, 123, 124, 125, 126, 127]), (0, []), (0, [129, 130]), (0, []), (0, [131, 132, 133, 134, 135]), (0, []), (0, [137, 138]), (0, []), (0, [139, 140, 141, 142, 143, 144, 145, 146]), (0, []), (0, [148, 149]), (0, []), (0, [150, 151, 152, 153, 154]), (0, []), (0, [156, 157]), (0, []), (0, [158, 159, 160, 161, 162]), (0, []), (0, [164, 165]), (0, []), (0, [166, 167, 168, 169, 170]), (0, []), (0, [172, 173]), (0, []), (0, [174, 175, 176, 177]), (0, []), (0, [179, 180]), (0, []), (0, [181, 182, 183, 184]), (0, []), (0, [2, 5, 185, 186, 187, 188, 189])]
def d117_at := by have h := tabL d117.eq_1; simp only [AllAt, Nat.zero_add, Nat.reduceAdd] at h; exact h
theorem i117 : finfo Tryz.prog 117 d117 = some ⟨bodyOf Tryz.f117, [.tmp 8, .tmp 9], [67, 35]⟩ := finfo_at Tryz.func117 rfl (by kernel_rfl) (by kernel_rfl)
def e117 : ((List (List Int)) × Int) → AV := fun r => .tuple [.arr r.1.length (lm (avl (ik .i64)) r.1), .v (.int .i64 r.2)]
structure K183 (fu : Nat) (cp : CallP) : Prop where
 ap : ∀ {a0 : Int} {a1 : T_Setting} {a2 : List T_Val} {a3 : Int} {r}, ref10_moves fu a0 a1 a2 a3 = some r → cp 183 [.v (.int .i64 a0), .agg (c_T_Setting a1), .arr a2.length (fm c_T_Val a2), .v (.int .i64 a3)] = some (.tuple [.arr r.1.length (lm (avl (ik .i64)) r.1), .v (.int .i64 r.2)])
noncomputable def C183 (fu : Nat) : Cm Tryz.prog (Int × T_Setting × (List T_Val) × Int) ((List (List Int)) × Int) := ⟨183, fun t => [.v (.int .i64 t.1), .agg (c_T_Setting t.2.1), .arr t.2.2.1.length (fm c_T_Val t.2.2.1), .v (.int .i64 t.2.2.2)], fun t => ref10_moves fu t.1 t.2.1 t.2.2.1 t.2.2.2, e183, fun t b h => ok183 fu t.1 t.2.1 t.2.2.1 t.2.2.2  b h, Zi⟩
theorem u183 {fu : Nat} {cp : CallP} (H : Hit cp (C183 fu).ct) : K183 fu cp := ⟨fun {a0 a1 a2 a3 r} h => (C183 fu).at H (a0, a1, a2, a3) r h⟩
set_option maxHeartbeats 20000000 in
theorem w117 (cp : CallP) (fu : Nat) (x1 : Int) (x2 : T_Setting) (x3 : List T_Val) (x4 : Int) (H1 : K183 fu cp) : J (go Tryz.prog noC cp noI 0 [] d117 fu (fin Tryz.prog [.tmp 8, .tmp 9] [67, 35]) (bodyOf Tryz.f117) (initE 0 [.v (.int .i64 x1), .agg (c_T_Setting x2), .arr x3.length (fm c_T_Val x3), .v (.int .i64 x4)]) [] []) (ref10_dims fu x1 x2 x3 x4) e117 := by
 unfold ref10_dims e117
 have da := d117_at
 conv => arg 1; simp only [bodyOf, Tryz.f117]
 have z0 := d117_at
 exact Wk
theorem ok117 (fu : Nat) (x1 : Int) (x2 : T_Setting) (x3 : List T_Val) (x4 : Int) (r) (h : ref10_dims fu x1 x2 x3 x4 = some r) : PureOK Tryz.prog 117 [.v (.int .i64 x1), .agg (c_T_Setting x2), .arr x3.length (fm c_T_Val x3), .v (.int .i64 x4)] (e117 r) := pureT mixed [(C183 fu).ct] (ids := [183]) rfl (by decide) i117 (C := noC) (ci := fun cp => noI) (fun cp ok => noI_ok) (fun cp H => w117 cp fu x1 x2 x3 x4 (u183 H.1)) h
def d118 : List (Nat × List Nat) := [(0, [1, 6]), (0, [0, 4]), (0, [8, 9, 10, 11, 12, 13, 14, 15, 16, 17, 18, 19, 20, 21]), (0, []), (0, []), (0, []), (0, [23, 24]), (0, []), (0, [25, 26]), (0, []), (0, [28, 29]), (0, []), (0, [30, 31, 32]), (0, []), (0, [34, 35, 36, 37, 38, 39, 40, 41, 42, 43, 44, 45, 46, 47]), (0, []), (0, []), (0, []), (0, [49, 50]), (0, []), (0, [51, 52, 53]), (0, []), (0, [2, 54, 55, 56])]
def d118_at := by have h := tabL d118.eq_1; simp only [AllAt, Nat.zero_add, Nat.reduceAdd] at h; exact h
theorem i118 : finfo Tryz.prog 118 d118 = some ⟨bodyOf Tryz.f118, [.tmp 6], [3]⟩ := finfo_at Tryz.func118 rfl (by kernel_rfl) (by kernel_rfl)
def e118 : Int → AV := fun r => .v (.int .i64 r)
def ref10_made.j1 : LJ 1 22 Unit Unit := ⟨fun r t e => [(2, er e 2)], fun r t h => [((0, 4, 0), hr h (0, 4, 0))]⟩
set_option maxHeartbeats 20000000 in
open ref10_made in
theorem w118 (cp : CallP) (fu : Nat) (x1 : Int) (x2 : T_Setting) (x3 : List T_Val) (H1 : K170 fu cp) : J (go Tryz.prog noC cp noI 0 [] d118 fu (fin Tryz.prog [.tmp 6] [3]) (bodyOf Tryz.f118) (initE 0 [.v (.int .i64 x1), .agg (c_T_Setting x2), .arr x3.length (fm c_T_Val x3)]) [] []) (ref10_made fu x1 x2 x3) e118 := by
 unfold ref10_made e118
 have da := d118_at
 conv => arg 1; simp only [bodyOf, Tryz.f118]
 have z0 := d118_at
 exact Wk
theorem ok118 (fu : Nat) (x1 : Int) (x2 : T_Setting) (x3 : List T_Val) (r) (h : ref10_made fu x1 x2 x3 = some r) : PureOK Tryz.prog 118 [.v (.int .i64 x1), .agg (c_T_Setting x2), .arr x3.length (fm c_T_Val x3)] (e118 r) := pureT mixed [(C170 fu).ct] (ids := [170]) rfl (by decide) i118 (C := noC) (ci := fun cp => noI) (fun cp ok => noI_ok) (fun cp H => w118 cp fu x1 x2 x3 (u170 H.1)) h
def d58 : List (Nat × List Nat) := [(0, [1, 8, 9]), (0, [0, 2, 5, 10, 13]), (0, [16, 17, 18, 19]), (0, []), (0, []), (0, []), (0, [21, 22]), (0, []), (0, []), (0, []), (0, [24, 25, 26, 27]), (0, []), (0, []), (0, []), (0, [29, 30, 31, 32]), (0, []), (0, []), (0, []), (0, [34, 35, 36]), (0, []), (0, []), (0, []), (0, [38, 39, 40]), (0, []), (0, []), (0, []), (0, [42, 43]), (0, []), (0, []), (0, []), (0, [3, 45, 46, 47, 48, 49, 50, 51, 52]), (0, []), (0, [53]), (0, []), (0, [55]), (0, []), (0, [11, 8000012]), (0, []), (0, []), (0, []), (0, [56, 57, 58]), (0, []), (0, [60, 61]), (0, []), (0, [14, 62, 63, 64, 65, 66, 67, 68, 69]), (0, []), (0, [15, 70]), (0, []), (0, []), (0, []), (11, [72, 73, 74, 75, 76, 77, 78, 79, 80, 81, 82, 83]), (0, []), (0, [12, 84])]
def d58_at := by have h := tabL d58.eq_1; simp only [AllAt, Nat.zero_add, Nat.reduceAdd] at h; exact h
theorem i58 : finfo Tryz.prog 58 d58 = some ⟨bodyOf Tryz.f58, [.tmp 8, .tmp 9], [51, 35]⟩ := finfo_at Tryz.func58 rfl (by kernel_rfl) (by kernel_rfl)
def e58 : ((List T_Val) × Int) → AV := fun r => .tuple [.arr r.1.length (fm c_T_Val r.1), .v (.int .i64 r.2)]
structure K110 (fu : Nat) (cp : CallP) : Prop where
 ap : ∀ {a0 : Int} {a1 : List T_Val} {a2 : Int} {r}, ref10_given fu a0 a1 a2 = some r → cp 110 [.v (.int .i64 a0), .arr a1.length (fm c_T_Val a1), .v (.int .i64 a2)] = some (.v (.bool r))
noncomputable def C110 (fu : Nat) : Cm Tryz.prog (Int × (List T_Val) × Int) Bool := ⟨110, fun t => [.v (.int .i64 t.1), .arr t.2.1.length (fm c_T_Val t.2.1), .v (.int .i64 t.2.2)], fun t => ref10_given fu t.1 t.2.1 t.2.2, e110, fun t b h => ok110 fu t.1 t.2.1 t.2.2  b h, Zi⟩
theorem u110 {fu : Nat} {cp : CallP} (H : Hit cp (C110 fu).ct) : K110 fu cp := ⟨fun {a0 a1 a2 r} h => (C110 fu).at H (a0, a1, a2) r h⟩
structure K111 (fu : Nat) (cp : CallP) : Prop where
 ap : ∀ {a0 : List T_Val} {r}, ref10_sized fu a0 = some r → cp 111 [.arr a0.length (fm c_T_Val a0)] = some (.v (.bool r))
noncomputable def C111 (fu : Nat) : Cm Tryz.prog (List T_Val) Bool := ⟨111, fun t => [.arr t.length (fm c_T_Val t)], fun t => ref10_sized fu t, e111, fun t b h => ok111 fu t  b h, Zi⟩
theorem u111 {fu : Nat} {cp : CallP} (H : Hit cp (C111 fu).ct) : K111 fu cp := ⟨fun {a0 r} h => (C111 fu).at H a0 r h⟩
structure K112 (fu : Nat) (cp : CallP) : Prop where
 ap : ∀ {a0 : Int} {a1 : T_Setting} {a2 : List T_Val} {r}, ref10_types fu a0 a1 a2 = some r → cp 112 [.v (.int .i64 a0), .agg (c_T_Setting a1), .arr a2.length (fm c_T_Val a2)] = some (.v (.bool r))
noncomputable def C112 (fu : Nat) : Cm Tryz.prog (Int × T_Setting × (List T_Val)) Bool := ⟨112, fun t => [.v (.int .i64 t.1), .agg (c_T_Setting t.2.1), .arr t.2.2.length (fm c_T_Val t.2.2)], fun t => ref10_types fu t.1 t.2.1 t.2.2, e112, fun t b h => ok112 fu t.1 t.2.1 t.2.2  b h, Zi⟩
theorem u112 {fu : Nat} {cp : CallP} (H : Hit cp (C112 fu).ct) : K112 fu cp := ⟨fun {a0 a1 a2 r} h => (C112 fu).at H (a0, a1, a2) r h⟩
structure K113 (fu : Nat) (cp : CallP) : Prop where
 ap : ∀ {a0 : Int} {a1 : T_Setting} {a2 : List T_Val} {r}, ref10_attrs fu a0 a1 a2 = some r → cp 113 [.v (.int .i64 a0), .agg (c_T_Setting a1), .arr a2.length (fm c_T_Val a2)] = some (.v (.bool r))
noncomputable def C113 (fu : Nat) : Cm Tryz.prog (Int × T_Setting × (List T_Val)) Bool := ⟨113, fun t => [.v (.int .i64 t.1), .agg (c_T_Setting t.2.1), .arr t.2.2.length (fm c_T_Val t.2.2)], fun t => ref10_attrs fu t.1 t.2.1 t.2.2, e113, fun t b h => ok113 fu t.1 t.2.1 t.2.2  b h, Zi⟩
theorem u113 {fu : Nat} {cp : CallP} (H : Hit cp (C113 fu).ct) : K113 fu cp := ⟨fun {a0 a1 a2 r} h => (C113 fu).at H (a0, a1, a2) r h⟩
structure K114 (fu : Nat) (cp : CallP) : Prop where
 ap : ∀ {a0 : Int} {a1 : List T_Val} {r}, ref10_consts fu a0 a1 = some r → cp 114 [.v (.int .i64 a0), .arr a1.length (fm c_T_Val a1)] = some (.v (.bool r))
noncomputable def C114 (fu : Nat) : Cm Tryz.prog (Int × (List T_Val)) Bool := ⟨114, fun t => [.v (.int .i64 t.1), .arr t.2.length (fm c_T_Val t.2)], fun t => ref10_consts fu t.1 t.2, e114, fun t b h => ok114 fu t.1 t.2  b h, Zi⟩
theorem u114 {fu : Nat} {cp : CallP} (H : Hit cp (C114 fu).ct) : K114 fu cp := ⟨fun {a0 a1 r} h => (C114 fu).at H (a0, a1) r h⟩
structure K115 (fu : Nat) (cp : CallP) : Prop where
 ap : ∀ {a0 : Int} {a1 : List T_Val} {r}, ref10_lists fu a0 a1 = some r → cp 115 [.v (.int .i64 a0), .arr a1.length (fm c_T_Val a1)] = some (.v (.bool r))
noncomputable def C115 (fu : Nat) : Cm Tryz.prog (Int × (List T_Val)) Bool := ⟨115, fun t => [.v (.int .i64 t.1), .arr t.2.length (fm c_T_Val t.2)], fun t => ref10_lists fu t.1 t.2, e115, fun t b h => ok115 fu t.1 t.2  b h, Zi⟩
theorem u115 {fu : Nat} {cp : CallP} (H : Hit cp (C115 fu).ct) : K115 fu cp := ⟨fun {a0 a1 r} h => (C115 fu).at H (a0, a1) r h⟩
structure K116 (fu : Nat) (cp : CallP) : Prop where
 ap : ∀ {a0 : Int} {a1 : List T_Val} {r}, ref10_great fu a0 a1 = some r → cp 116 [.v (.int .i64 a0), .arr a1.length (fm c_T_Val a1)] = some (.v (.bool r))
noncomputable def C116 (fu : Nat) : Cm Tryz.prog (Int × (List T_Val)) Bool := ⟨116, fun t => [.v (.int .i64 t.1), .arr t.2.length (fm c_T_Val t.2)], fun t => ref10_great fu t.1 t.2, e116, fun t b h => ok116 fu t.1 t.2  b h, Zi⟩
theorem u116 {fu : Nat} {cp : CallP} (H : Hit cp (C116 fu).ct) : K116 fu cp := ⟨fun {a0 a1 r} h => (C116 fu).at H (a0, a1) r h⟩
structure K117 (fu : Nat) (cp : CallP) : Prop where
 ap : ∀ {a0 : Int} {a1 : T_Setting} {a2 : List T_Val} {a3 : Int} {r}, ref10_dims fu a0 a1 a2 a3 = some r → cp 117 [.v (.int .i64 a0), .agg (c_T_Setting a1), .arr a2.length (fm c_T_Val a2), .v (.int .i64 a3)] = some (.tuple [.arr r.1.length (lm (avl (ik .i64)) r.1), .v (.int .i64 r.2)])
noncomputable def C117 (fu : Nat) : Cm Tryz.prog (Int × T_Setting × (List T_Val) × Int) ((List (List Int)) × Int) := ⟨117, fun t => [.v (.int .i64 t.1), .agg (c_T_Setting t.2.1), .arr t.2.2.1.length (fm c_T_Val t.2.2.1), .v (.int .i64 t.2.2.2)], fun t => ref10_dims fu t.1 t.2.1 t.2.2.1 t.2.2.2, e117, fun t b h => ok117 fu t.1 t.2.1 t.2.2.1 t.2.2.2  b h, Zi⟩
theorem u117 {fu : Nat} {cp : CallP} (H : Hit cp (C117 fu).ct) : K117 fu cp := ⟨fun {a0 a1 a2 a3 r} h => (C117 fu).at H (a0, a1, a2, a3) r h⟩
structure K118 (fu : Nat) (cp : CallP) : Prop where
 ap : ∀ {a0 : Int} {a1 : T_Setting} {a2 : List T_Val} {r}, ref10_made fu a0 a1 a2 = some r → cp 118 [.v (.int .i64 a0), .agg (c_T_Setting a1), .arr a2.length (fm c_T_Val a2)] = some (.v (.int .i64 r))
noncomputable def C118 (fu : Nat) : Cm Tryz.prog (Int × T_Setting × (List T_Val)) Int := ⟨118, fun t => [.v (.int .i64 t.1), .agg (c_T_Setting t.2.1), .arr t.2.2.length (fm c_T_Val t.2.2)], fun t => ref10_made fu t.1 t.2.1 t.2.2, e118, fun t b h => ok118 fu t.1 t.2.1 t.2.2  b h, Zi⟩
theorem u118 {fu : Nat} {cp : CallP} (H : Hit cp (C118 fu).ct) : K118 fu cp := ⟨fun {a0 a1 a2 r} h => (C118 fu).at H (a0, a1, a2) r h⟩
def ref10_Node.m1 : LJ 1 40 Unit ((List T_Val) × Int) := ⟨fun r s e => [(0, er e 0), (2, er e 2), (5, er e 5), (10, er e 10), (12, .own (0, 12, 77) 0 s.1.length s.1.length), (13, .v (.int .i64 s.2))], fun r s h => [((0, 5, 0), hr h (0, 5, 0)), ((0, 12, 77), .sl true true 8 s.1.length (fm c_T_Val s.1))]⟩
set_option maxHeartbeats 20000000 in
open ref10_Node in
theorem w58 (cp : CallP) (fu : Nat) (x1 : Int) (x2 : T_Setting) (x3 : List T_Val) (x4 : Int) (H1 : K110 fu cp) (H2 : K111 fu cp) (H3 : K112 fu cp) (H4 : K113 fu cp) (H5 : K114 fu cp) (H6 : K115 fu cp) (H7 : K116 fu cp) (H8 : K117 fu cp) (H9 : K32 fu cp) (H10 : K118 fu cp) : J (go Tryz.prog noC cp noI 0 [] d58 fu (finS Tryz.prog [.tmp 8, .tmp 9] [51, 35]) (bodyOf Tryz.f58) (initE 0 [.v (.int .i64 x1), .agg (c_T_Setting x2), .arr x3.length (fm c_T_Val x3), .v (.int .i64 x4)]) [] []) (ref10_Node fu x1 x2 x3 x4) e58 := by
 unfold ref10_Node e58
 have da := d58_at
 conv => arg 1; simp only [bodyOf, Tryz.f58]
 have z0 := d58_at
 have z1 := SE
 exact Wk
theorem ok58 (fu : Nat) (x1 : Int) (x2 : T_Setting) (x3 : List T_Val) (x4 : Int) (r) (h : ref10_Node fu x1 x2 x3 x4 = some r) : PureOK Tryz.prog 58 [.v (.int .i64 x1), .agg (c_T_Setting x2), .arr x3.length (fm c_T_Val x3), .v (.int .i64 x4)] (e58 r) := pureST mixed [(C110 fu).ct, (C111 fu).ct, (C112 fu).ct, (C113 fu).ct, (C114 fu).ct, (C115 fu).ct, (C116 fu).ct, (C117 fu).ct, (C32 fu).ct, (C118 fu).ct] (ids := [110, 111, 112, 113, 114, 115, 116, 117, 32, 118]) rfl (by decide) i58 (C := noC) (ci := fun cp => noI) (fun cp ok => noI_ok) (fun cp H => w58 cp fu x1 x2 x3 x4 (u110 H.1) (u111 H.2.1) (u112 H.2.2.1) (u113 H.2.2.2.1) (u114 H.2.2.2.2.1) (u115 H.2.2.2.2.2.1) (u116 H.2.2.2.2.2.2.1) (u117 H.2.2.2.2.2.2.2.1) (u32 H.2.2.2.2.2.2.2.2.1) (u118 H.2.2.2.2.2.2.2.2.2.1)) h
def d15 : List (Nat × List Nat) := [(0, [2]), (0, []), (0, [0, 3, 4])]
def d15_at := by have h := tabL d15.eq_1; simp only [AllAt, Nat.zero_add, Nat.reduceAdd] at h; exact h
theorem i15 : finfo Tryz.prog 15 d15 = some ⟨bodyOf Tryz.f15, [.tmp 2], [24]⟩ := finfo_at Tryz.func15 rfl (by kernel_rfl) (by kernel_rfl)
def e15 : Int → AV := fun r => .v (.int .u32 r)
set_option maxHeartbeats 20000000 in
theorem w15 (cp : CallP) (fu : Nat) (x1 : Int)  : J (go Tryz.prog noC cp noI 0 [] d15 fu (fin Tryz.prog [.tmp 2] [24]) (bodyOf Tryz.f15) (initE 0 [.v (.int .u32 x1)]) [] []) (ref01_Abs fu x1) e15 := by
 unfold ref01_Abs e15
 have da := d15_at
 conv => arg 1; simp only [bodyOf, Tryz.f15]
 have z0 := d15_at
 exact Wk
theorem ok15 (fu : Nat) (x1 : Int) (r) (h : ref01_Abs fu x1 = some r) : PureOK Tryz.prog 15 [.v (.int .u32 x1)] (e15 r) := pureT mixed [] (ids := []) rfl (by decide) i15 (C := noC) (ci := fun cp => noI) (fun cp ok => noI_ok) (fun cp H => w15 cp fu x1 ) h
def d67 : List (Nat × List Nat) := [(0, [2]), (0, []), (0, [0, 3, 4, 5])]
def d67_at := by have h := tabL d67.eq_1; simp only [AllAt, Nat.zero_add, Nat.reduceAdd] at h; exact h
theorem i67 : finfo Tryz.prog 67 d67 = some ⟨bodyOf Tryz.f67, [.tmp 2], [4]⟩ := finfo_at Tryz.func67 rfl (by kernel_rfl) (by kernel_rfl)
def e67 : Bool → AV := fun r => .v (.bool r)
structure K15 (fu : Nat) (cp : CallP) : Prop where
 ap : ∀ {a0 : Int} {r}, ref01_Abs fu a0 = some r → cp 15 [.v (.int .u32 a0)] = some (.v (.int .u32 r))
noncomputable def C15 (fu : Nat) : Cm Tryz.prog Int Int := ⟨15, fun t => [.v (.int .u32 t)], fun t => ref01_Abs fu t, e15, fun t b h => ok15 fu t  b h, Zi⟩
theorem u15 {fu : Nat} {cp : CallP} (H : Hit cp (C15 fu).ct) : K15 fu cp := ⟨fun {a0 r} h => (C15 fu).at H a0 r h⟩
set_option maxHeartbeats 20000000 in
theorem w67 (cp : CallP) (fu : Nat) (x1 : Int) (H1 : K15 fu cp) : J (go Tryz.prog noC cp noI 0 [] d67 fu (fin Tryz.prog [.tmp 2] [4]) (bodyOf Tryz.f67) (initE 0 [.v (.int .u32 x1)]) [] []) (ref01_IsNone fu x1) e67 := by
 unfold ref01_IsNone e67
 have da := d67_at
 conv => arg 1; simp only [bodyOf, Tryz.f67]
 have z0 := d67_at
 exact Wk
theorem ok67 (fu : Nat) (x1 : Int) (r) (h : ref01_IsNone fu x1 = some r) : PureOK Tryz.prog 67 [.v (.int .u32 x1)] (e67 r) := pureT mixed [(C15 fu).ct] (ids := [15]) rfl (by decide) i67 (C := noC) (ci := fun cp => noI) (fun cp ok => noI_ok) (fun cp H => w67 cp fu x1 (u15 H.1)) h
def d193 : List (Nat × List Nat) := [(0, [2]), (0, []), (0, [3]), (0, []), (0, []), (0, []), (0, [0, 5])]
def d193_at := by have h := tabL d193.eq_1; simp only [AllAt, Nat.zero_add, Nat.reduceAdd] at h; exact h
theorem i193 : finfo Tryz.prog 193 d193 = some ⟨bodyOf Tryz.f193, [.tmp 2], [24]⟩ := finfo_at Tryz.func193 rfl (by kernel_rfl) (by kernel_rfl)
def e193 : Int → AV := fun r => .v (.int .u32 r)
structure K67 (fu : Nat) (cp : CallP) : Prop where
 ap : ∀ {a0 : Int} {r}, ref01_IsNone fu a0 = some r → cp 67 [.v (.int .u32 a0)] = some (.v (.bool r))
noncomputable def C67 (fu : Nat) : Cm Tryz.prog Int Bool := ⟨67, fun t => [.v (.int .u32 t)], fun t => ref01_IsNone fu t, e67, fun t b h => ok67 fu t  b h, Zi⟩
theorem u67 {fu : Nat} {cp : CallP} (H : Hit cp (C67 fu).ct) : K67 fu cp := ⟨fun {a0 r} h => (C67 fu).at H a0 r h⟩
set_option maxHeartbeats 20000000 in
theorem w193 (cp : CallP) (fu : Nat) (x1 : Int) (H1 : K67 fu cp) : J (go Tryz.prog noC cp noI 0 [] d193 fu (fin Tryz.prog [.tmp 2] [24]) (bodyOf Tryz.f193) (initE 0 [.v (.int .u32 x1)]) [] []) (ref01_Canon fu x1) e193 := by
 unfold ref01_Canon e193
 have da := d193_at
 conv => arg 1; simp only [bodyOf, Tryz.f193]
 have z0 := d193_at
 exact Wk
theorem ok193 (fu : Nat) (x1 : Int) (r) (h : ref01_Canon fu x1 = some r) : PureOK Tryz.prog 193 [.v (.int .u32 x1)] (e193 r) := pureT mixed [(C67 fu).ct] (ids := [67]) rfl (by decide) i193 (C := noC) (ci := fun cp => noI) (fun cp ok => noI_ok) (fun cp H => w193 cp fu x1 (u67 H.1)) h
def d119 : List (Nat × List Nat) := [(0, [0]), (0, [4]), (0, [1, 5, 6]), (0, []), (0, []), (0, []), (0, [7, 8, 9, 10]), (0, []), (0, [12, 13]), (0, []), (10, [14, 15, 16, 17, 18, 19, 20, 21, 22, 23]), (0, []), (0, [3, 24])]
def d119_at := by have h := tabL d119.eq_1; simp only [AllAt, Nat.zero_add, Nat.reduceAdd] at h; exact h
theorem i119 : finfo Tryz.prog 119 d119 = some ⟨bodyOf Tryz.f119, [.cell 2 31], [31]⟩ := finfo_at Tryz.func119 rfl (by kernel_rfl) (by kernel_rfl)
def e119 : T_Tensor → AV := fun r => .agg [.v (.int .i64 r.fType), .fresh 1 r.fDims.length (lm (ik .i64) r.fDims), .fresh 1 r.fF.length (lm (ik .u32) r.fF), .fresh 1 r.fI.length (lm (ik .i64) r.fI), .fresh 1 r.fB.length (lm (bk) r.fB)]
structure K193 (fu : Nat) (cp : CallP) : Prop where
 ap : ∀ {a0 : Int} {r}, ref01_Canon fu a0 = some r → cp 193 [.v (.int .u32 a0)] = some (.v (.int .u32 r))
noncomputable def C193 (fu : Nat) : Cm Tryz.prog Int Int := ⟨193, fun t => [.v (.int .u32 t)], fun t => ref01_Canon fu t, e193, fun t b h => ok193 fu t  b h, Zi⟩
theorem u193 {fu : Nat} {cp : CallP} (H : Hit cp (C193 fu).ct) : K193 fu cp := ⟨fun {a0 r} h => (C193 fu).at H a0 r h⟩
def ref05_Canon.m1 : LJ 1 6 Unit ((List Int) × Int) := ⟨fun r s e => [(2, er e 2), (3, er e 3), (4, .v (.int .i64 s.2))], fun r s h => [((0, 2, 0), hr h (0, 2, 0)), ((0, 6, 0), hr h (0, 6, 0)), ((0, 6, 1), .sl true true 1 s.1.length (lm (ik .u32) s.1)), ((0, 6, 2), hr h (0, 6, 2)), ((0, 6, 3), hr h (0, 6, 3)), ((0, 3, 0), bs (hr h (0, 3, 0)) 2 (.own (0, 6, 1) 0 s.1.length s.1.length))]⟩
set_option maxHeartbeats 20000000 in
open ref05_Canon in
theorem w119 (cp : CallP) (fu : Nat) (x1 : T_Tensor) (H1 : K109 fu cp) (H2 : K193 fu cp) : J (go Tryz.prog noC cp noI 0 [] d119 fu (fin Tryz.prog [.cell 2 31] [31]) (bodyOf Tryz.f119) (initE 0 [.agg (c_T_Tensor x1)]) [] []) (ref05_Canon fu x1) e119 := by
 unfold ref05_Canon e119
 have da := d119_at
 conv => arg 1; simp only [bodyOf, Tryz.f119]
 have z0 := d119_at
 exact Wk
theorem ok119 (fu : Nat) (x1 : T_Tensor) (r) (h : ref05_Canon fu x1 = some r) : PureOK Tryz.prog 119 [.agg (c_T_Tensor x1)] (e119 r) := pureT mixed [(C109 fu).ct, (C193 fu).ct] (ids := [109, 193]) rfl (by decide) i119 (C := noC) (ci := fun cp => noI) (fun cp ok => noI_ok) (fun cp H => w119 cp fu x1 (u109 H.1) (u193 H.2.1)) h
def d60 : List (Nat × List Nat) := [(0, [2]), (0, [0, 4]), (0, [5000003]), (0, []), (0, []), (0, []), (0, [5, 6, 7]), (0, []), (0, [9, 10]), (0, []), (0, [11, 12, 13, 14, 15, 16, 17, 18]), (0, []), (0, [3, 19])]
def d60_at := by have h := tabL d60.eq_1; simp only [AllAt, Nat.zero_add, Nat.reduceAdd] at h; exact h
theorem i60 : finfo Tryz.prog 60 d60 = some ⟨bodyOf Tryz.f60, [.tmp 2], [34]⟩ := finfo_at Tryz.func60 rfl (by kernel_rfl) (by kernel_rfl)
def e60 : (List T_Tensor) → AV := fun r => .arr r.length (fm c_T_Tensor r)
structure K119 (fu : Nat) (cp : CallP) : Prop where
 ap : ∀ {a0 : T_Tensor} {r}, ref05_Canon fu a0 = some r → cp 119 [.agg (c_T_Tensor a0)] = some (.agg [.v (.int .i64 r.fType), .fresh 1 r.fDims.length (lm (ik .i64) r.fDims), .fresh 1 r.fF.length (lm (ik .u32) r.fF), .fresh 1 r.fI.length (lm (ik .i64) r.fI), .fresh 1 r.fB.length (lm (bk) r.fB)])
noncomputable def C119 (fu : Nat) : Cm Tryz.prog T_Tensor T_Tensor := ⟨119, fun t => [.agg (c_T_Tensor t)], fun t => ref05_Canon fu t, e119, fun t b h => ok119 fu t  b h, Zi⟩
theorem u119 {fu : Nat} {cp : CallP} (H : Hit cp (C119 fu).ct) : K119 fu cp := ⟨fun {a0 r} h => (C119 fu).at H a0 r h⟩
def ref11_Canons.m1 : LJ 1 6 Unit ((List T_Tensor) × Int) := ⟨fun r s e => [(0, er e 0), (3, .own (0, 3, 77) 0 s.1.length s.1.length), (4, .v (.int .i64 s.2))], fun r s h => [((0, 3, 77), .sl true true 5 s.1.length (fm c_T_Tensor s.1))]⟩
set_option maxHeartbeats 20000000 in
open ref11_Canons in
theorem w60 (cp : CallP) (fu : Nat) (x1 : List T_Tensor) (H1 : K119 fu cp) : J (go Tryz.prog noC cp noI 0 [] d60 fu (finS Tryz.prog [.tmp 2] [34]) (bodyOf Tryz.f60) (initE 0 [.arr x1.length (fm c_T_Tensor x1)]) [] []) (ref11_Canons fu x1) e60 := by
 unfold ref11_Canons e60
 have da := d60_at
 conv => arg 1; simp only [bodyOf, Tryz.f60]
 have z0 := d60_at
 have z1 := SE
 exact Wk
theorem ok60 (fu : Nat) (x1 : List T_Tensor) (r) (h : ref11_Canons fu x1 = some r) : PureOK Tryz.prog 60 [.arr x1.length (fm c_T_Tensor x1)] (e60 r) := pureST mixed [(C119 fu).ct] (ids := [119]) rfl (by decide) i60 (C := noC) (ci := fun cp => noI) (fun cp ok => noI_ok) (fun cp H => w60 cp fu x1 (u119 H.1)) h
def d61 : List (Nat × List Nat) := [(0, [2]), (0, [0, 3]), (0, [4, 5, 6, 7, 8, 9, 10, 11, 12, 13, 14, 15, 16, 17, 18, 19, 20, 21]), (0, []), (0, []), (0, []), (0, []), (0, []), (0, [23, 24, 25, 26, 27, 28, 29, 30, 31]), (0, []), (0, [33, 34]), (0, []), (22, [35, 36, 37, 38, 39, 40, 41, 42, 43, 44, 45, 46, 47, 48, 49, 50, 51, 52, 53, 54, 55]), (0, []), (0, []), (0, []), (0, [])]
def d61_at := by have h := tabL d61.eq_1; simp only [AllAt, Nat.zero_add, Nat.reduceAdd] at h; exact h
theorem i61 : finfo Tryz.prog 61 d61 = some ⟨bodyOf Tryz.f61, [.tmp 2], [4]⟩ := finfo_at Tryz.func61 rfl (by kernel_rfl) (by kernel_rfl)
def e61 : Bool → AV := fun r => .v (.bool r)
set_option maxHeartbeats 20000000 in
theorem w61 (cp : CallP) (fu : Nat) (x1 : T_ref12_job)  : J (go Tryz.prog noC cp noI 0 [] d61 fu (fin Tryz.prog [.tmp 2] [4]) (bodyOf Tryz.f61) (initE 0 [.ref (c_T_ref12_job x1) 0]) [] []) (ref12_job_ranged fu x1) e61 := by
 unfold ref12_job_ranged e61
 have da := d61_at
 conv => arg 1; simp only [bodyOf, Tryz.f61]
 have z0 := d61_at
 exact Wk
theorem ok61 (fu : Nat) (x1 : T_ref12_job) (r) (h : ref12_job_ranged fu x1 = some r) : PureOK Tryz.prog 61 [.ref (c_T_ref12_job x1) 0] (e61 r) := pureT mixed [] (ids := []) rfl (by decide) i61 (C := noC) (ci := fun cp => noI) (fun cp ok => noI_ok) (fun cp H => w61 cp fu x1 ) h
def d124 : List (Nat × List Nat) := [(0, [5]), (0, [6, 29]), (0, [9, 10]), (0, []), (0, [12]), (0, []), (0, [13, 14, 15, 16, 17]), (0, []), (0, [18]), (0, []), (0, [20, 21]), (0, []), (0, [7, 22, 23]), (0, []), (0, [1, 24, 25, 26, 27, 28]), (0, []), (0, [0]), (0, []), (0, [30, 31, 32]), (0, []), (0, [34]), (0, []), (0, [35, 36, 37]), (0, []), (0, [39]), (0, []), (0, [40, 41, 42]), (0, []), (0, [8, 43])]
def d124_at := by have h := tabL d124.eq_1; simp only [AllAt, Nat.zero_add, Nat.reduceAdd] at h; exact h
theorem i124 : finfo Tryz.prog 124 d124 = some ⟨bodyOf Tryz.f124, [.cell 4 31, .tmp 5], [31, 35]⟩ := finfo_at Tryz.func124 rfl (by kernel_rfl) (by kernel_rfl)
def e124 : (T_Tensor × Int) → AV := fun r => .tuple [.agg [.v (.int .i64 r.1.fType), .fresh 1 r.1.fDims.length (lm (ik .i64) r.1.fDims), .fresh 1 r.1.fF.length (lm (ik .u32) r.1.fF), .fresh 1 r.1.fI.length (lm (ik .i64) r.1.fI), .fresh 1 r.1.fB.length (lm (bk) r.1.fB)], .v (.int .i64 r.2)]
set_option maxHeartbeats 20000000 in
theorem w124 (cp : CallP) (fu : Nat) (x1 : Int) (x2 : List Int) (H1 : K31 fu cp) (H2 : K32 fu cp) : J (go Tryz.prog noC cp noI 0 [] d124 fu (fin Tryz.prog [.cell 4 31, .tmp 5] [31, 35]) (bodyOf Tryz.f124) (initE 0 [.v (.int .i64 x1), .arr x2.length (lm (ik .i64) x2)]) [] []) (ref05_New fu x1 x2) e124 := by
 unfold ref05_New e124
 have da := d124_at
 conv => arg 1; simp only [bodyOf, Tryz.f124]
 have z0 := d124_at
 exact Wk
theorem ok124 (fu : Nat) (x1 : Int) (x2 : List Int) (r) (h : ref05_New fu x1 x2 = some r) : PureOK Tryz.prog 124 [.v (.int .i64 x1), .arr x2.length (lm (ik .i64) x2)] (e124 r) := pureT mixed [(C31 fu).ct, (C32 fu).ct] (ids := [31, 32]) rfl (by decide) i124 (C := noC) (ci := fun cp => noI) (fun cp ok => noI_ok) (fun cp H => w124 cp fu x1 x2 (u31 H.1) (u32 H.2.1)) h
def d194 : List (Nat × List Nat) := [(0, [4, 5]), (0, [0, 1, 9]), (0, [10, 11, 12, 13, 14]), (0, []), (0, [15]), (0, []), (0, [17]), (0, []), (0, [6, 7, 18, 19, 20, 21, 22, 23]), (0, []), (0, []), (0, []), (0, [25, 26, 27]), (0, []), (0, [28, 29, 30]), (0, []), (0, [31]), (0, []), (0, [33, 34]), (0, []), (0, [35, 36, 37, 38, 39, 40, 41, 42, 43]), (0, []), (0, [44, 45, 46, 47, 48, 49]), (0, []), (0, [8, 50])]
def d194_at := by have h := tabL d194.eq_1; simp only [AllAt, Nat.zero_add, Nat.reduceAdd] at h; exact h
theorem i194 : finfo Tryz.prog 194 d194 = some ⟨bodyOf Tryz.f194, [.tmp 4, .tmp 5], [27, 35]⟩ := finfo_at Tryz.func194 rfl (by kernel_rfl) (by kernel_rfl)
def e194 : ((List Int) × Int) → AV := fun r => .tuple [.fresh 1 r.1.length (lm (ik .i64) r.1), .v (.int .i64 r.2)]
def ref04_Index.m1 : LJ 1 16 Unit ((List Int) × Int × Int) := ⟨fun r s e => [(0, er e 0), (1, .v (.int .i64 s.2.1)), (8, .own (0, 27, 0) 0 s.1.length s.1.length), (9, .v (.int .i64 s.2.2))], fun r s h => [((0, 27, 0), .sl true true 1 s.1.length (lm (ik .i64) s.1))]⟩
def ref04_Index.j1 : LJ 1 12 Unit Unit := ⟨fun r t e => [(0, er e 0), (1, er e 1)], fun r t h => []⟩
set_option maxHeartbeats 20000000 in
open ref04_Index in
theorem w194 (cp : CallP) (fu : Nat) (x1 : List Int) (x2 : Int) (H1 : K32 fu cp) : J (go Tryz.prog noC cp noI 0 [] d194 fu (fin Tryz.prog [.tmp 4, .tmp 5] [27, 35]) (bodyOf Tryz.f194) (initE 0 [.arr x1.length (lm (ik .i64) x1), .v (.int .i64 x2)]) [] []) (ref04_Index fu x1 x2) e194 := by
 unfold ref04_Index e194
 have da := d194_at
 conv => arg 1; simp only [bodyOf, Tryz.f194]
 have z0 := d194_at
 exact Wk
theorem ok194 (fu : Nat) (x1 : List Int) (x2 : Int) (r) (h : ref04_Index fu x1 x2 = some r) : PureOK Tryz.prog 194 [.arr x1.length (lm (ik .i64) x1), .v (.int .i64 x2)] (e194 r) := pureT mixed [(C32 fu).ct] (ids := [32]) rfl (by decide) i194 (C := noC) (ci := fun cp => noI) (fun cp ok => noI_ok) (fun cp H => w194 cp fu x1 x2 (u32 H.1)) h
def d236 : List (Nat × List Nat) := [(0, [4, 5]), (0, [0, 1, 9]), (0, [6, 10, 11, 12, 13, 14]), (0, []), (0, [15]), (0, []), (0, [17]), (0, []), (0, [7, 18, 19, 20, 21]), (0, []), (0, []), (0, []), (0, []), (0, []), (0, []), (0, []), (0, [23, 24, 25]), (0, []), (0, [27, 28]), (0, []), (16, [29, 30, 31, 32, 33, 34, 35, 36, 37, 38, 39, 40, 41, 42, 43]), (0, []), (0, []), (0, []), (12, [45, 46, 47, 48, 49, 50, 51, 52, 53, 54, 55]), (0, []), (0, [8, 56])]
def d236_at := by have h := tabL d236.eq_1; simp only [AllAt, Nat.zero_add, Nat.reduceAdd] at h; exact h
theorem i236 : finfo Tryz.prog 236 d236 = some ⟨bodyOf Tryz.f236, [.tmp 4, .tmp 5], [3, 35]⟩ := finfo_at Tryz.func236 rfl (by kernel_rfl) (by kernel_rfl)
def e236 : (Int × Int) → AV := fun r => .tuple [.v (.int .i64 r.1), .v (.int .i64 r.2)]
def ref04_Offset.j1 : LJ 1 24 Unit Unit := ⟨fun r t e => [(0, er e 0), (1, er e 1), (8, er e 8), (9, er e 9)], fun r t h => []⟩
def ref04_Offset.m1 : LJ 1 16 Unit (Int × Int) := ⟨fun r s e => [(0, er e 0), (1, er e 1), (8, .v (.int .i64 s.1)), (9, .v (.int .i64 s.2))], fun r s h => []⟩
set_option maxHeartbeats 20000000 in
open ref04_Offset in
theorem w236 (cp : CallP) (fu : Nat) (x1 : List Int) (x2 : List Int) (H1 : K32 fu cp) : J (go Tryz.prog noC cp noI 0 [] d236 fu (fin Tryz.prog [.tmp 4, .tmp 5] [3, 35]) (bodyOf Tryz.f236) (initE 0 [.arr x1.length (lm (ik .i64) x1), .arr x2.length (lm (ik .i64) x2)]) [] []) (ref04_Offset fu x1 x2) e236 := by
 unfold ref04_Offset e236
 have da := d236_at
 conv => arg 1; simp only [bodyOf, Tryz.f236]
 have z0 := d236_at
 exact Wk
theorem ok236 (fu : Nat) (x1 : List Int) (x2 : List Int) (r) (h : ref04_Offset fu x1 x2 = some r) : PureOK Tryz.prog 236 [.arr x1.length (lm (ik .i64) x1), .arr x2.length (lm (ik .i64) x2)] (e236 r) := pureT mixed [(C32 fu).ct] (ids := [32]) rfl (by decide) i236 (C := noC) (ci := fun cp => noI) (fun cp ok => noI_ok) (fun cp H => w236 cp fu x1 x2 (u32 H.1)) h
def d195 : List (Nat × List Nat) := [(0, [4]), (0, []), (0, [0, 1, 6, 7, 8, 9, 10, 11, 12]), (0, []), (0, [5, 13])]
def d195_at := by have h := tabL d195.eq_1; simp only [AllAt, Nat.zero_add, Nat.reduceAdd] at h; exact h
theorem i195 : finfo Tryz.prog 195 d195 = some ⟨bodyOf Tryz.f195, [.tmp 4], [3]⟩ := finfo_at Tryz.func195 rfl (by kernel_rfl) (by kernel_rfl)
def e195 : Int → AV := fun r => .v (.int .i64 r)
structure K236 (fu : Nat) (cp : CallP) : Prop where
 ap : ∀ {a0 : List Int} {a1 : List Int} {r}, ref04_Offset fu a0 a1 = some r → cp 236 [.arr a0.length (lm (ik .i64) a0), .arr a1.length (lm (ik .i64) a1)] = some (.tuple [.v (.int .i64 r.1), .v (.int .i64 r.2)])
noncomputable def C236 (fu : Nat) : Cm Tryz.prog ((List Int) × (List Int)) (Int × Int) := ⟨236, fun t => [.arr t.1.length (lm (ik .i64) t.1), .arr t.2.length (lm (ik .i64) t.2)], fun t => ref04_Offset fu t.1 t.2, e236, fun t b h => ok236 fu t.1 t.2  b h, Zi⟩
theorem u236 {fu : Nat} {cp : CallP} (H : Hit cp (C236 fu).ct) : K236 fu cp := ⟨fun {a0 a1 r} h => (C236 fu).at H (a0, a1) r h⟩
set_option maxHeartbeats 20000000 in
theorem w195 (cp : CallP) (fu : Nat) (x1 : List Int) (x2 : List Int) (H1 : K236 fu cp) : J (go Tryz.prog noC cp noI 0 [] d195 fu (fin Tryz.prog [.tmp 4] [3]) (bodyOf Tryz.f195) (initE 0 [.arr x1.length (lm (ik .i64) x1), .arr x2.length (lm (ik .i64) x2)]) [] []) (ref12_offset fu x1 x2) e195 := by
 unfold ref12_offset e195
 have da := d195_at
 conv => arg 1; simp only [bodyOf, Tryz.f195]
 have z0 := d195_at
 exact Wk
theorem ok195 (fu : Nat) (x1 : List Int) (x2 : List Int) (r) (h : ref12_offset fu x1 x2 = some r) : PureOK Tryz.prog 195 [.arr x1.length (lm (ik .i64) x1), .arr x2.length (lm (ik .i64) x2)] (e195 r) := pureT mixed [(C236 fu).ct] (ids := [236]) rfl (by decide) i195 (C := noC) (ci := fun cp => noI) (fun cp ok => noI_ok) (fun cp H => w195 cp fu x1 x2 (u236 H.1)) h
def d198 : List (Nat × List Nat) := [(0, [4]), (0, [1, 6]), (0, [8, 9, 10]), (0, []), (0, []), (0, []), (0, [11, 12, 13]), (0, []), (0, [15, 16]), (0, []), (0, [17, 18, 19, 20, 21]), (0, []), (0, [22, 23, 24, 25]), (0, []), (0, [27, 28, 29, 30, 31, 32, 33, 34]), (0, []), (0, [7, 35, 36, 37, 38, 39, 40, 41]), (0, []), (0, [0, 5, 42, 43, 44, 45, 46, 47])]
def d198_at := by have h := tabL d198.eq_1; simp only [AllAt, Nat.zero_add, Nat.reduceAdd] at h; exact h
theorem i198 : finfo Tryz.prog 198 d198 = some ⟨bodyOf Tryz.f198, [.tmp 4], [3]⟩ := finfo_at Tryz.func198 rfl (by kernel_rfl) (by kernel_rfl)
def e198 : Int → AV := fun r => .v (.int .i64 r)
set_option maxHeartbeats 20000000 in
theorem w198 (cp : CallP) (fu : Nat) (x1 : T_ref12_job) (x2 : List Int) (H195_0 : ∀ (a0 : List Int) (a1 : List Int) r, ref12_offset fu a0 a1 = some r → cp 195 [.arr a0.length (lm (ik .i64) a0), .arr a1.length (lm (ik .i64) a1)] = some (.v (.int .i64 r))) : J (go Tryz.prog noC cp noI 0 [] d198 fu (fin Tryz.prog [.tmp 4] [3]) (bodyOf Tryz.f198) (initE 0 [.ref (c_T_ref12_job x1) 0, .arr x2.length (lm (ik .i64) x2)]) [] []) (ref12_job_transpose fu x1 x2) e198 := by
 unfold ref12_job_transpose e198
 have da := d198_at
 refine J.chk fun h1 => ?_
 refine J.chk fun h2 => ?_
 conv => arg 1; simp (disch := first | exact Zd | fail) only [bodyOf, Tryz.f198, ZZ, d198_at, simprocAttr, h1]
 refine J.joinS (fun (t : (List Int) × Bool) => ([(0, .ref [.v (.int .i64 45), .v (.int .i64 x1.fs.fAxis), .arr x1.fs.fAxes.length (lm (ik .i64) x1.fs.fAxes), .v (.bool x1.fs.fHasAxes), .v (.bool x1.fs.fKeep), .v (.bool x1.fs.fNoop), .v (.bool x1.fs.fLast), .v (.bool x1.fs.fZero), .arr x1.fs.fPerm.length (lm (ik .i64) x1.fs.fPerm), .v (.bool t.2), .v (.int .u32 x1.fs.fAlpha), .v (.int .u32 x1.fs.fBeta), .v (.int .u32 x1.fs.fEpsilon), .v (.bool x1.fs.fLow), .v (.bool x1.fs.fHigh), .v (.bool x1.fs.fFmod), .v (.int .i64 x1.fs.fTo), .v (.int .i64 x1.fs.fMode), .v (.bool x1.fs.fTransA), .v (.bool x1.fs.fTransB), .v (.int .i64 x1.fs.fGroup), .arr x1.fs.fKernel.length (lm (ik .i64) x1.fs.fKernel), .arr x1.fs.fStrides.length (lm (ik .i64) x1.fs.fStrides), .arr x1.fs.fPads.length (lm (ik .i64) x1.fs.fPads), .arr x1.fs.fDilations.length (lm (ik .i64) x1.fs.fDilations), .v (.int .i64 x1.fs.fAuto), .v (.bool x1.fs.fCeil), .v (.bool x1.fs.fCount), .v (.int .i64 x1.fs.fBlock), .v (.int .i64 x1.fs.fStart), .v (.int .i64 x1.fs.fEnd), .v (.bool x1.fs.fHasEnd), .v (.int .i64 x1.fs.fValue.fType), .arr x1.fs.fValue.fDims.length (lm (ik .i64) x1.fs.fValue.fDims), .arr x1.fs.fValue.fF.length (lm (ik .u32) x1.fs.fValue.fF), .arr x1.fs.fValue.fI.length (lm (ik .i64) x1.fs.fValue.fI), .arr x1.fs.fValue.fB.length (lm (bk) x1.fs.fValue.fB), .arr x1.fin.length (fm c_T_Tensor x1.fin), .arr x1.fvals.length (fm c_T_Val x1.fvals), .arr x1.fd.length (lm (ik .i64) x1.fd), .v (.int .i64 x1.faxis), .arr x1.fout.length (lm (ik .i64) x1.fout), .v (.int .i64 x1.ffrom)] 0), (5, .own (0, 10, 0) 0 t.1.length t.1.length)], [((0, 10, 0), .sl true true 1 t.1.length (lm (ik .i64) t.1))])) (fun t => ref12_job_transpose.k1 fu x1 t.1 t.2) ?_ (fun hj1 => ?_)
 ·rintro ⟨x3, x4⟩
  show J _ (ref12_job_transpose.k1 fu x1 x3 x4) _
  unfold ref12_job_transpose.k1
  refine J.bind fun x5 h3 => ?_
  have e_h3 := H195_0 _ _ _ h3
  try simp only [NN, NT, LN, simprocAttr, DT] at e_h3
  refine J.some ?_
  exact Js
 ·refine J.hd jn_at ?_
  refine Jc ?_
  unfold ref12_job_transpose.W1
  refine J.loop (fun (s : (List Int) × Bool × Int) => ([(0, .ref [.v (.int .i64 45), .v (.int .i64 x1.fs.fAxis), .arr x1.fs.fAxes.length (lm (ik .i64) x1.fs.fAxes), .v (.bool x1.fs.fHasAxes), .v (.bool x1.fs.fKeep), .v (.bool x1.fs.fNoop), .v (.bool x1.fs.fLast), .v (.bool x1.fs.fZero), .arr x1.fs.fPerm.length (lm (ik .i64) x1.fs.fPerm), .v (.bool s.2.1), .v (.int .u32 x1.fs.fAlpha), .v (.int .u32 x1.fs.fBeta), .v (.int .u32 x1.fs.fEpsilon), .v (.bool x1.fs.fLow), .v (.bool x1.fs.fHigh), .v (.bool x1.fs.fFmod), .v (.int .i64 x1.fs.fTo), .v (.int .i64 x1.fs.fMode), .v (.bool x1.fs.fTransA), .v (.bool x1.fs.fTransB), .v (.int .i64 x1.fs.fGroup), .arr x1.fs.fKernel.length (lm (ik .i64) x1.fs.fKernel), .arr x1.fs.fStrides.length (lm (ik .i64) x1.fs.fStrides), .arr x1.fs.fPads.length (lm (ik .i64) x1.fs.fPads), .arr x1.fs.fDilations.length (lm (ik .i64) x1.fs.fDilations), .v (.int .i64 x1.fs.fAuto), .v (.bool x1.fs.fCeil), .v (.bool x1.fs.fCount), .v (.int .i64 x1.fs.fBlock), .v (.int .i64 x1.fs.fStart), .v (.int .i64 x1.fs.fEnd), .v (.bool x1.fs.fHasEnd), .v (.int .i64 x1.fs.fValue.fType), .arr x1.fs.fValue.fDims.length (lm (ik .i64) x1.fs.fValue.fDims), .arr x1.fs.fValue.fF.length (lm (ik .u32) x1.fs.fValue.fF), .arr x1.fs.fValue.fI.length (lm (ik .i64) x1.fs.fValue.fI), .arr x1.fs.fValue.fB.length (lm (bk) x1.fs.fValue.fB), .arr x1.fin.length (fm c_T_Tensor x1.fin), .arr x1.fvals.length (fm c_T_Val x1.fvals), .arr x1.fd.length (lm (ik .i64) x1.fd), .v (.int .i64 x1.faxis), .arr x1.fout.length (lm (ik .i64) x1.fout), .v (.int .i64 x1.ffrom)] 0), (1, .arr x2.length (lm (ik .i64) x2)), (5, .own (0, 10, 0) 0 s.1.length s.1.length), (6, .v (.int .i64 s.2.2))], [((0, 10, 0), .sl true true 1 s.1.length (lm (ik .i64) s.1))])) (fun next s => ref12_job_transpose.L1 fu x1 x2 (fun x10 x11 x12 => next (x10, x11, x12)) s.1 s.2.1 s.2.2) (s0 := (List.replicate (x2.length : Int).toNat (0 : Int), x1.fs.fHasPerm, 0)) ?_ ?_ ?_
  ·exact Ze
  ·exact Zh
  rintro next k1 hn1 ⟨x10, x11, x12⟩
  let nx1 : (List Int) → Bool → Int → Option Int := (fun x10 x11 x12 => next (x10, x11, x12))
  show J _ (ref12_job_transpose.L1 fu x1 x2 nx1 x10 x11 x12) _
  unfold ref12_job_transpose.L1
  refine J.eq go_seq ?_
  refine Jc ?_
  refine J.ite (fun h4 => ?_) (fun h4 => ?_)
  ·have h4' := decide_eq_true h4
   have h4'' : decide ((x2.length : Int) ≤ x12) = false := decide_eq_false (by omega)
   refine Jc ?_
   refine J.eq ret_seq ?_
   refine J.eq go_seq ?_
   refine Jc ?_
   refine J.joinS (fun (t : Bool × Int) => ([(0, .ref [.v (.int .i64 45), .v (.int .i64 x1.fs.fAxis), .arr x1.fs.fAxes.length (lm (ik .i64) x1.fs.fAxes), .v (.bool x1.fs.fHasAxes), .v (.bool x1.fs.fKeep), .v (.bool x1.fs.fNoop), .v (.bool x1.fs.fLast), .v (.bool x1.fs.fZero), .arr x1.fs.fPerm.length (lm (ik .i64) x1.fs.fPerm), .v (.bool t.1), .v (.int .u32 x1.fs.fAlpha), .v (.int .u32 x1.fs.fBeta), .v (.int .u32 x1.fs.fEpsilon), .v (.bool x1.fs.fLow), .v (.bool x1.fs.fHigh), .v (.bool x1.fs.fFmod), .v (.int .i64 x1.fs.fTo), .v (.int .i64 x1.fs.fMode), .v (.bool x1.fs.fTransA), .v (.bool x1.fs.fTransB), .v (.int .i64 x1.fs.fGroup), .arr x1.fs.fKernel.length (lm (ik .i64) x1.fs.fKernel), .arr x1.fs.fStrides.length (lm (ik .i64) x1.fs.fStrides), .arr x1.fs.fPads.length (lm (ik .i64) x1.fs.fPads), .arr x1.fs.fDilations.length (lm (ik .i64) x1.fs.fDilations), .v (.int .i64 x1.fs.fAuto), .v (.bool x1.fs.fCeil), .v (.bool x1.fs.fCount), .v (.int .i64 x1.fs.fBlock), .v (.int .i64 x1.fs.fStart), .v (.int .i64 x1.fs.fEnd), .v (.bool x1.fs.fHasEnd), .v (.int .i64 x1.fs.fValue.fType), .arr x1.fs.fValue.fDims.length (lm (ik .i64) x1.fs.fValue.fDims), .arr x1.fs.fValue.fF.length (lm (ik .u32) x1.fs.fValue.fF), .arr x1.fs.fValue.fI.length (lm (ik .i64) x1.fs.fValue.fI), .arr x1.fs.fValue.fB.length (lm (bk) x1.fs.fValue.fB), .arr x1.fin.length (fm c_T_Tensor x1.fin), .arr x1.fvals.length (fm c_T_Val x1.fvals), .arr x1.fd.length (lm (ik .i64) x1.fd), .v (.int .i64 x1.faxis), .arr x1.fout.length (lm (ik .i64) x1.fout), .v (.int .i64 x1.ffrom)] 0), (1, .arr x2.length (lm (ik .i64) x2)), (5, .own (0, 10, 0) 0 x10.length x10.length), (6, .v (.int .i64 x12)), (7, .v (.int .i64 t.2))], [((0, 10, 0), .sl true true 1 x10.length (lm (ik .i64) x10))])) (fun t => ref12_job_transpose.k2 fu nx1 x2 x10 x12 t.1 t.2) ?_ (fun hj2 => ?_)
   ·rintro ⟨x17, x18⟩
    show J _ (ref12_job_transpose.k2 fu nx1 x2 x10 x12 x17 x18) _
    unfold ref12_job_transpose.k2
    refine J.at fun x19 h5 h6 h7 => ?_
    refine J.chk fun h8 => ?_
    conv => arg 1; simp (disch := first | exact Zd | fail) only [ZZ, d198_at, simprocAttr, h1, h4'', h4', lm_ik h7]
    refine J.eq ret_seq ?_
    conv => arg 1; simp (disch := first | exact Zd | fail) only [ZZ, d198_at, simprocAttr, h1, h4'', h4', lm_ik h7]
    refine J.next (s := (x10.set x18.toNat x19, x17, wk .i64 (x12 + 1))) hn1 ?_ ?_
    ·exact Ze
    ·exact Zh
   ·refine J.hd jn_at ?_
    refine Jc ?_
    refine J.ite (fun h9 => ?_) (fun h9 => ?_)
    ·have h9' : x11 = true := h9
     refine J.at fun x20 h10 h11 h12 => ?_
     conv => arg 1; simp (disch := first | exact Zd | fail) only [ZZ, d198_at, simprocAttr, h1, h4'', h4', h9', lm_ik h12]
     refine J.jmp (t := (true, x20)) hj2 ?_ ?_
     ·exact Ze
     ·exact Zh
    ·have h9' : x11 = false := Bool.eq_false_iff.2 h9
     refine Jc ?_
     refine J.jmp (t := (false, wk .i64 ((wk .i64 ((x2.length : Int) - 1)) - x12))) hj2 ?_ ?_
     ·exact Ze
     ·exact Zh
  ·have h4' := decide_eq_false h4
   have h4'' : decide ((x2.length : Int) ≤ x12) = true := decide_eq_true (by omega)
   refine Jc ?_
   refine J.jmp (t := (x10, x11)) hj1 ?_ ?_
   ·exact Ze
   ·exact Zh
noncomputable def t198 (fu : Nat) : CallP := orE 195 (mkC (fun (t : (List Int) × (List Int)) => ([.arr t.1.length (lm (ik .i64) t.1), .arr t.2.length (lm (ik .i64) t.2)] : List AV)) (fun t => ref12_offset fu t.1 t.2) e195) (noP)
theorem t198_ok (fu : Nat) : CpOK Tryz.prog (t198 fu ) := orE_ok (noP_ok) (mkC_ok (fun t b h => ok195 fu t.1 t.2  b h))
theorem ok198 (fu : Nat) (x1 : T_ref12_job) (x2 : List Int) (r) (h : ref12_job_transpose fu x1 x2 = some r) : PureOK Tryz.prog 198 [.ref (c_T_ref12_job x1) 0, .arr x2.length (lm (ik .i64) x2)] (e198 r) :=
  pure_J mixed (cp := t198 fu ) (t198_ok fu  ) noI_ok i198 (w198 _ fu x1 x2  (fun a0 a1 r h => orE_hit (mkC_at (a := (a0, a1)) (by intro a b h; first | (exact rfl) | (simp only [INJ, IJ] at h; first | exact h | (simp_all [Prod.ext_iff]) )) h))) h
def d125 : List (Nat × List Nat) := [(0, [4]), (0, [0, 5, 22, 97]), (0, [6, 10, 11, 12, 13, 14, 15, 16, 17, 18]), (0, []), (0, [19, 20, 21]), (0, []), (0, [24]), (0, []), (0, [25, 26, 27]), (0, []), (0, [29]), (0, []), (0, [30, 31]), (0, []), (18, [32, 33, 34, 35, 36, 37, 38, 39, 40, 41, 42, 43, 44, 45, 46, 47, 48, 49]), (0, []), (0, [7, 50, 51, 52, 53, 54, 55]), (0, []), (0, [57]), (0, []), (0, [58, 59, 60]), (0, []), (0, [62]), (0, []), (0, [63, 64, 65]), (0, []), (0, [67]), (0, []), (0, [68, 69, 70]), (0, []), (0, [72]), (0, []), (0, [73, 74, 75]), (0, []), (0, [77]), (0, []), (0, [78, 79, 80]), (0, []), (0, [82]), (0, []), (15, [9, 83, 84, 85, 86, 87, 88, 89, 90, 91, 92, 93, 94, 95]), (0, []), (0, [8, 96]), (0, []), (0, [98]), (0, []), (0, [99]), (0, []), (0, [100, 101, 102]), (0, []), (0, [1, 103]), (0, []), (0, []), (0, []), (0, []), (0, []), (0, []), (0, []), (0, []), (0, []), (0, []), (0, []), (0, []), (0, []), (0, []), (0, []), (0, []), (0, []), (0, []), (0, []), (0, []), (0, []), (0, []), (0, []), (0, []), (0, []), (0, []), (0, []), (0, []), (0, []), (0, []), (0, []), (0, []), (0, []), (0, []), (0, []), (0, []), (0, []), (0, []), (0, []), (0, []), (0, []), (0, []), (0, []), (0, []), (0, []), (0, []), (0, []), (0, []), (0, []), (0, []), (0, []), (0, []), (0, []), (0, []), (0, []), (0, []), (0, []), (0, []), (0, []), (0, []), (0, []), (0, []), (0, []), (0, []), (0, []), (0, []), (0, []), (0, []), (0, []), (0, []), (0, []), (0, []), (0, []), (0, []), (0, []), (0, []), (0, []), (0, []), (0, []), (0, []), (0, []), (0, []), (0, []), (0, []), (0, []), (0, []), (0, []), (0, []), (0, []), (0, []), (0, []), (0, []), (0, []), (0, []), (0, []), (0, []), (0, []), (0, []), (0, []), (0, []), (0, []), (0, []), (0, []), (0, []), (0, []), (0, []), (0, []), (0, []), (0, []), (0, []), (0, []), (0, []), (0, []), (0, []), (0, []), (0, []), (0, []), (0, []), (0, []), (0, []), (0, []), (0, []), (0, []), (0, []), (0, []), (0, []), (0, []), (0, []), (0, []), (0, []), (0, []), (0, []), (0, []), (0, []), (0, []), (0, []), (0, []), (0, []), (0, []), (0, []), (0, []), (0, []), (0, []), (0, []), (1, [])]
def d125_at := by have h := tabL d125.eq_1; simp only [AllAt, Nat.zero_add, Nat.reduceAdd] at h; exact h
theorem i125 : finfo Tryz.prog 125 d125 = some ⟨bodyOf Tryz.f125, [.tmp 4], [3]⟩ := finfo_at Tryz.func125 rfl (by kernel_rfl) (by kernel_rfl)
def e125 : Int → AV := fun r => .v (.int .i64 r)
structure K194 (fu : Nat) (cp : CallP) : Prop where
 ap : ∀ {a0 : List Int} {a1 : Int} {r}, ref04_Index fu a0 a1 = some r → cp 194 [.arr a0.length (lm (ik .i64) a0), .v (.int .i64 a1)] = some (.tuple [.fresh 1 r.1.length (lm (ik .i64) r.1), .v (.int .i64 r.2)])
noncomputable def C194 (fu : Nat) : Cm Tryz.prog ((List Int) × Int) ((List Int) × Int) := ⟨194, fun t => [.arr t.1.length (lm (ik .i64) t.1), .v (.int .i64 t.2)], fun t => ref04_Index fu t.1 t.2, e194, fun t b h => ok194 fu t.1 t.2  b h, Zi⟩
theorem u194 {fu : Nat} {cp : CallP} (H : Hit cp (C194 fu).ct) : K194 fu cp := ⟨fun {a0 a1 r} h => (C194 fu).at H (a0, a1) r h⟩
structure K198 (fu : Nat) (cp : CallP) : Prop where
 ap : ∀ {a0 : T_ref12_job} {a1 : List Int} {r}, ref12_job_transpose fu a0 a1 = some r → cp 198 [.ref (c_T_ref12_job a0) 0, .arr a1.length (lm (ik .i64) a1)] = some (.v (.int .i64 r))
noncomputable def C198 (fu : Nat) : Cm Tryz.prog (T_ref12_job × (List Int)) Int := ⟨198, fun t => [.ref (c_T_ref12_job t.1) 0, .arr t.2.length (lm (ik .i64) t.2)], fun t => ref12_job_transpose fu t.1 t.2, e198, fun t b h => ok198 fu t.1 t.2  b h, Zi⟩
theorem u198 {fu : Nat} {cp : CallP} (H : Hit cp (C198 fu).ct) : K198 fu cp := ⟨fun {a0 a1 r} h => (C198 fu).at H (a0, a1) r h⟩
set_option maxHeartbeats 20000000 in
theorem w125 (cp : CallP) (fu : Nat) (x1 : T_ref12_job) (x2 : Int) (H1 : K194 fu cp) (H2 : K198 fu cp) : J (go Tryz.prog noC cp noI 0 [] d125 fu (fin Tryz.prog [.tmp 4] [3]) (bodyOf Tryz.f125) (initE 0 [.ref (c_T_ref12_job x1) 0, .v (.int .i64 x2)]) [] []) (ref12_job_place fu x1 x2) e125 := by
 unfold ref12_job_place e125
 have da := d125_at
 conv => arg 1; simp only [bodyOf, Tryz.f125]
 have z0 := d125_at
 exact Wk
theorem ok125 (fu : Nat) (x1 : T_ref12_job) (x2 : Int) (r) (h : ref12_job_place fu x1 x2 = some r) : PureOK Tryz.prog 125 [.ref (c_T_ref12_job x1) 0, .v (.int .i64 x2)] (e125 r) := pureT mixed [(C194 fu).ct, (C198 fu).ct] (ids := [194, 198]) rfl (by decide) i125 (C := noC) (ci := fun cp => noI) (fun cp ok => noI_ok) (fun cp H => w125 cp fu x1 x2 (u194 H.1) (u198 H.2.1)) h
def d126 : List (Nat × List Nat) := [(0, [0, 2]), (0, [1, 3, 4, 6, 9]), (0, [8]), (0, []), (9, [10, 11, 12, 13, 14, 15, 16, 17, 18]), (0, []), (0, [20]), (0, []), (9, [21, 22, 23, 24, 25, 26, 27, 28, 29]), (0, []), (0, [31]), (0, []), (9, [32, 33, 34, 35, 36, 37, 38, 39, 40])]
def d126_at := by have h := tabL d126.eq_1; simp only [AllAt, Nat.zero_add, Nat.reduceAdd] at h; exact h
noncomputable def b126 : Code := bodyOf Tryz.f126
theorem go_b126 {C : Cfg} {cp : CallP} {ci : CallI} {lvl : Nat} {prot : List Id} {D : List (Nat × List Nat)} {n : Nat} {K : KK} {e : Env} {h : Heap} {fs : List Fr} : go Tryz.prog C cp ci lvl prot D n K b126 e h fs = go Tryz.prog C cp ci lvl prot D n K (bodyOf Tryz.f126) e h fs := rfl
theorem i126 : finfo Tryz.prog 126 d126 = some ⟨b126, [], []⟩ := finfo_at Tryz.func126 rfl (by kernel_rfl) (by kernel_rfl)
def d62 : List (Nat × List Nat) := [(0, []), (0, [12, 21]), (0, [9, 10, 11]), (0, [0, 5, 7]), (0, [14]), (0, [8]), (0, [15, 16]), (0, []), (0, [18]), (0, []), (0, [19, 20]), (0, []), (0, [22]), (0, []), (0, [23]), (0, []), (0, [24]), (0, []), (0, [25, 26]), (0, []), (24845527834625349609541870318691075671744399197312, [4, 27, 28, 29, 30, 31, 32, 33, 34, 35, 36, 37, 38, 39, 40, 41]), (0, []), (0, [6, 42, 43, 44, 45, 46, 47, 48, 49]), (0, []), (0, []), (0, []), (0, [50, 51]), (0, []), (0, [53, 54]), (0, []), (0, [55, 56, 57]), (0, []), (0, [58]), (0, []), (9, [60, 61, 62, 63, 64, 65, 66, 67, 68, 69]), (0, []), (0, [70, 71, 72, 73, 74, 75, 76, 77, 78, 79, 80, 81, 82, 83, 84, 85, 86, 87, 88, 89, 90, 91]), (0, []), (8, [93, 94, 95, 96, 97, 98, 99, 100, 101]), (0, []), (0, [3, 102]), (0, []), (0, []), (1, [])]
def d62_at := by have h := tabL d62.eq_1; simp only [AllAt, Nat.zero_add, Nat.reduceAdd] at h; exact h
theorem i62 : finfo Tryz.prog 62 d62 = some ⟨bodyOf Tryz.f62, [.cell 2 31], [31]⟩ := finfo_at Tryz.func62 rfl (by kernel_rfl) (by kernel_rfl)
def e62 : T_Tensor → AV := fun r => .agg [.v (.int .i64 r.fType), .fresh 1 r.fDims.length (lm (ik .i64) r.fDims), .fresh 1 r.fF.length (lm (ik .u32) r.fF), .fresh 1 r.fI.length (lm (ik .i64) r.fI), .fresh 1 r.fB.length (lm (bk) r.fB)]
set_option maxHeartbeats 20000000 in
theorem w62 (cp : CallP) (fu : Nat) (x1 : T_ref12_job) (H124_0 : ∀ (a0 : Int) (a1 : List Int) r, ref05_New fu a0 a1 = some r → cp 124 [.v (.int .i64 a0), .arr a1.length (lm (ik .i64) a1)] = some (.tuple [.agg [.v (.int .i64 r.1.fType), .fresh 1 r.1.fDims.length (lm (ik .i64) r.1.fDims), .fresh 1 r.1.fF.length (lm (ik .u32) r.1.fF), .fresh 1 r.1.fI.length (lm (ik .i64) r.1.fI), .fresh 1 r.1.fB.length (lm (bk) r.1.fB)], .v (.int .i64 r.2)])) (H32_0 : ∀ (a0 : List Int) r, ref04_Size fu a0 = some r → cp 32 [.arr a0.length (lm (ik .i64) a0)] = some (.tuple [.v (.int .i64 r.1), .v (.int .i64 r.2)])) (H125_0 : ∀ (a0 : T_ref12_job) (a1 : Int) r, ref12_job_place fu a0 a1 = some r → cp 125 [.ref (c_T_ref12_job a0) 0, .v (.int .i64 a1)] = some (.v (.int .i64 r))) : J (go Tryz.prog (inlC [126]) cp (ciE Tryz.prog (inlC [126]) cp noI fu 126 d126 ⟨b126, [], []⟩ noI) 0 [] d62 fu (fin Tryz.prog [.cell 2 31] [31]) (bodyOf Tryz.f62) (initE 0 [.ref (c_T_ref12_job x1) 0]) [] []) (ref12_job_one fu x1) e62 := by
 unfold ref12_job_one e62
 have da := d62_at
 refine J.chk fun h1 => ?_
 conv => arg 1; simp (disch := first | exact Zd | fail) only [bodyOf, Tryz.f62, ZZ, d62_at, simprocAttr, RI, RIk, initE, RL, h1]
 refine J.joinS (fun (t : Unit) => ([(0, .ref [.v (.int .i64 45), .v (.int .i64 x1.fs.fAxis), .arr x1.fs.fAxes.length (lm (ik .i64) x1.fs.fAxes), .v (.bool x1.fs.fHasAxes), .v (.bool x1.fs.fKeep), .v (.bool x1.fs.fNoop), .v (.bool x1.fs.fLast), .v (.bool x1.fs.fZero), .arr x1.fs.fPerm.length (lm (ik .i64) x1.fs.fPerm), .v (.bool x1.fs.fHasPerm), .v (.int .u32 x1.fs.fAlpha), .v (.int .u32 x1.fs.fBeta), .v (.int .u32 x1.fs.fEpsilon), .v (.bool x1.fs.fLow), .v (.bool x1.fs.fHigh), .v (.bool x1.fs.fFmod), .v (.int .i64 x1.fs.fTo), .v (.int .i64 x1.fs.fMode), .v (.bool x1.fs.fTransA), .v (.bool x1.fs.fTransB), .v (.int .i64 x1.fs.fGroup), .arr x1.fs.fKernel.length (lm (ik .i64) x1.fs.fKernel), .arr x1.fs.fStrides.length (lm (ik .i64) x1.fs.fStrides), .arr x1.fs.fPads.length (lm (ik .i64) x1.fs.fPads), .arr x1.fs.fDilations.length (lm (ik .i64) x1.fs.fDilations), .v (.int .i64 x1.fs.fAuto), .v (.bool x1.fs.fCeil), .v (.bool x1.fs.fCount), .v (.int .i64 x1.fs.fBlock), .v (.int .i64 x1.fs.fStart), .v (.int .i64 x1.fs.fEnd), .v (.bool x1.fs.fHasEnd), .v (.int .i64 x1.fs.fValue.fType), .arr x1.fs.fValue.fDims.length (lm (ik .i64) x1.fs.fValue.fDims), .arr x1.fs.fValue.fF.length (lm (ik .u32) x1.fs.fValue.fF), .arr x1.fs.fValue.fI.length (lm (ik .i64) x1.fs.fValue.fI), .arr x1.fs.fValue.fB.length (lm (bk) x1.fs.fValue.fB), .arr x1.fin.length (fm c_T_Tensor x1.fin), .arr x1.fvals.length (fm c_T_Val x1.fvals), .arr x1.fd.length (lm (ik .i64) x1.fd), .v (.int .i64 x1.faxis), .arr x1.fout.length (lm (ik .i64) x1.fout), .v (.int .i64 x1.ffrom)] 0), (2, .ptr (0, 2, 0) 0 0)], [((0, 2, 0), .bx true ([.v (.int .i64 0), .v (.slice none 0 0), .v (.slice none 0 0), .v (.slice none 0 0), .v (.slice none 0 0)]))])) (fun t => ref12_job_one.k1 fu x1) ?_ (fun hj1 => ?_)
 ·rintro ⟨⟩
  show J _ (ref12_job_one.k1 fu x1) _
  unfold ref12_job_one.k1
  refine J.at fun x2 h2 h3 h4 => ?_
  replace h4 : x1.fin[0]? = some x2 := h4
  have h4k := fm_cut c_T_Tensor_len h4
  have h4f := fm_fit c_T_Tensor_len h4
  have h4a0 := fm_at (j := 0) c_T_Tensor_len h4 (by decide)
  have h4a1 := fm_at (j := 1) c_T_Tensor_len h4 (by decide)
  have h4a2 := fm_at (j := 2) c_T_Tensor_len h4 (by decide)
  have h4a3 := fm_at (j := 3) c_T_Tensor_len h4 (by decide)
  have h4a4 := fm_at (j := 4) c_T_Tensor_len h4 (by decide)
  simp only [simprocAttr, Nat.zero_mul, Nat.zero_add, Nat.add_zero, List.drop_zero] at h4k h4f h4a0 h4a1 h4a2 h4a3 h4a4
  refine J.bind fun x3 h5 => ?_
  have e_h5 := H124_0 _ _ _ h5
  try simp only [NN, NT, LN, simprocAttr, DT] at e_h5
  refine J.bind fun x4 h6 => ?_
  have e_h6 := H32_0 _ _ h6
  try simp only [NN, NT, LN, simprocAttr, DT] at e_h6
  conv => arg 1; simp (disch := first | exact Zd | fail) only [ZZ, d62_at, simprocAttr, RI, RIk, initE, RL, h1, h4k, h4f, h4a0, h4a1, h4a2, h4a3, h4a4, e_h5, e_h6]
  refine J.eq go_seq ?_
  conv => arg 1; simp (disch := first | exact Zd | fail) only [ZZ, d62_at, simprocAttr, RI, RIk, initE, RL, h1, h4k, h4f, h4a0, h4a1, h4a2, h4a3, h4a4, e_h5, e_h6]
  unfold ref12_job_one.W1
  refine J.loop (fun (s : (List Int) × (List Int) × (List Bool) × Int) => ([(0, .ref [.v (.int .i64 45), .v (.int .i64 x1.fs.fAxis), .arr x1.fs.fAxes.length (lm (ik .i64) x1.fs.fAxes), .v (.bool x1.fs.fHasAxes), .v (.bool x1.fs.fKeep), .v (.bool x1.fs.fNoop), .v (.bool x1.fs.fLast), .v (.bool x1.fs.fZero), .arr x1.fs.fPerm.length (lm (ik .i64) x1.fs.fPerm), .v (.bool x1.fs.fHasPerm), .v (.int .u32 x1.fs.fAlpha), .v (.int .u32 x1.fs.fBeta), .v (.int .u32 x1.fs.fEpsilon), .v (.bool x1.fs.fLow), .v (.bool x1.fs.fHigh), .v (.bool x1.fs.fFmod), .v (.int .i64 x1.fs.fTo), .v (.int .i64 x1.fs.fMode), .v (.bool x1.fs.fTransA), .v (.bool x1.fs.fTransB), .v (.int .i64 x1.fs.fGroup), .arr x1.fs.fKernel.length (lm (ik .i64) x1.fs.fKernel), .arr x1.fs.fStrides.length (lm (ik .i64) x1.fs.fStrides), .arr x1.fs.fPads.length (lm (ik .i64) x1.fs.fPads), .arr x1.fs.fDilations.length (lm (ik .i64) x1.fs.fDilations), .v (.int .i64 x1.fs.fAuto), .v (.bool x1.fs.fCeil), .v (.bool x1.fs.fCount), .v (.int .i64 x1.fs.fBlock), .v (.int .i64 x1.fs.fStart), .v (.int .i64 x1.fs.fEnd), .v (.bool x1.fs.fHasEnd), .v (.int .i64 x1.fs.fValue.fType), .arr x1.fs.fValue.fDims.length (lm (ik .i64) x1.fs.fValue.fDims), .arr x1.fs.fValue.fF.length (lm (ik .u32) x1.fs.fValue.fF), .arr x1.fs.fValue.fI.length (lm (ik .i64) x1.fs.fValue.fI), .arr x1.fs.fValue.fB.length (lm (bk) x1.fs.fValue.fB), .arr x1.fin.length (fm c_T_Tensor x1.fin), .arr x1.fvals.length (fm c_T_Val x1.fvals), .arr x1.fd.length (lm (ik .i64) x1.fd), .v (.int .i64 x1.faxis), .arr x1.fout.length (lm (ik .i64) x1.fout), .v (.int .i64 x1.ffrom)] 0), (2, .ptr (0, 2, 0) 0 0), (3, .ptr (0, 3, 0) 0 0), (5, .v (.int .i64 x4.1)), (7, .v (.int .i64 s.2.2.2))], [((0, 2, 0), .bx true ([.v (.int .i64 0), .v (.slice none 0 0), .v (.slice none 0 0), .v (.slice none 0 0), .v (.slice none 0 0)])), ((0, 39, 0), .sl true true 1 x3.1.fDims.length (lm (ik .i64) x3.1.fDims)), ((0, 39, 1), .sl true true 1 s.1.length (lm (ik .u32) s.1)), ((0, 39, 2), .sl true true 1 s.2.1.length (lm (ik .i64) s.2.1)), ((0, 39, 3), .sl true true 1 s.2.2.1.length (lm (bk) s.2.2.1)), ((0, 3, 0), .bx true ([.v (.int .i64 x3.1.fType), .own (0, 39, 0) 0 x3.1.fDims.length x3.1.fDims.length, .own (0, 39, 1) 0 s.1.length s.1.length, .own (0, 39, 2) 0 s.2.1.length s.2.1.length, .own (0, 39, 3) 0 s.2.2.1.length s.2.2.1.length]))])) (fun next s => ref12_job_one.L1 fu x1 x2 x3 x4 (fun x12 x13 x14 x15 => next (x12, x13, x14, x15)) s.1 s.2.1 s.2.2.1 s.2.2.2) (s0 := (x3.1.fF, x3.1.fI, x3.1.fB, 0)) ?_ ?_ ?_
  ·exact Ze
  ·exact Zh
  rintro next k1 hn1 ⟨x12, x13, x14, x15⟩
  let nx1 : (List Int) → (List Int) → (List Bool) → Int → Option T_Tensor := (fun x12 x13 x14 x15 => next (x12, x13, x14, x15))
  show J _ (ref12_job_one.L1 fu x1 x2 x3 x4 nx1 x12 x13 x14 x15) _
  unfold ref12_job_one.L1
  refine J.eq go_seq ?_
  conv => arg 1; simp (disch := first | exact Zd | fail) only [ZZ, d62_at, simprocAttr, go_b126, bodyOf, Tryz.f126, d126_at, RI, RIk, initE, RL, h1, h4k, h4f, h4a0, h4a1, h4a2, h4a3, h4a4, e_h5, e_h6]
  refine J.ite (fun h7 => ?_) (fun h7 => ?_)
  ·have h7' := decide_eq_true h7
   have h7'' : decide (x4.1 ≤ x15) = false := decide_eq_false (by omega)
   conv => arg 1; simp (disch := first | exact Zd | fail) only [ZZ, d62_at, simprocAttr, go_b126, bodyOf, Tryz.f126, d126_at, RI, RIk, initE, RL, h1, h4k, h4f, h4a0, h4a1, h4a2, h4a3, h4a4, e_h5, e_h6, h7'', h7']
   refine J.eq ret_seq ?_
   refine J.eq go_seq ?_
   refine J.bind fun x23 h8 => ?_
   have e_h8 := H125_0 _ _ _ h8
   try simp only [NN, NT, LN, simprocAttr, DT] at e_h8
   conv => arg 1; simp (disch := first | exact Zd | fail) only [ZZ, d62_at, simprocAttr, go_b126, bodyOf, Tryz.f126, d126_at, RI, RIk, initE, RL, h1, h4k, h4f, h4a0, h4a1, h4a2, h4a3, h4a4, e_h5, e_h6, h7'', h7', e_h8]
   refine J.ite (fun h9 => ?_) (fun h9 => ?_)
   ·have h9' := decide_eq_true h9
    have h9'' : decide (x23 < 0) = false := decide_eq_false (by omega)
    conv => arg 1; simp (disch := first | exact Zd | fail) only [ZZ, d62_at, simprocAttr, bodyOf, Tryz.f126, d126_at, RI, RIk, initE, RL, h1, h4k, h4f, h4a0, h4a1, h4a2, h4a3, h4a4, e_h5, e_h6, h7'', h7', e_h8, h9'', h9']
    refine J.callK (fun (t : (List Int) × (List Int) × (List Bool)) => (.tuple [], [((0, 2, 0), .bx true ([.v (.int .i64 0), .v (.slice none 0 0), .v (.slice none 0 0), .v (.slice none 0 0), .v (.slice none 0 0)])), ((0, 39, 0), .sl true true 1 x3.1.fDims.length (lm (ik .i64) x3.1.fDims)), ((0, 39, 1), .sl true true 1 x12.length (lm (ik .u32) t.1)), ((0, 39, 2), .sl true true 1 x13.length (lm (ik .i64) t.2.1)), ((0, 39, 3), .sl true true 1 x14.length (lm (bk) t.2.2)), ((0, 3, 0), .bx true ([.v (.int .i64 x3.1.fType), .own (0, 39, 0) 0 x3.1.fDims.length x3.1.fDims.length, .own (0, 39, 1) 0 x12.length x12.length, .own (0, 39, 2) 0 x13.length x13.length, .own (0, 39, 3) 0 x14.length x14.length]))])) (fun t => ref12_job_one.c2 fu nx1 x12 x13 x14 x15 t.1 t.2.1 t.2.2) ?_ (fun hj2 => ?_)
    ·rintro ⟨x24, x25, x26⟩
     show J _ (ref12_job_one.c2 fu nx1 x12 x13 x14 x15 x24 x25 x26) _
     unfold ref12_job_one.c2
     refine J.chk fun h10 => ?_
     refine J.chk fun h11 => ?_
     refine J.chk fun h12 => ?_
     conv => arg 1; simp (disch := first | exact Zd | fail) only [ZZ, d62_at, simprocAttr, go_b126, bodyOf, Tryz.f126, d126_at, RI, RIk, initE, RL, h1, h4k, h4f, h4a0, h4a1, h4a2, h4a3, h4a4, e_h5, e_h6, h7'', h7', e_h8, h9'', h9', h10, h11, h12]
     refine J.eq ret_seq ?_
     conv => arg 1; simp (disch := first | exact Zd | fail) only [ZZ, d62_at, simprocAttr, go_b126, bodyOf, Tryz.f126, d126_at, RI, RIk, initE, RL, h1, h4k, h4f, h4a0, h4a1, h4a2, h4a3, h4a4, e_h5, e_h6, h7'', h7', e_h8, h9'', h9', h10, h11, h12]
     refine J.next (s := (x24, x25, x26, wk .i64 (x15 + 1))) hn1 ?_ ?_
     ·exact Ze
     ·exact Zh
    ·refine J.hd jc_at ?_
     refine J.eq go_b126 ?_
     conv => arg 1; simp (disch := first | exact Zd | fail) only [ZZ, d62_at, simprocAttr, go_b126, bodyOf, Tryz.f126, d126_at, RI, initE, RL, h1, h4k, h4f, h4a0, h4a1, h4a2, h4a3, h4a4, e_h5, e_h6, h7'', h7', e_h8, h9'', h9']
     refine J.ite (fun h13 => ?_) (fun h13 => ?_)
     ·have h13' := decide_eq_true h13
      refine J.at fun x27 h14 h15 h16 => ?_
      refine J.chk fun h17 => ?_
      conv => arg 1; simp (disch := first | exact Zd | fail) only [ZZ, d62_at, simprocAttr, go_b126, bodyOf, Tryz.f126, d126_at, RI, initE, RL, h1, h4k, h4f, h4a0, h4a1, h4a2, h4a3, h4a4, e_h5, e_h6, h7'', h7', e_h8, h9'', h9', h13', lm_ik h16]
      refine J.knormal (t := (x12.set x15.toNat x27, x13, x14)) hj2 ?_
      simp (disch := first | exact Zd | fail) only [ZZ, d62_at, simprocAttr, go_b126, bodyOf, Tryz.f126, d126_at, RI, initE, RL, h1, h4k, h4f, h4a0, h4a1, h4a2, h4a3, h4a4, e_h5, e_h6, h7'', h7', e_h8, h9'', h9', h13', lm_ik h16, kinV_at, kinVB_at, LN, NN, NT]
     ·have h13' := decide_eq_false h13
      conv => arg 1; simp (disch := first | exact Zd | fail) only [ZZ, d62_at, simprocAttr, go_b126, bodyOf, Tryz.f126, d126_at, RI, initE, RL, h1, h4k, h4f, h4a0, h4a1, h4a2, h4a3, h4a4, e_h5, e_h6, h7'', h7', e_h8, h9'', h9', h13']
      refine J.ite (fun h18 => ?_) (fun h18 => ?_)
      ·have h18' := decide_eq_true h18
       refine J.at fun x28 h19 h20 h21 => ?_
       refine J.chk fun h22 => ?_
       conv => arg 1; simp (disch := first | exact Zd | fail) only [ZZ, d62_at, simprocAttr, go_b126, bodyOf, Tryz.f126, d126_at, RI, initE, RL, h1, h4k, h4f, h4a0, h4a1, h4a2, h4a3, h4a4, e_h5, e_h6, h7'', h7', e_h8, h9'', h9', h13', h18', lm_ik h21]
       refine J.knormal (t := (x12, x13.set x15.toNat x28, x14)) hj2 ?_
       simp (disch := first | exact Zd | fail) only [ZZ, d62_at, simprocAttr, go_b126, bodyOf, Tryz.f126, d126_at, RI, initE, RL, h1, h4k, h4f, h4a0, h4a1, h4a2, h4a3, h4a4, e_h5, e_h6, h7'', h7', e_h8, h9'', h9', h13', h18', lm_ik h21, kinV_at, kinVB_at, LN, NN, NT]
      ·have h18' := decide_eq_false h18
       refine J.at fun x29 h23 h24 h25 => ?_
       refine J.chk fun h26 => ?_
       conv => arg 1; simp (disch := first | exact Zd | fail) only [ZZ, d62_at, simprocAttr, go_b126, bodyOf, Tryz.f126, d126_at, RI, initE, RL, h1, h4k, h4f, h4a0, h4a1, h4a2, h4a3, h4a4, e_h5, e_h6, h7'', h7', e_h8, h9'', h9', h13', h18', lm_bk h25]
       refine J.knormal (t := (x12, x13, x14.set x15.toNat x29)) hj2 ?_
       simp (disch := first | exact Zd | fail) only [ZZ, d62_at, simprocAttr, go_b126, bodyOf, Tryz.f126, d126_at, RI, initE, RL, h1, h4k, h4f, h4a0, h4a1, h4a2, h4a3, h4a4, e_h5, e_h6, h7'', h7', e_h8, h9'', h9', h13', h18', lm_bk h25, kinV_at, kinVB_at, LN, NN, NT]
   ·have h9' := decide_eq_false h9
    have h9'' : decide (x23 < 0) = true := decide_eq_true (by omega)
    conv => arg 1; simp (disch := first | exact Zd | fail) only [ZZ, d62_at, simprocAttr, go_b126, bodyOf, Tryz.f126, d126_at, RI, RIk, initE, RL, h1, h4k, h4f, h4a0, h4a1, h4a2, h4a3, h4a4, e_h5, e_h6, h7'', h7', e_h8, h9'', h9']
    refine J.eq go_seq ?_
    conv => arg 1; simp (disch := first | exact Zd | fail) only [ZZ, d62_at, simprocAttr, go_b126, bodyOf, Tryz.f126, d126_at, RI, RIk, initE, RL, h1, h4k, h4f, h4a0, h4a1, h4a2, h4a3, h4a4, e_h5, e_h6, h7'', h7', e_h8, h9'', h9']
    refine J.eq ret_seq ?_
    conv => arg 1; simp (disch := first | exact Zd | fail) only [ZZ, d62_at, simprocAttr, go_b126, bodyOf, Tryz.f126, d126_at, RI, RIk, initE, RL, h1, h4k, h4f, h4a0, h4a1, h4a2, h4a3, h4a4, e_h5, e_h6, h7'', h7', e_h8, h9'', h9']
    refine J.eq ret_seq ?_
    conv => arg 1; simp (disch := first | exact Zd | fail) only [ZZ, d62_at, simprocAttr, go_b126, bodyOf, Tryz.f126, d126_at, RI, RIk, initE, RL, h1, h4k, h4f, h4a0, h4a1, h4a2, h4a3, h4a4, e_h5, e_h6, h7'', h7', e_h8, h9'', h9']
    refine J.next (s := (x12, x13, x14, wk .i64 (x15 + 1))) hn1 ?_ ?_
    ·exact Ze
    ·exact Zh
  ·have h7' := decide_eq_false h7
   have h7'' : decide (x4.1 ≤ x15) = true := decide_eq_true (by omega)
   conv => arg 1; simp (disch := first | exact Zd | fail) only [ZZ, d62_at, simprocAttr, go_b126, bodyOf, Tryz.f126, d126_at, RI, RIk, initE, RL, h1, h4k, h4f, h4a0, h4a1, h4a2, h4a3, h4a4, e_h5, e_h6, h7'', h7']
   refine J.eq ret_seq ?_
   refine J.some ?_
   simp (maxSteps := 20000000) (disch := first | exact Zd | fail) only [ZZ, d62_at, simprocAttr, go_b126, bodyOf, Tryz.f126, d126_at, RI, RIk, initE, RL, h1, h4k, h4f, h4a0, h4a1, h4a2, h4a3, h4a4, e_h5, e_h6, h7'', h7', FN]
 ·refine J.hd jn_at ?_
  conv => arg 1; simp (disch := first | exact Zd | fail) only [ZZ, d62_at, simprocAttr, go_b126, bodyOf, Tryz.f126, d126_at, RI, RIk, initE, RL, h1]
  refine J.eq go_seq ?_
  conv => arg 1; simp (disch := first | exact Zd | fail) only [ZZ, d62_at, simprocAttr, go_b126, bodyOf, Tryz.f126, d126_at, RI, RIk, initE, RL, h1]
  refine J.eq ret_seq ?_
  conv => arg 1; simp (disch := first | exact Zd | fail) only [ZZ, d62_at, simprocAttr, go_b126, bodyOf, Tryz.f126, d126_at, RI, RIk, initE, RL, h1]
  refine J.jmp (t := ()) hj1 ?_ ?_
  ·exact Ze
  ·exact Zh
noncomputable def t62 (fu : Nat) : CallP := orE 124 (mkC (fun (t : Int × (List Int)) => ([.v (.int .i64 t.1), .arr t.2.length (lm (ik .i64) t.2)] : List AV)) (fun t => ref05_New fu t.1 t.2) e124) (orE 32 (mkC (fun (t : List Int) => ([.arr t.length (lm (ik .i64) t)] : List AV)) (fun t => ref04_Size fu t) e32) (orE 125 (mkC (fun (t : T_ref12_job × Int) => ([.ref (c_T_ref12_job t.1) 0, .v (.int .i64 t.2)] : List AV)) (fun t => ref12_job_place fu t.1 t.2) e125) (noP)))
theorem t62_ok (fu : Nat) : CpOK Tryz.prog (t62 fu ) := orE_ok (orE_ok (orE_ok (noP_ok) (mkC_ok (fun t b h => ok125 fu t.1 t.2  b h))) (mkC_ok (fun t b h => ok32 fu t  b h))) (mkC_ok (fun t b h => ok124 fu t.1 t.2  b h))
theorem ok62 (fu : Nat) (x1 : T_ref12_job) (r) (h : ref12_job_one fu x1 = some r) : PureOK Tryz.prog 62 [.ref (c_T_ref12_job x1) 0] (e62 r) :=
  pure_J mixed (cp := t62 fu ) (t62_ok fu  ) (ciE_ok mixed (t62_ok fu  ) noI_ok i126 noI_ok) i62 (w62 _ fu x1  (fun a0 a1 r h => orE_hit (mkC_at (a := (a0, a1)) (by intro a b h; first | (exact rfl) | (simp only [INJ, IJ] at h; first | exact h | (simp_all [Prod.ext_iff]) )) h)) (fun a0 r h => orE_miss (by decide) (orE_hit (mkC_at (a := a0) (by intro a b h; first | (exact rfl) | (simp only [INJ, IJ] at h; first | exact h | (simp_all [Prod.ext_iff]) )) h))) (fun a0 a1 r h => orE_miss (by decide) (orE_miss (by decide) (orE_hit (mkC_at (a := (a0, a1)) (by intro a b h; first | (exact rfl) | (simp only [INJ, IJ] at h; first | exact h | (simp_all [Prod.ext_iff]) )) h))))) h
def d30 : List (Nat × List Nat) := [(0, [1, 8, 9]), (0, [0, 12, 16, 18]), (0, [19, 20]), (0, []), (0, []), (0, []), (0, [22, 23]), (0, []), (0, [24]), (0, []), (0, [26]), (0, []), (0, [10, 27, 28]), (0, []), (0, [3, 29, 30, 31, 32, 33, 34, 35, 36]), (0, []), (0, [37]), (0, []), (0, [39]), (0, []), (13, [13, 15, 40, 41, 42, 43, 44, 45, 46, 47, 48, 49, 50]), (0, []), (13, [2, 5, 11, 14, 51, 52, 53, 54, 55, 56, 57, 58, 59, 60, 61, 62, 45000000016]), (0, []), (0, [63, 64]), (0, []), (0, []), (0, []), (0, [5000017]), (0, []), (0, []), (0, []), (0, [66, 67, 68]), (0, []), (0, [70, 71]), (0, []), (0, [72, 73, 74, 75, 76, 77, 78, 79]), (0, []), (0, [80, 81, 82, 83, 84]), (0, []), (0, [85]), (0, []), (19, [87, 88, 89, 90, 91, 92, 93, 94, 95, 96, 97, 98, 99, 100, 101, 102, 103, 104, 105]), (0, []), (0, [17, 106])]
def d30_at := by have h := tabL d30.eq_1; simp only [AllAt, Nat.zero_add, Nat.reduceAdd] at h; exact h
theorem i30 : finfo Tryz.prog 30 d30 = some ⟨bodyOf Tryz.f30, [.tmp 8, .tmp 9], [34, 35]⟩ := finfo_at Tryz.func30 rfl (by kernel_rfl) (by kernel_rfl)
def e30 : ((List T_Tensor) × Int) → AV := fun r => .tuple [.arr r.1.length (fm c_T_Tensor r.1), .v (.int .i64 r.2)]
set_option maxHeartbeats 20000000 in
theorem w30 (cp : CallP) (fu : Nat) (x1 : Int) (x2 : T_Setting) (x3 : List T_Tensor) (x4 : Int) (H55_0 : ∀ (a0 : Int) r, ref12_Has fu a0 = some r → cp 55 [.v (.int .i64 a0)] = some (.v (.bool r))) (H56_0 : ∀ (a0 : List T_Tensor) r, ref11_Right fu a0 = some r → cp 56 [.arr a0.length (fm c_T_Tensor a0)] = some (.v (.int .i64 r))) (H57_0 : ∀ (a0 : List T_Tensor) r, ref11_Vals fu a0 = some r → cp 57 [.arr a0.length (fm c_T_Tensor a0)] = some (.arr r.length (fm c_T_Val r))) (H58_0 : ∀ (a0 : Int) (a1 : T_Setting) (a2 : List T_Val) (a3 : Int) r, ref10_Node fu a0 a1 a2 a3 = some r → cp 58 [.v (.int .i64 a0), .agg (c_T_Setting a1), .arr a2.length (fm c_T_Val a2), .v (.int .i64 a3)] = some (.tuple [.arr r.1.length (fm c_T_Val r.1), .v (.int .i64 r.2)])) (H59_0 : ∀ (a0 : Int) (a1 : Int) r, ref04_Axis fu a0 a1 = some r → cp 59 [.v (.int .i64 a0), .v (.int .i64 a1)] = some (.tuple [.v (.int .i64 r.1), .v (.int .i64 r.2)])) (H60_0 : ∀ (a0 : List T_Tensor) r, ref11_Canons fu a0 = some r → cp 60 [.arr a0.length (fm c_T_Tensor a0)] = some (.arr r.length (fm c_T_Tensor r))) (H61_0 : ∀ (a0 : T_ref12_job) r, ref12_job_ranged fu a0 = some r → cp 61 [.ref (c_T_ref12_job a0) 0] = some (.v (.bool r))) (H62_0 : ∀ (a0 : T_ref12_job) r, ref12_job_one fu a0 = some r → cp 62 [.ref (c_T_ref12_job a0) 0] = some (.agg [.v (.int .i64 r.fType), .fresh 1 r.fDims.length (lm (ik .i64) r.fDims), .fresh 1 r.fF.length (lm (ik .u32) r.fF), .fresh 1 r.fI.length (lm (ik .i64) r.fI), .fresh 1 r.fB.length (lm (bk) r.fB)])) : J (go Tryz.prog noC cp noI 0 [] d30 fu (finS Tryz.prog [.tmp 8, .tmp 9] [34, 35]) (bodyOf Tryz.f30) (initE 0 [.v (.int .i64 x1), .agg (c_T_Setting x2), .arr x3.length (fm c_T_Tensor x3), .v (.int .i64 x4)]) [] []) (ref12_Do fu x1 x2 x3 x4) e30 := by
 unfold ref12_Do e30
 have da := d30_at
 refine J.chk fun h1 => ?_
 conv => arg 1; simp (disch := first | exact Zd | fail) only [bodyOf, Tryz.f30, ZZ, d30_at, simprocAttr, SE, h1]
 refine J.eq go_seq ?_
 refine J.bind fun x5 h2 => ?_
 have e_h2 := H55_0 _ _ h2
 try simp only [NN, NT, LN, simprocAttr, DT] at e_h2
 conv => arg 1; simp (disch := first | exact Zd | fail) only [ZZ, d30_at, simprocAttr, SE, h1, e_h2]
 refine J.ite (fun h3 => ?_) (fun h3 => ?_)
 ·have h3' : x5 = true := h3
  conv => arg 1; simp (disch := first | exact Zd | fail) only [ZZ, d30_at, simprocAttr, SE, h1, e_h2, h3']
  refine J.eq ret_seq ?_
  refine J.bind fun x6 h4 => ?_
  have e_h4 := H56_0 _ _ h4
  try simp only [NN, NT, LN, simprocAttr, DT] at e_h4
  conv => arg 1; simp (disch := first | exact Zd | fail) only [ZZ, d30_at, simprocAttr, SE, h1, e_h2, h3', e_h4]
  refine J.eq go_seq ?_
  conv => arg 1; simp (disch := first | exact Zd | fail) only [ZZ, d30_at, simprocAttr, SE, h1, e_h2, h3', e_h4]
  refine J.ite (fun h5 => ?_) (fun h5 => ?_)
  ·have h5' := decide_eq_true h5
   conv => arg 1; simp (disch := first | exact Zd | fail) only [ZZ, d30_at, simprocAttr, SE, h1, e_h2, h3', e_h4, h5']
   refine J.eq ret_seq ?_
   refine J.bind fun x7 h6 => ?_
   have e_h6 := H57_0 _ _ h6
   try simp only [NN, NT, LN, simprocAttr, DT] at e_h6
   refine J.bind fun x8 h7 => ?_
   have e_h7 := H58_0 _ _ _ _ _ h7
   try simp only [NN, NT, LN, simprocAttr, DT] at e_h7
   conv => arg 1; simp (disch := first | exact Zd | fail) only [ZZ, d30_at, simprocAttr, SE, h1, e_h2, h3', e_h4, h5', e_h6, e_h7]
   refine J.eq go_seq ?_
   conv => arg 1; simp (disch := first | exact Zd | fail) only [ZZ, d30_at, simprocAttr, SE, h1, e_h2, h3', e_h4, h5', e_h6, e_h7]
   refine J.ite (fun h8 => ?_) (fun h8 => ?_)
   ·have h8' := decide_eq_true h8
    conv => arg 1; simp (disch := first | exact Zd | fail) only [ZZ, d30_at, simprocAttr, SE, h1, e_h2, h3', e_h4, h5', e_h6, e_h7, h8']
    refine J.eq ret_seq ?_
    refine J.at fun x9 h9 h10 h11 => ?_
    replace h11 : x3[0]? = some x9 := h11
    have h11k := fm_cut c_T_Tensor_len h11
    have h11f := fm_fit c_T_Tensor_len h11
    have h11a0 := fm_at (j := 0) c_T_Tensor_len h11 (by decide)
    have h11a1 := fm_at (j := 1) c_T_Tensor_len h11 (by decide)
    have h11a2 := fm_at (j := 2) c_T_Tensor_len h11 (by decide)
    have h11a3 := fm_at (j := 3) c_T_Tensor_len h11 (by decide)
    have h11a4 := fm_at (j := 4) c_T_Tensor_len h11 (by decide)
    simp only [simprocAttr, Nat.zero_mul, Nat.zero_add, Nat.add_zero, List.drop_zero] at h11k h11f h11a0 h11a1 h11a2 h11a3 h11a4
    refine J.bind fun x10 h12 => ?_
    have e_h12 := H59_0 _ _ _ h12
    try simp only [NN, NT, LN, simprocAttr, DT] at e_h12
    refine J.bind fun x11 h13 => ?_
    have e_h13 := H60_0 _ _ h13
    try simp only [NN, NT, LN, simprocAttr, DT] at e_h13
    conv => arg 1; simp (disch := first | exact Zd | fail) only [ZZ, d30_at, simprocAttr, SE, h1, e_h2, h3', e_h4, h5', e_h6, e_h7, h8', h11k, h11f, h11a0, h11a1, h11a2, h11a3, h11a4, e_h12, e_h13]
    refine J.eq go_seq ?_
    refine J.bind fun x12 h14 => ?_
    have e_h14 := H61_0 _ _ h14
    try simp only [NN, NT, LN, simprocAttr, DT] at e_h14
    conv => arg 1; simp (disch := first | exact Zd | fail) only [ZZ, d30_at, simprocAttr, SE, h1, e_h2, h3', e_h4, h5', e_h6, e_h7, h8', h11k, h11f, h11a0, h11a1, h11a2, h11a3, h11a4, e_h12, e_h13, e_h14]
    refine J.ite (fun h15 => ?_) (fun h15 => ?_)
    ·have h15' : x12 = true := h15
     conv => arg 1; simp (disch := first | exact Zd | fail) only [ZZ, d30_at, simprocAttr, SE, h1, e_h2, h3', e_h4, h5', e_h6, e_h7, h8', h11k, h11f, h11a0, h11a1, h11a2, h11a3, h11a4, e_h12, e_h13, e_h14, h15']
     refine J.eq ret_seq ?_
     conv => arg 1; simp (disch := first | exact Zd | fail) only [ZZ, d30_at, simprocAttr, SE, h1, e_h2, h3', e_h4, h5', e_h6, e_h7, h8', h11k, h11f, h11a0, h11a1, h11a2, h11a3, h11a4, e_h12, e_h13, e_h14, h15']
     refine J.eq go_seq ?_
     conv => arg 1; simp (disch := first | exact Zd | fail) only [ZZ, d30_at, simprocAttr, SE, h1, e_h2, h3', e_h4, h5', e_h6, e_h7, h8', h11k, h11f, h11a0, h11a1, h11a2, h11a3, h11a4, e_h12, e_h13, e_h14, h15']
     unfold ref12_Do.W1
     refine J.loop (fun (s : (List Int) × (List T_Tensor) × Int) => ([(0, .v (.int .i64 45)), (12, .arr x8.1.length (fm c_T_Val x8.1)), (16, .ptr (0, 62, 0) 0 0), (17, .own (0, 17, 77) 0 s.2.1.length s.2.1.length), (18, .v (.int .i64 s.2.2))], [((0, 62, 0), .bx true ([.v (.int .i64 45), .v (.int .i64 x2.fAxis), .arr x2.fAxes.length (lm (ik .i64) x2.fAxes), .v (.bool x2.fHasAxes), .v (.bool x2.fKeep), .v (.bool x2.fNoop), .v (.bool x2.fLast), .v (.bool x2.fZero), .arr x2.fPerm.length (lm (ik .i64) x2.fPerm), .v (.bool x2.fHasPerm), .v (.int .u32 x2.fAlpha), .v (.int .u32 x2.fBeta), .v (.int .u32 x2.fEpsilon), .v (.bool x2.fLow), .v (.bool x2.fHigh), .v (.bool x2.fFmod), .v (.int .i64 x2.fTo), .v (.int .i64 x2.fMode), .v (.bool x2.fTransA), .v (.bool x2.fTransB), .v (.int .i64 x2.fGroup), .arr x2.fKernel.length (lm (ik .i64) x2.fKernel), .arr x2.fStrides.length (lm (ik .i64) x2.fStrides), .arr x2.fPads.length (lm (ik .i64) x2.fPads), .arr x2.fDilations.length (lm (ik .i64) x2.fDilations), .v (.int .i64 x2.fAuto), .v (.bool x2.fCeil), .v (.bool x2.fCount), .v (.int .i64 x2.fBlock), .v (.int .i64 x2.fStart), .v (.int .i64 x2.fEnd), .v (.bool x2.fHasEnd), .v (.int .i64 x2.fValue.fType), .arr x2.fValue.fDims.length (lm (ik .i64) x2.fValue.fDims), .arr x2.fValue.fF.length (lm (ik .u32) x2.fValue.fF), .arr x2.fValue.fI.length (lm (ik .i64) x2.fValue.fI), .arr x2.fValue.fB.length (lm (bk) x2.fValue.fB), .arr x11.length (fm c_T_Tensor x11), .arr x7.length (fm c_T_Val x7), .arr x9.fDims.length (lm (ik .i64) x9.fDims), .v (.int .i64 x10.1), .arr s.1.length (lm (ik .i64) s.1), .v (.int .i64 0)])), ((0, 17, 77), .sl true true 5 s.2.1.length (fm c_T_Tensor s.2.1))])) (fun next s => ref12_Do.L1 fu x2 x7 x8 x9 x10 x11 (fun x15 x16 x17 => next (x15, x16, x17)) s.1 s.2.1 s.2.2) (s0 := ([], ([] : List T_Tensor), 0)) ?_ ?_ ?_
     ·exact Ze
     ·exact Zh
     rintro next k1 hn1 ⟨x15, x16, x17⟩
     let nx1 : (List Int) → (List T_Tensor) → Int → Option ((List T_Tensor) × Int) := (fun x15 x16 x17 => next (x15, x16, x17))
     show J _ (ref12_Do.L1 fu x2 x7 x8 x9 x10 x11 nx1 x15 x16 x17) _
     unfold ref12_Do.L1
     refine J.eq go_seq ?_
     conv => arg 1; simp (disch := first | exact Zd | fail) only [ZZ, d30_at, simprocAttr, SE, h1, e_h2, h3', e_h4, h5', e_h6, e_h7, h8', h11k, h11f, h11a0, h11a1, h11a2, h11a3, h11a4, e_h12, e_h13, e_h14, h15']
     refine J.ite (fun h16 => ?_) (fun h16 => ?_)
     ·have h16' := decide_eq_true h16
      have h16'' : decide ((x8.1.length : Int) ≤ x17) = false := decide_eq_false (by omega)
      conv => arg 1; simp (disch := first | exact Zd | fail) only [ZZ, d30_at, simprocAttr, SE, h1, e_h2, h3', e_h4, h5', e_h6, e_h7, h8', h11k, h11f, h11a0, h11a1, h11a2, h11a3, h11a4, e_h12, e_h13, e_h14, h15', h16'', h16']
      refine J.eq ret_seq ?_
      refine J.eq go_seq ?_
      refine J.at fun x20 h17 h18 h19 => ?_
      refine J.bind fun x21 h20 => ?_
      have e_h20 := H62_0 _ _ h20
      try simp only [NN, NT, LN, simprocAttr, DT] at e_h20
      refine J.chk fun h21 => ?_
      conv => arg 1; simp (disch := first | exact Zd | fail) only [ZZ, d30_at, simprocAttr, SE, h1, e_h2, h3', e_h4, h5', e_h6, e_h7, h8', h11k, h11f, h11a0, h11a1, h11a2, h11a3, h11a4, e_h12, e_h13, e_h14, h15', h16'', h16', fm_cut c_T_Val_len h19, fm_fit c_T_Val_len h19, fm_at c_T_Val_len h19, fm_at0 c_T_Val_len h19, e_h20]
      refine J.eq ret_seq ?_
      conv => arg 1; simp (disch := first | exact Zd | fail) only [ZZ, d30_at, simprocAttr, SE, h1, e_h2, h3', e_h4, h5', e_h6, e_h7, h8', h11k, h11f, h11a0, h11a1, h11a2, h11a3, h11a4, e_h12, e_h13, e_h14, h15', h16'', h16', fm_cut c_T_Val_len h19, fm_fit c_T_Val_len h19, fm_at c_T_Val_len h19, fm_at0 c_T_Val_len h19, e_h20]
      refine J.next (s := (x20.fDims, x16 ++ ([x21]), wk .i64 (x17 + 1))) hn1 ?_ ?_
      ·exact Ze
      ·exact Zh
     ·have h16' := decide_eq_false h16
      have h16'' : decide ((x8.1.length : Int) ≤ x17) = true := decide_eq_true (by omega)
      conv => arg 1; simp (disch := first | exact Zd | fail) only [ZZ, d30_at, simprocAttr, SE, h1, e_h2, h3', e_h4, h5', e_h6, e_h7, h8', h11k, h11f, h11a0, h11a1, h11a2, h11a3, h11a4, e_h12, e_h13, e_h14, h15', h16'', h16']
      refine J.eq ret_seq ?_
      refine J.some ?_
      simp (maxSteps := 20000000) (disch := first | exact Zd | fail) only [ZZ, d30_at, simprocAttr, SE, h1, e_h2, h3', e_h4, h5', e_h6, e_h7, h8', h11k, h11f, h11a0, h11a1, h11a2, h11a3, h11a4, e_h12, e_h13, e_h14, h15', h16'', h16', FN]
    ·have h15' : x12 = false := Bool.eq_false_iff.2 h15
     refine J.some ?_
     simp (maxSteps := 20000000) (disch := first | exact Zd | fail) only [ZZ, d30_at, simprocAttr, SE, h1, e_h2, h3', e_h4, h5', e_h6, e_h7, h8', h11k, h11f, h11a0, h11a1, h11a2, h11a3, h11a4, e_h12, e_h13, e_h14, h15', FN]
   ·have h8' := decide_eq_false h8
    refine J.some ?_
    simp (maxSteps := 20000000) (disch := first | exact Zd | fail) only [ZZ, d30_at, simprocAttr, SE, h1, e_h2, h3', e_h4, h5', e_h6, e_h7, h8', FN]
  ·have h5' := decide_eq_false h5
   refine J.some ?_
   simp (maxSteps := 20000000) (disch := first | exact Zd | fail) only [ZZ, d30_at, simprocAttr, SE, h1, e_h2, h3', e_h4, h5', FN]
 ·have h3' : x5 = false := Bool.eq_false_iff.2 h3
  refine J.some ?_
  simp (maxSteps := 20000000) (disch := first | exact Zd | fail) only [ZZ, d30_at, simprocAttr, SE, h1, e_h2, h3', FN]
noncomputable def t30 (fu : Nat) : CallP := orE 55 (mkC (fun (t : Int) => ([.v (.int .i64 t)] : List AV)) (fun t => ref12_Has fu t) e55) (orE 56 (mkC (fun (t : List T_Tensor) => ([.arr t.length (fm c_T_Tensor t)] : List AV)) (fun t => ref11_Right fu t) e56) (orE 57 (mkC (fun (t : List T_Tensor) => ([.arr t.length (fm c_T_Tensor t)] : List AV)) (fun t => ref11_Vals fu t) e57) (orE 58 (mkC (fun (t : Int × T_Setting × (List T_Val) × Int) => ([.v (.int .i64 t.1), .agg (c_T_Setting t.2.1), .arr t.2.2.1.length (fm c_T_Val t.2.2.1), .v (.int .i64 t.2.2.2)] : List AV)) (fun t => ref10_Node fu t.1 t.2.1 t.2.2.1 t.2.2.2) e58) (orE 59 (mkC (fun (t : Int × Int) => ([.v (.int .i64 t.1), .v (.int .i64 t.2)] : List AV)) (fun t => ref04_Axis fu t.1 t.2) e59) (orE 60 (mkC (fun (t : List T_Tensor) => ([.arr t.length (fm c_T_Tensor t)] : List AV)) (fun t => ref11_Canons fu t) e60) (orE 61 (mkC (fun (t : T_ref12_job) => ([.ref (c_T_ref12_job t) 0] : List AV)) (fun t => ref12_job_ranged fu t) e61) (orE 62 (mkC (fun (t : T_ref12_job) => ([.ref (c_T_ref12_job t) 0] : List AV)) (fun t => ref12_job_one fu t) e62) (noP))))))))
theorem t30_ok (fu : Nat) : CpOK Tryz.prog (t30 fu ) := orE_ok (orE_ok (orE_ok (orE_ok (orE_ok (orE_ok (orE_ok (orE_ok (noP_ok) (mkC_ok (fun t b h => ok62 fu t  b h))) (mkC_ok (fun t b h => ok61 fu t  b h))) (mkC_ok (fun t b h => ok60 fu t  b h))) (mkC_ok (fun t b h => ok59 fu t.1 t.2  b h))) (mkC_ok (fun t b h => ok58 fu t.1 t.2.1 t.2.2.1 t.2.2.2  b h))) (mkC_ok (fun t b h => ok57 fu t  b h))) (mkC_ok (fun t b h => ok56 fu t  b h))) (mkC_ok (fun t b h => ok55 fu t  b h))
theorem ok30 (fu : Nat) (x1 : Int) (x2 : T_Setting) (x3 : List T_Tensor) (x4 : Int) (r) (h : ref12_Do fu x1 x2 x3 x4 = some r) : PureOK Tryz.prog 30 [.v (.int .i64 x1), .agg (c_T_Setting x2), .arr x3.length (fm c_T_Tensor x3), .v (.int .i64 x4)] (e30 r) :=
  pureS_J mixed (cp := t30 fu ) (t30_ok fu  ) noI_ok i30 (w30 _ fu x1 x2 x3 x4  (fun a0 r h => orE_hit (mkC_at (a := a0) (by intro a b h; first | (exact rfl) | (simp only [INJ, IJ] at h; first | exact h | (simp_all [Prod.ext_iff]) )) h)) (fun a0 r h => orE_miss (by decide) (orE_hit (mkC_at (a := a0) (by intro a b h; first | (exact rfl) | (simp only [INJ, IJ] at h; first | exact h | (simp_all [Prod.ext_iff]) )) h))) (fun a0 r h => orE_miss (by decide) (orE_miss (by decide) (orE_hit (mkC_at (a := a0) (by intro a b h; first | (exact rfl) | (simp only [INJ, IJ] at h; first | exact h | (simp_all [Prod.ext_iff]) )) h)))) (fun a0 a1 a2 a3 r h => orE_miss (by decide) (orE_miss (by decide) (orE_miss (by decide) (orE_hit (mkC_at (a := (a0, a1, a2, a3)) (by intro a b h; first | (exact rfl) | (simp only [INJ, IJ] at h; first | exact h | (simp_all [Prod.ext_iff]) )) h))))) (fun a0 a1 r h => orE_miss (by decide) (orE_miss (by decide) (orE_miss (by decide) (orE_miss (by decide) (orE_hit (mkC_at (a := (a0, a1)) (by intro a b h; first | (exact rfl) | (simp only [INJ, IJ] at h; first | exact h | (simp_all [Prod.ext_iff]) )) h)))))) (fun a0 r h => orE_miss (by decide) (orE_miss (by decide) (orE_miss (by decide) (orE_miss (by decide) (orE_miss (by decide) (orE_hit (mkC_at (a := a0) (by intro a b h; first | (exact rfl) | (simp only [INJ, IJ] at h; first | exact h | (simp_all [Prod.ext_iff]) )) h))))))) (fun a0 r h => orE_miss (by decide) (orE_miss (by decide) (orE_miss (by decide) (orE_miss (by decide) (orE_miss (by decide) (orE_miss (by decide) (orE_hit (mkC_at (a := a0) (by intro a b h; first | (exact rfl) | (simp only [INJ, IJ] at h; first | exact h | (simp_all [Prod.ext_iff]) )) h)))))))) (fun a0 r h => orE_miss (by decide) (orE_miss (by decide) (orE_miss (by decide) (orE_miss (by decide) (orE_miss (by decide) (orE_miss (by decide) (orE_miss (by decide) (orE_hit (mkC_at (a := a0) (by intro a b h; first | (exact rfl) | (simp only [INJ, IJ] at h; first | exact h | (simp_all [Prod.ext_iff]) )) h)))))))))) h
def d12 : List (Nat × List Nat) := [(0, [0, 3]), (0, []), (0, [1, 6, 7, 8, 9, 10, 11, 12]), (0, []), (0, [5, 13]), (0, []), (0, [15]), (0, []), (0, [4, 16, 17, 18])]
def d12_at := by have h := tabL d12.eq_1; simp only [AllAt, Nat.zero_add, Nat.reduceAdd] at h; exact h
theorem i12 : finfo Tryz.prog 12 d12 = some ⟨bodyOf Tryz.f12, [.cell 2 31, .tmp 3], [31, 4]⟩ := finfo_at Tryz.func12 rfl (by kernel_rfl) (by kernel_rfl)
def e12 : (T_Tensor × Bool) → AV := fun r => .tuple [.agg [.v (.int .i64 r.1.fType), .arr r.1.fDims.length (lm (ik .i64) r.1.fDims), .arr r.1.fF.length (lm (ik .u32) r.1.fF), .arr r.1.fI.length (lm (ik .i64) r.1.fI), .arr r.1.fB.length (lm (bk) r.1.fB)], .v (.bool r.2)]
structure K30 (fu : Nat) (cp : CallP) : Prop where
 ap : ∀ {a0 : Int} {a1 : T_Setting} {a2 : List T_Tensor} {a3 : Int} {r}, ref12_Do fu a0 a1 a2 a3 = some r → cp 30 [.v (.int .i64 a0), .agg (c_T_Setting a1), .arr a2.length (fm c_T_Tensor a2), .v (.int .i64 a3)] = some (.tuple [.arr r.1.length (fm c_T_Tensor r.1), .v (.int .i64 r.2)])
noncomputable def C30 (fu : Nat) : Cm Tryz.prog (Int × T_Setting × (List T_Tensor) × Int) ((List T_Tensor) × Int) := ⟨30, fun t => [.v (.int .i64 t.1), .agg (c_T_Setting t.2.1), .arr t.2.2.1.length (fm c_T_Tensor t.2.2.1), .v (.int .i64 t.2.2.2)], fun t => ref12_Do fu t.1 t.2.1 t.2.2.1 t.2.2.2, e30, fun t b h => ok30 fu t.1 t.2.1 t.2.2.1 t.2.2.2  b h, Zi⟩
theorem u30 {fu : Nat} {cp : CallP} (H : Hit cp (C30 fu).ct) : K30 fu cp := ⟨fun {a0 a1 a2 a3 r} h => (C30 fu).at H (a0, a1, a2, a3) r h⟩
set_option maxHeartbeats 20000000 in
theorem w12 (cp : CallP) (fu : Nat) (x1 : T_Tensor) (H1 : K30 fu cp) : J (go Tryz.prog noC cp noI 0 [] d12 fu (finS Tryz.prog [.cell 2 31, .tmp 3] [31, 4]) (bodyOf Tryz.f12) (initE 0 [.agg (c_T_Tensor x1)]) [] []) (law14_turned fu x1) e12 := by
 unfold law14_turned e12
 have da := d12_at
 conv => arg 1; simp only [bodyOf, Tryz.f12]
 have z0 := d12_at
 have z1 := SE
 exact Wk
theorem ok12 (fu : Nat) (x1 : T_Tensor) (r) (h : law14_turned fu x1 = some r) : PureOK Tryz.prog 12 [.agg (c_T_Tensor x1)] (e12 r) := pureST mixed [(C30 fu).ct] (ids := [30]) rfl (by decide) i12 (C := noC) (ci := fun cp => noI) (fun cp ok => noI_ok) (fun cp H => w12 cp fu x1 (u30 H.1)) h
def d17 : List (Nat × List Nat) := [(0, [4]), (0, [0, 1, 5]), (0, [6, 7, 8, 9]), (0, []), (0, []), (0, []), (0, []), (0, []), (0, [11, 12, 13]), (0, []), (0, [15, 16]), (0, []), (9, [17, 18, 19, 20, 21, 22, 23, 24]), (0, []), (0, []), (0, []), (0, [])]
def d17_at := by have h := tabL d17.eq_1; simp only [AllAt, Nat.zero_add, Nat.reduceAdd] at h; exact h
theorem i17 : finfo Tryz.prog 17 d17 = some ⟨bodyOf Tryz.f17, [.tmp 4], [4]⟩ := finfo_at Tryz.func17 rfl (by kernel_rfl) (by kernel_rfl)
def e17 : Bool → AV := fun r => .v (.bool r)
def ref04_SameInts.m1 : LJ 1 8 Unit Int := ⟨fun r s e => [(0, er e 0), (1, er e 1), (5, .v (.int .i64 s))], fun r s h => []⟩
set_option maxHeartbeats 20000000 in
open ref04_SameInts in
theorem w17 (cp : CallP) (fu : Nat) (x1 : List Int) (x2 : List Int)  : J (go Tryz.prog noC cp noI 0 [] d17 fu (fin Tryz.prog [.tmp 4] [4]) (bodyOf Tryz.f17) (initE 0 [.arr x1.length (lm (ik .i64) x1), .arr x2.length (lm (ik .i64) x2)]) [] []) (ref04_SameInts fu x1 x2) e17 := by
 unfold ref04_SameInts e17
 have da := d17_at
 conv => arg 1; simp only [bodyOf, Tryz.f17]
 have z0 := d17_at
 exact Wk
theorem ok17 (fu : Nat) (x1 : List Int) (x2 : List Int) (r) (h : ref04_SameInts fu x1 x2 = some r) : PureOK Tryz.prog 17 [.arr x1.length (lm (ik .i64) x1), .arr x2.length (lm (ik .i64) x2)] (e17 r) := pureT mixed [] (ids := []) rfl (by decide) i17 (C := noC) (ci := fun cp => noI) (fun cp ok => noI_ok) (fun cp H => w17 cp fu x1 x2 ) h
def d13 : List (Nat × List Nat) := [(0, [0, 1, 4]), (0, [5]), (0, [8, 9, 10, 11, 12, 13, 14, 15, 16, 17, 18, 19, 20, 21, 22, 23, 24, 25, 26, 27, 28, 29, 30, 31, 32, 33, 34, 35, 36, 37, 38, 39, 40, 41, 42, 43, 44, 45, 46]), (0, []), (0, []), (0, [6]), (0, []), (0, []), (0, [48, 49, 50, 51]), (0, [2, 3, 7]), (0, [53, 54]), (0, []), (11, [55, 56, 57, 58, 59, 60, 61, 62, 63, 64]), (0, []), (0, []), (0, []), (0, []), (0, []), (0, [66, 67, 68, 69]), (0, []), (0, [71, 72]), (0, []), (11, [73, 74, 75, 76, 77, 78, 79, 80, 81, 82]), (0, []), (0, []), (0, []), (0, []), (0, []), (0, [84, 85, 86, 87]), (0, []), (0, [89, 90]), (0, []), (11, [91, 92, 93, 94, 95, 96, 97, 98, 99, 100]), (0, []), (0, []), (0, []), (0, [])]
def d13_at := by have h := tabL d13.eq_1; simp only [AllAt, Nat.zero_add, Nat.reduceAdd] at h; exact h
theorem i13 : finfo Tryz.prog 13 d13 = some ⟨bodyOf Tryz.f13, [.tmp 4], [4]⟩ := finfo_at Tryz.func13 rfl (by kernel_rfl) (by kernel_rfl)
def e13 : Bool → AV := fun r => .v (.bool r)
structure K17 (fu : Nat) (cp : CallP) : Prop where
 ap : ∀ {a0 : List Int} {a1 : List Int} {r}, ref04_SameInts fu a0 a1 = some r → cp 17 [.arr a0.length (lm (ik .i64) a0), .arr a1.length (lm (ik .i64) a1)] = some (.v (.bool r))
noncomputable def C17 (fu : Nat) : Cm Tryz.prog ((List Int) × (List Int)) Bool := ⟨17, fun t => [.arr t.1.length (lm (ik .i64) t.1), .arr t.2.length (lm (ik .i64) t.2)], fun t => ref04_SameInts fu t.1 t.2, e17, fun t b h => ok17 fu t.1 t.2  b h, Zi⟩
theorem u17 {fu : Nat} {cp : CallP} (H : Hit cp (C17 fu).ct) : K17 fu cp := ⟨fun {a0 a1 r} h => (C17 fu).at H (a0, a1) r h⟩
def ref05_Same.m1 : LJ 1 28 Unit Int := ⟨fun r s e => [(2, er e 2), (3, er e 3), (7, .v (.int .i64 s))], fun r s h => [((0, 2, 0), hr h (0, 2, 0)), ((0, 3, 0), hr h (0, 3, 0))]⟩
def ref05_Same.m2 : LJ 2 18 Unit Int := ⟨fun r s e => [(2, er e 2), (3, er e 3), (6, .v (.int .i64 s))], fun r s h => [((0, 2, 0), hr h (0, 2, 0)), ((0, 3, 0), hr h (0, 3, 0))]⟩
def ref05_Same.j3 : LJ 3 26 Unit Unit := ⟨fun r t e => [(2, er e 2), (3, er e 3)], fun r t h => [((0, 2, 0), hr h (0, 2, 0)), ((0, 3, 0), hr h (0, 3, 0))]⟩
def ref05_Same.m3 : LJ 3 8 Unit Int := ⟨fun r s e => [(2, er e 2), (3, er e 3), (5, .v (.int .i64 s))], fun r s h => [((0, 2, 0), hr h (0, 2, 0)), ((0, 3, 0), hr h (0, 3, 0))]⟩
def ref05_Same.j2 : LJ 2 16 Unit Unit := ⟨fun r t e => [(2, er e 2), (3, er e 3)], fun r t h => [((0, 2, 0), hr h (0, 2, 0)), ((0, 3, 0), hr h (0, 3, 0))]⟩
def ref05_Same.j1 : LJ 1 6 Unit Unit := ⟨fun r t e => [(2, er e 2), (3, er e 3)], fun r t h => [((0, 2, 0), hr h (0, 2, 0)), ((0, 3, 0), hr h (0, 3, 0))]⟩
set_option maxHeartbeats 20000000 in
open ref05_Same in
theorem w13 (cp : CallP) (fu : Nat) (x1 : T_Tensor) (x2 : T_Tensor) (H1 : K17 fu cp) : J (go Tryz.prog noC cp noI 0 [] d13 fu (fin Tryz.prog [.tmp 4] [4]) (bodyOf Tryz.f13) (initE 0 [.agg (c_T_Tensor x1), .agg (c_T_Tensor x2)]) [] []) (ref05_Same fu x1 x2) e13 := by
 unfold ref05_Same e13
 have da := d13_at
 conv => arg 1; simp only [bodyOf, Tryz.f13]
 have z0 := d13_at
 exact Wk
theorem ok13 (fu : Nat) (x1 : T_Tensor) (x2 : T_Tensor) (r) (h : ref05_Same fu x1 x2 = some r) : PureOK Tryz.prog 13 [.agg (c_T_Tensor x1), .agg (c_T_Tensor x2)] (e13 r) := pureT mixed [(C17 fu).ct] (ids := [17]) rfl (by decide) i13 (C := noC) (ci := fun cp => noI) (fun cp ok => noI_ok) (fun cp H => w13 cp fu x1 x2 (u17 H.1)) h
def d4 : List (Nat × List Nat) := [(0, [0, 4]), (0, []), (0, [16]), (0, []), (0, [17, 18, 19, 20, 21, 22]), (0, []), (0, [7, 23, 24, 25, 26, 27, 28]), (0, []), (0, [30, 31, 32, 33, 34, 35, 36]), (0, []), (0, [37, 38, 39]), (0, []), (0, [40]), (0, []), (0, [41]), (0, []), (0, [43, 44, 45, 46, 47, 48, 49]), (0, []), (0, [11, 50]), (0, []), (0, []), (0, []), (0, [10, 52, 53, 54]), (0, []), (0, [55]), (0, []), (0, [2, 56]), (0, []), (0, [58, 59, 60, 61, 62, 63, 64]), (0, []), (0, [13, 65]), (0, []), (0, []), (0, []), (0, [12, 67, 68, 69]), (0, []), (0, [70]), (0, []), (0, [1, 8, 9, 71, 72, 73, 74, 75, 76]), (0, []), (0, [5, 6, 14, 15, 77, 78, 79, 80, 81, 82, 83, 84, 85, 86])]
def d4_at := by have h := tabL d4.eq_1; simp only [AllAt, Nat.zero_add, Nat.reduceAdd] at h; exact h
theorem i4 : finfo Tryz.prog 4 d4 = some ⟨bodyOf Tryz.f4, [.tmp 4], [4]⟩ := finfo_at Tryz.func4 rfl (by kernel_rfl) (by kernel_rfl)
def e4 : Bool → AV := fun r => .v (.bool r)
set_option maxHeartbeats 20000000 in
theorem w4 (cp : CallP) (fu : Nat) (x1 : T_Setting) (x2 : List T_Tensor) (H8 : cp 8 [] = some (.v (.bool true))) (H11_0 : ∀ (a0 : Int) (a1 : T_Setting) (a2 : List T_Tensor) r, mat_Do fu a0 a1 a2 = some r → cp 11 [.v (.int .i64 a0), .agg (c_T_Setting a1), .arr a2.length (fm c_T_Tensor a2)] = some (.tuple [.agg [.v (.int .i64 r.1.fType), .arr r.1.fDims.length (lm (ik .i64) r.1.fDims), .arr r.1.fF.length (lm (ik .u32) r.1.fF), .arr r.1.fI.length (lm (ik .i64) r.1.fI), .arr r.1.fB.length (lm (bk) r.1.fB)], .v (.int .i64 r.2)])) (H12_0 : ∀ (a0 : T_Tensor) r, law14_turned fu a0 = some r → cp 12 [.agg (c_T_Tensor a0)] = some (.tuple [.agg [.v (.int .i64 r.1.fType), .arr r.1.fDims.length (lm (ik .i64) r.1.fDims), .arr r.1.fF.length (lm (ik .u32) r.1.fF), .arr r.1.fI.length (lm (ik .i64) r.1.fI), .arr r.1.fB.length (lm (bk) r.1.fB)], .v (.bool r.2)])) (H13_0 : ∀ (a0 : T_Tensor) (a1 : T_Tensor) r, ref05_Same fu a0 a1 = some r → cp 13 [.agg (c_T_Tensor a0), .agg (c_T_Tensor a1)] = some (.v (.bool r))) : J (go Tryz.prog noC cp noI 0 [] d4 fu (fin Tryz.prog [.tmp 4] [4]) (bodyOf Tryz.f4) (initE 0 [.agg (c_T_Setting x1), .arr x2.length (fm c_T_Tensor x2)]) [] []) (law14_MatTurned fu x1 x2) e4 := by
 unfold law14_MatTurned e4
 have da := d4_at
 refine J.bind fun x3 h1 => ?_
 have e_h1 := H11_0 _ _ _ _ h1
 try simp only [NN, NT, LN, simprocAttr, DT] at e_h1
 conv => arg 1; simp (disch := first | exact Zd | fail) only [bodyOf, Tryz.f4, ZZ, d4_at, simprocAttr, H8, e_h1]
 refine J.joinS (fun (t : Unit) => ([(1, .arr x2.length (fm c_T_Tensor x2)), (2, .ptr (0, 2, 0) 0 0), (5, .v (.bool true)), (6, .ptr (0, 6, 0) 0 0)], [((0, 2, 0), .bx true ([.v (.int .i64 x1.fAxis), .arr x1.fAxes.length (lm (ik .i64) x1.fAxes), .v (.bool x1.fHasAxes), .v (.bool x1.fKeep), .v (.bool x1.fNoop), .v (.bool x1.fLast), .v (.bool x1.fZero), .arr x1.fPerm.length (lm (ik .i64) x1.fPerm), .v (.bool x1.fHasPerm), .v (.int .u32 x1.fAlpha), .v (.int .u32 x1.fBeta), .v (.int .u32 x1.fEpsilon), .v (.bool x1.fLow), .v (.bool x1.fHigh), .v (.bool x1.fFmod), .v (.int .i64 x1.fTo), .v (.int .i64 x1.fMode), .v (.bool x1.fTransA), .v (.bool x1.fTransB), .v (.int .i64 x1.fGroup), .arr x1.fKernel.length (lm (ik .i64) x1.fKernel), .arr x1.fStrides.length (lm (ik .i64) x1.fStrides), .arr x1.fPads.length (lm (ik .i64) x1.fPads), .arr x1.fDilations.length (lm (ik .i64) x1.fDilations), .v (.int .i64 x1.fAuto), .v (.bool x1.fCeil), .v (.bool x1.fCount), .v (.int .i64 x1.fBlock), .v (.int .i64 x1.fStart), .v (.int .i64 x1.fEnd), .v (.bool x1.fHasEnd), .v (.int .i64 x1.fValue.fType), .arr x1.fValue.fDims.length (lm (ik .i64) x1.fValue.fDims), .arr x1.fValue.fF.length (lm (ik .u32) x1.fValue.fF), .arr x1.fValue.fI.length (lm (ik .i64) x1.fValue.fI), .arr x1.fValue.fB.length (lm (bk) x1.fValue.fB)])), ((0, 6, 0), .bx true ([.v (.int .i64 x3.1.fType), .arr x3.1.fDims.length (lm (ik .i64) x3.1.fDims), .arr x3.1.fF.length (lm (ik .u32) x3.1.fF), .arr x3.1.fI.length (lm (ik .i64) x3.1.fI), .arr x3.1.fB.length (lm (bk) x3.1.fB)]))])) (fun t => law14_MatTurned.k1 fu x1 x2 x3) ?_ (fun hj1 => ?_)
 ·rintro ⟨⟩
  show J _ (law14_MatTurned.k1 fu x1 x2 x3) _
  unfold law14_MatTurned.k1
  refine J.chk fun h2 => ?_
  conv => arg 1; simp (disch := first | exact Zd | fail) only [ZZ, d4_at, simprocAttr, H8, e_h1]
  refine J.joinS (fun (t : Bool × (List T_Tensor)) => ([(1, .arr x2.length (fm c_T_Tensor x2)), (2, .ptr (0, 2, 0) 0 0), (5, .v (.bool true)), (6, .ptr (0, 6, 0) 0 0), (8, .own (0, 37, 0) 0 t.2.length t.2.length), (9, .ptr (0, 9, 0) 0 0)], [((0, 2, 0), .bx true ([.v (.int .i64 x1.fAxis), .arr x1.fAxes.length (lm (ik .i64) x1.fAxes), .v (.bool x1.fHasAxes), .v (.bool x1.fKeep), .v (.bool x1.fNoop), .v (.bool x1.fLast), .v (.bool x1.fZero), .arr x1.fPerm.length (lm (ik .i64) x1.fPerm), .v (.bool x1.fHasPerm), .v (.int .u32 x1.fAlpha), .v (.int .u32 x1.fBeta), .v (.int .u32 x1.fEpsilon), .v (.bool x1.fLow), .v (.bool x1.fHigh), .v (.bool x1.fFmod), .v (.int .i64 x1.fTo), .v (.int .i64 x1.fMode), .v (.bool t.1), .v (.bool x1.fTransB), .v (.int .i64 x1.fGroup), .arr x1.fKernel.length (lm (ik .i64) x1.fKernel), .arr x1.fStrides.length (lm (ik .i64) x1.fStrides), .arr x1.fPads.length (lm (ik .i64) x1.fPads), .arr x1.fDilations.length (lm (ik .i64) x1.fDilations), .v (.int .i64 x1.fAuto), .v (.bool x1.fCeil), .v (.bool x1.fCount), .v (.int .i64 x1.fBlock), .v (.int .i64 x1.fStart), .v (.int .i64 x1.fEnd), .v (.bool x1.fHasEnd), .v (.int .i64 x1.fValue.fType), .arr x1.fValue.fDims.length (lm (ik .i64) x1.fValue.fDims), .arr x1.fValue.fF.length (lm (ik .u32) x1.fValue.fF), .arr x1.fValue.fI.length (lm (ik .i64) x1.fValue.fI), .arr x1.fValue.fB.length (lm (bk) x1.fValue.fB)])), ((0, 6, 0), .bx true ([.v (.int .i64 x3.1.fType), .arr x3.1.fDims.length (lm (ik .i64) x3.1.fDims), .arr x3.1.fF.length (lm (ik .u32) x3.1.fF), .arr x3.1.fI.length (lm (ik .i64) x3.1.fI), .arr x3.1.fB.length (lm (bk) x3.1.fB)])), ((0, 37, 0), .sl true true 5 t.2.length (fm c_T_Tensor t.2)), ((0, 9, 0), .bx true ([.v (.int .i64 x1.fAxis), .arr x1.fAxes.length (lm (ik .i64) x1.fAxes), .v (.bool x1.fHasAxes), .v (.bool x1.fKeep), .v (.bool x1.fNoop), .v (.bool x1.fLast), .v (.bool x1.fZero), .arr x1.fPerm.length (lm (ik .i64) x1.fPerm), .v (.bool x1.fHasPerm), .v (.int .u32 x1.fAlpha), .v (.int .u32 x1.fBeta), .v (.int .u32 x1.fEpsilon), .v (.bool x1.fLow), .v (.bool x1.fHigh), .v (.bool x1.fFmod), .v (.int .i64 x1.fTo), .v (.int .i64 x1.fMode), .v (.bool false), .v (.bool x1.fTransB), .v (.int .i64 x1.fGroup), .arr x1.fKernel.length (lm (ik .i64) x1.fKernel), .arr x1.fStrides.length (lm (ik .i64) x1.fStrides), .arr x1.fPads.length (lm (ik .i64) x1.fPads), .arr x1.fDilations.length (lm (ik .i64) x1.fDilations), .v (.int .i64 x1.fAuto), .v (.bool x1.fCeil), .v (.bool x1.fCount), .v (.int .i64 x1.fBlock), .v (.int .i64 x1.fStart), .v (.int .i64 x1.fEnd), .v (.bool x1.fHasEnd), .v (.int .i64 x1.fValue.fType), .arr x1.fValue.fDims.length (lm (ik .i64) x1.fValue.fDims), .arr x1.fValue.fF.length (lm (ik .u32) x1.fValue.fF), .arr x1.fValue.fI.length (lm (ik .i64) x1.fValue.fI), .arr x1.fValue.fB.length (lm (bk) x1.fValue.fB)]))])) (fun t => law14_MatTurned.k2 fu x1 x2 x3 t.1 t.2) ?_ (fun hj2 => ?_)
  ·rintro ⟨x4, x5⟩
   show J _ (law14_MatTurned.k2 fu x1 x2 x3 x4 x5) _
   unfold law14_MatTurned.k2
   refine J.joinS (fun (t : List T_Tensor) => ([(1, .arr x2.length (fm c_T_Tensor x2)), (5, .v (.bool true)), (6, .ptr (0, 6, 0) 0 0), (8, .own (0, 37, 0) 0 t.length t.length), (9, .ptr (0, 9, 0) 0 0)], [((0, 6, 0), .bx true ([.v (.int .i64 x3.1.fType), .arr x3.1.fDims.length (lm (ik .i64) x3.1.fDims), .arr x3.1.fF.length (lm (ik .u32) x3.1.fF), .arr x3.1.fI.length (lm (ik .i64) x3.1.fI), .arr x3.1.fB.length (lm (bk) x3.1.fB)])), ((0, 37, 0), .sl true true 5 t.length (fm c_T_Tensor t)), ((0, 9, 0), .bx true ([.v (.int .i64 x1.fAxis), .arr x1.fAxes.length (lm (ik .i64) x1.fAxes), .v (.bool x1.fHasAxes), .v (.bool x1.fKeep), .v (.bool x1.fNoop), .v (.bool x1.fLast), .v (.bool x1.fZero), .arr x1.fPerm.length (lm (ik .i64) x1.fPerm), .v (.bool x1.fHasPerm), .v (.int .u32 x1.fAlpha), .v (.int .u32 x1.fBeta), .v (.int .u32 x1.fEpsilon), .v (.bool x1.fLow), .v (.bool x1.fHigh), .v (.bool x1.fFmod), .v (.int .i64 x1.fTo), .v (.int .i64 x1.fMode), .v (.bool false), .v (.bool false), .v (.int .i64 x1.fGroup), .arr x1.fKernel.length (lm (ik .i64) x1.fKernel), .arr x1.fStrides.length (lm (ik .i64) x1.fStrides), .arr x1.fPads.length (lm (ik .i64) x1.fPads), .arr x1.fDilations.length (lm (ik .i64) x1.fDilations), .v (.int .i64 x1.fAuto), .v (.bool x1.fCeil), .v (.bool x1.fCount), .v (.int .i64 x1.fBlock), .v (.int .i64 x1.fStart), .v (.int .i64 x1.fEnd), .v (.bool x1.fHasEnd), .v (.int .i64 x1.fValue.fType), .arr x1.fValue.fDims.length (lm (ik .i64) x1.fValue.fDims), .arr x1.fValue.fF.length (lm (ik .u32) x1.fValue.fF), .arr x1.fValue.fI.length (lm (ik .i64) x1.fValue.fI), .arr x1.fValue.fB.length (lm (bk) x1.fValue.fB)]))])) (fun t => law14_MatTurned.k3 fu x1 x3 t) ?_ (fun hj3 => ?_)
   ·rintro x6
    show J _ (law14_MatTurned.k3 fu x1 x3 x6) _
    unfold law14_MatTurned.k3
    refine J.bind fun x7 h3 => ?_
    have e_h3 := H11_0 _ _ _ _ h3
    try simp only [NN, NT, LN, simprocAttr, DT] at e_h3
    conv => arg 1; simp (disch := first | exact Zd | fail) only [ZZ, d4_at, simprocAttr, H8, e_h1, e_h3]
    refine J.eq go_seq ?_
    conv => arg 1; simp (disch := first | exact Zd | fail) only [ZZ, d4_at, simprocAttr, H8, e_h1, e_h3]
    refine J.ite (fun h4 => ?_) (fun h4 => ?_)
    ·have h4' := decide_eq_true h4
     refine J.bind fun x8 h5 => ?_
     have e_h5 := H13_0 _ _ _ h5
     try simp only [NN, NT, LN, simprocAttr, DT] at e_h5
     conv => arg 1; simp (disch := first | exact Zd | fail) only [ZZ, d4_at, simprocAttr, H8, e_h1, e_h3, h4', e_h5]
     refine J.eq ret_seq ?_
     refine J.some ?_
     simp (maxSteps := 20000000) (disch := first | exact Zd | fail) only [ZZ, d4_at, simprocAttr, H8, e_h1, e_h3, h4', e_h5, FN]
    ·have h4' := decide_eq_false h4
     conv => arg 1; simp (disch := first | exact Zd | fail) only [ZZ, d4_at, simprocAttr, H8, e_h1, e_h3, h4']
     refine J.eq ret_seq ?_
     refine J.some ?_
     simp (maxSteps := 20000000) (disch := first | exact Zd | fail) only [ZZ, d4_at, simprocAttr, H8, e_h1, e_h3, h4', FN]
   ·refine J.hd jn_at ?_
    conv => arg 1; simp (disch := first | exact Zd | fail) only [ZZ, d4_at, simprocAttr, H8, e_h1]
    refine J.ite (fun h6 => ?_) (fun h6 => ?_)
    ·have h6' : x1.fTransB = true := h6
     refine J.at fun x9 h7 h8 h9 => ?_
     replace h9 : x2[1]? = some x9 := h9
     have h9k := fm_cut c_T_Tensor_len h9
     have h9f := fm_fit c_T_Tensor_len h9
     have h9a0 := fm_at (j := 0) c_T_Tensor_len h9 (by decide)
     have h9a1 := fm_at (j := 1) c_T_Tensor_len h9 (by decide)
     have h9a2 := fm_at (j := 2) c_T_Tensor_len h9 (by decide)
     have h9a3 := fm_at (j := 3) c_T_Tensor_len h9 (by decide)
     have h9a4 := fm_at (j := 4) c_T_Tensor_len h9 (by decide)
     simp only [simprocAttr, Nat.zero_mul, Nat.zero_add, Nat.add_zero, List.drop_zero] at h9k h9f h9a0 h9a1 h9a2 h9a3 h9a4
     refine J.bind fun x10 h10 => ?_
     have e_h10 := H12_0 _ _ h10
     try simp only [NN, NT, LN, simprocAttr, DT] at e_h10
     conv => arg 1; simp (disch := first | exact Zd | fail) only [ZZ, d4_at, simprocAttr, H8, e_h1, h6', h9k, h9f, h9a0, h9a1, h9a2, h9a3, h9a4, e_h10]
     refine J.eq go_seq ?_
     conv => arg 1; simp (disch := first | exact Zd | fail) only [ZZ, d4_at, simprocAttr, H8, e_h1, h6', h9k, h9f, h9a0, h9a1, h9a2, h9a3, h9a4, e_h10]
     refine J.ite (fun h11 => ?_) (fun h11 => ?_)
     ·have h11' : x10.2 = true := h11
      conv => arg 1; simp (disch := first | exact Zd | fail) only [ZZ, d4_at, simprocAttr, H8, e_h1, h6', h9k, h9f, h9a0, h9a1, h9a2, h9a3, h9a4, e_h10, h11']
      refine J.eq ret_seq ?_
      refine J.chk fun h12 => ?_
      conv => arg 1; simp (disch := first | exact Zd | fail) only [ZZ, d4_at, simprocAttr, H8, e_h1, h6', h9k, h9f, h9a0, h9a1, h9a2, h9a3, h9a4, e_h10, h11']
      refine J.jmp (t := x5.set (1 : Int).toNat x10.1) hj3 ?_ ?_
      ·exact Ze
      ·exact Zh
     ·have h11' : x10.2 = false := Bool.eq_false_iff.2 h11
      refine J.some ?_
      simp (maxSteps := 20000000) (disch := first | exact Zd | fail) only [ZZ, d4_at, simprocAttr, H8, e_h1, h6', h9k, h9f, h9a0, h9a1, h9a2, h9a3, h9a4, e_h10, h11', FN]
    ·have h6' : x1.fTransB = false := Bool.eq_false_iff.2 h6
     conv => arg 1; simp (disch := first | exact Zd | fail) only [ZZ, d4_at, simprocAttr, H8, e_h1, h6']
     refine J.jmp (t := x5) hj3 ?_ ?_
     ·exact Ze
     ·exact Zh
  ·refine J.hd jn_at ?_
   conv => arg 1; simp (disch := first | exact Zd | fail) only [ZZ, d4_at, simprocAttr, H8, e_h1]
   refine J.ite (fun h13 => ?_) (fun h13 => ?_)
   ·have h13' : x1.fTransA = true := h13
    refine J.at fun x11 h14 h15 h16 => ?_
    replace h16 : x2[0]? = some x11 := h16
    have h16k := fm_cut c_T_Tensor_len h16
    have h16f := fm_fit c_T_Tensor_len h16
    have h16a0 := fm_at (j := 0) c_T_Tensor_len h16 (by decide)
    have h16a1 := fm_at (j := 1) c_T_Tensor_len h16 (by decide)
    have h16a2 := fm_at (j := 2) c_T_Tensor_len h16 (by decide)
    have h16a3 := fm_at (j := 3) c_T_Tensor_len h16 (by decide)
    have h16a4 := fm_at (j := 4) c_T_Tensor_len h16 (by decide)
    simp only [simprocAttr, Nat.zero_mul, Nat.zero_add, Nat.add_zero, List.drop_zero] at h16k h16f h16a0 h16a1 h16a2 h16a3 h16a4
    refine J.bind fun x12 h17 => ?_
    have e_h17 := H12_0 _ _ h17
    try simp only [NN, NT, LN, simprocAttr, DT] at e_h17
    conv => arg 1; simp (disch := first | exact Zd | fail) only [ZZ, d4_at, simprocAttr, H8, e_h1, h13', h16k, h16f, h16a0, h16a1, h16a2, h16a3, h16a4, e_h17]
    refine J.eq go_seq ?_
    conv => arg 1; simp (disch := first | exact Zd | fail) only [ZZ, d4_at, simprocAttr, H8, e_h1, h13', h16k, h16f, h16a0, h16a1, h16a2, h16a3, h16a4, e_h17]
    refine J.ite (fun h18 => ?_) (fun h18 => ?_)
    ·have h18' : x12.2 = true := h18
     conv => arg 1; simp (disch := first | exact Zd | fail) only [ZZ, d4_at, simprocAttr, H8, e_h1, h13', h16k, h16f, h16a0, h16a1, h16a2, h16a3, h16a4, e_h17, h18']
     refine J.eq ret_seq ?_
     refine J.chk fun h19 => ?_
     conv => arg 1; simp (disch := first | exact Zd | fail) only [ZZ, d4_at, simprocAttr, H8, e_h1, h13', h16k, h16f, h16a0, h16a1, h16a2, h16a3, h16a4, e_h17, h18']
     refine J.jmp (t := (true, x2.set (0 : Int).toNat x12.1)) hj2 ?_ ?_
     ·exact Ze
     ·exact Zh
    ·have h18' : x12.2 = false := Bool.eq_false_iff.2 h18
     refine J.some ?_
     simp (maxSteps := 20000000) (disch := first | exact Zd | fail) only [ZZ, d4_at, simprocAttr, H8, e_h1, h13', h16k, h16f, h16a0, h16a1, h16a2, h16a3, h16a4, e_h17, h18', FN]
   ·have h13' : x1.fTransA = false := Bool.eq_false_iff.2 h13
    conv => arg 1; simp (disch := first | exact Zd | fail) only [ZZ, d4_at, simprocAttr, H8, e_h1, h13']
    refine J.jmp (t := (false, x2)) hj2 ?_ ?_
    ·exact Ze
    ·exact Zh
 ·refine J.hd jn_at ?_
  refine J.eq go_seq ?_
  conv => arg 1; simp (disch := first | exact Zd | fail) only [ZZ, d4_at, simprocAttr, H8, e_h1]
  refine J.ite (fun h20 => ?_) (fun h20 => ?_)
  ·have h20' := decide_eq_true h20
   conv => arg 1; simp (disch := first | exact Zd | fail) only [ZZ, d4_at, simprocAttr, H8, e_h1, h20']
   refine J.eq ret_seq ?_
   conv => arg 1; simp (disch := first | exact Zd | fail) only [ZZ, d4_at, simprocAttr, H8, e_h1, h20']
   refine J.ite (fun h21 => ?_) (fun h21 => ?_)
   ·have h21' := decide_eq_true h21
    have h21'' : decide (2 ≤ (x2.length : Int)) = false := decide_eq_false (by omega)
    conv => arg 1; simp (disch := first | exact Zd | fail) only [ZZ, d4_at, simprocAttr, H8, e_h1, h20', h21'', h21']
    refine J.eq go_seq ?_
    conv => arg 1; simp (disch := first | exact Zd | fail) only [ZZ, d4_at, simprocAttr, H8, e_h1, h20', h21'', h21']
    refine J.eq ret_seq ?_
    refine J.some ?_
    simp (maxSteps := 20000000) (disch := first | exact Zd | fail) only [ZZ, d4_at, simprocAttr, H8, e_h1, h20', h21'', h21', FN]
   ·have h21' := decide_eq_false h21
    have h21'' : decide (2 ≤ (x2.length : Int)) = true := decide_eq_true (by omega)
    conv => arg 1; simp (disch := first | exact Zd | fail) only [ZZ, d4_at, simprocAttr, H8, e_h1, h20', h21'', h21']
    refine J.jmp (t := ()) hj1 ?_ ?_
    ·exact Ze
    ·exact Zh
  ·have h20' := decide_eq_false h20
   conv => arg 1; simp (disch := first | exact Zd | fail) only [ZZ, d4_at, simprocAttr, H8, e_h1, h20']
   refine J.eq ret_seq ?_
   conv => arg 1; simp (disch := first | exact Zd | fail) only [ZZ, d4_at, simprocAttr, H8, e_h1, h20']
   refine J.eq go_seq ?_
   conv => arg 1; simp (disch := first | exact Zd | fail) only [ZZ, d4_at, simprocAttr, H8, e_h1, h20']
   refine J.eq ret_seq ?_
   refine J.some ?_
   simp (maxSteps := 20000000) (disch := first | exact Zd | fail) only [ZZ, d4_at, simprocAttr, H8, e_h1, h20', FN]
noncomputable def t4 (fu : Nat) : CallP := orE 8 (mkC (fun (_ : Unit) => ([] : List AV)) (fun _ => some true) (fun b => .v (.bool b))) (orE 11 (mkC (fun (t : Int × T_Setting × (List T_Tensor)) => ([.v (.int .i64 t.1), .agg (c_T_Setting t.2.1), .arr t.2.2.length (fm c_T_Tensor t.2.2)] : List AV)) (fun t => mat_Do fu t.1 t.2.1 t.2.2) e11) (orE 12 (mkC (fun (t : T_Tensor) => ([.agg (c_T_Tensor t)] : List AV)) (fun t => law14_turned fu t) e12) (orE 13 (mkC (fun (t : T_Tensor × T_Tensor) => ([.agg (c_T_Tensor t.1), .agg (c_T_Tensor t.2)] : List AV)) (fun t => ref05_Same fu t.1 t.2) e13) (noP))))
theorem t4_ok (fu : Nat) : CpOK Tryz.prog (t4 fu ) := orE_ok (orE_ok (orE_ok (orE_ok (noP_ok) (mkC_ok (fun t b h => ok13 fu t.1 t.2  b h))) (mkC_ok (fun t b h => ok12 fu t  b h))) (mkC_ok (fun t b h => ok11 fu t.1 t.2.1 t.2.2  b h))) (mkC_ok (fun _ b h => by injection h with h; subst h; exact awake8))
theorem ok4 (fu : Nat) (x1 : T_Setting) (x2 : List T_Tensor) (r) (h : law14_MatTurned fu x1 x2 = some r) : PureOK Tryz.prog 4 [.agg (c_T_Setting x1), .arr x2.length (fm c_T_Tensor x2)] (e4 r) :=
  pure_J mixed (cp := t4 fu ) (t4_ok fu  ) noI_ok i4 (w4 _ fu x1 x2  (orE_hit (mkC_at (a := ()) (fun _ _ _ => rfl) rfl)) (fun a0 a1 a2 r h => orE_miss (by decide) (orE_hit (mkC_at (a := (a0, a1, a2)) (by intro a b h; first | (exact rfl) | (simp only [INJ, IJ] at h; first | exact h | (simp_all [Prod.ext_iff]) )) h))) (fun a0 r h => orE_miss (by decide) (orE_miss (by decide) (orE_hit (mkC_at (a := a0) (by intro a b h; first | (exact rfl) | (simp only [INJ, IJ] at h; first | exact h | (simp_all [Prod.ext_iff]) )) h)))) (fun a0 a1 r h => orE_miss (by decide) (orE_miss (by decide) (orE_miss (by decide) (orE_hit (mkC_at (a := (a0, a1)) (by intro a b h; first | (exact rfl) | (simp only [INJ, IJ] at h; first | exact h | (simp_all [Prod.ext_iff]) )) h)))))) h
end Go.Av
