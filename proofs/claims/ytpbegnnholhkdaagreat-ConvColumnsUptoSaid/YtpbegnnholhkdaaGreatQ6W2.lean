/- The walks of the plain functions, part 2. Made by a program of mine. Conditions: none. -/
import Derived.Test.YtpbegnnholhkdaaGreatQ6W1
set_option linter.unusedVariables false
set_option linter.unusedSimpArgs false
set_option linter.defProp false
set_option maxRecDepth 20000
open Go Go.Proofs
namespace Go.Av
open Aw (d19 d20 d21 d30 d32 d33 d34 d35 d36 d37 d38 d39 d40 d41 d42 d57 d58 d59 d60 d61 d62 d63 d64 d65 d66 d67 d68 d69 d71 d72 d73 d77 d78 d79 d80 d81 d82 d83 d84 d85 d87 d88 d89 d90 d91 d99 d102 d103 d104 d106 d107 d108 d109 d111 d112 d113 d117 d118 d119 d120 d142 d144 d149 d156)
/-! 8: lattice/conv.Do -/
open Aw (d8)
def d8_at := by have h := tabL Aw.d8.eq_1; simp only [AllAt, Nat.zero_add, Nat.reduceAdd] at h; exact h
theorem i8 : finfo Tryz.prog 8 d8 = some ⟨bodyOf Tryz.f8, [.cell 6 28, .tmp 7], [28, 32]⟩ := finfo_at Tryz.func8 rfl (by kernel_rfl) (by kernel_rfl)
def e8 : (T_Tensor × Int) → AV := fun r => .tuple [.agg [.v (.int .i64 r.1.fType), .arr r.1.fDims.length (lm (ik .i64) r.1.fDims), .arr r.1.fF.length (lm (ik .u32) r.1.fF), .arr r.1.fI.length (lm (ik .i64) r.1.fI), .arr r.1.fB.length (lm (bk) r.1.fB)], .v (.int .i64 r.2)]
structure K34 (fu : Nat) (cp : CallP) : Prop where
 ap : ∀ {a0 : Int} {r}, conv_Has fu a0 = some r → cp 34 [.v (.int .i64 a0)] = some (.v (.bool r))
noncomputable def C34 (fu : Nat) : Cm Tryz.prog Int Bool := ⟨34, fun t => [.v (.int .i64 t)], fun t => conv_Has fu t, e34, fun t b h => ok34 fu t  b h, Zi⟩
theorem u34 {fu : Nat} {cp : CallP} (H : Hit cp (C34 fu).ct) : K34 fu cp := ⟨fun {a0 r} h => (C34 fu).at H a0 r h⟩
structure K36 (fu : Nat) (cp : CallP) : Prop where
 ap : ∀ {a0 : T_Tensor} {r}, tens_Canon fu a0 = some r → cp 36 [.agg (c_T_Tensor a0)] = some (.agg [.v (.int .i64 r.fType), .fresh 1 r.fDims.length (lm (ik .i64) r.fDims), .fresh 1 r.fF.length (lm (ik .u32) r.fF), .fresh 1 r.fI.length (lm (ik .i64) r.fI), .fresh 1 r.fB.length (lm (bk) r.fB)])
noncomputable def C36 (fu : Nat) : Cm Tryz.prog T_Tensor T_Tensor := ⟨36, fun t => [.agg (c_T_Tensor t)], fun t => tens_Canon fu t, e36, fun t b h => ok36 fu t  b h, Zi⟩
theorem u36 {fu : Nat} {cp : CallP} (H : Hit cp (C36 fu).ct) : K36 fu cp := ⟨fun {a0 r} h => (C36 fu).at H a0 r h⟩
structure K38 (fu : Nat) (cp : CallP) : Prop where
 ap : ∀ {a0 : List T_Tensor} {r}, ewise_Vals fu a0 = some r → cp 38 [.arr a0.length (fm c_T_Tensor a0)] = some (.arr r.length (fm c_T_Val r))
noncomputable def C38 (fu : Nat) : Cm Tryz.prog (List T_Tensor) (List T_Val) := ⟨38, fun t => [.arr t.length (fm c_T_Tensor t)], fun t => ewise_Vals fu t, e38, fun t b h => ok38 fu t  b h, Zi⟩
theorem u38 {fu : Nat} {cp : CallP} (H : Hit cp (C38 fu).ct) : K38 fu cp := ⟨fun {a0 r} h => (C38 fu).at H a0 r h⟩
structure K37 (fu : Nat) (cp : CallP) : Prop where
 ap : ∀ {a0 : Int} {a1 : T_Setting} {a2 : List T_Val} {a3 : Int} {r}, infer_Node fu a0 a1 a2 a3 = some r → cp 37 [.v (.int .i64 a0), .agg (c_T_Setting a1), .arr a2.length (fm c_T_Val a2), .v (.int .i64 a3)] = some (.tuple [.arr r.1.length (fm c_T_Val r.1), .v (.int .i64 r.2)])
noncomputable def C37 (fu : Nat) : Cm Tryz.prog (Int × T_Setting × (List T_Val) × Int) ((List T_Val) × Int) := ⟨37, fun t => [.v (.int .i64 t.1), .agg (c_T_Setting t.2.1), .arr t.2.2.1.length (fm c_T_Val t.2.2.1), .v (.int .i64 t.2.2.2)], fun t => infer_Node fu t.1 t.2.1 t.2.2.1 t.2.2.2, e37, fun t b h => ok37 fu t.1 t.2.1 t.2.2.1 t.2.2.2  b h, Zi⟩
theorem u37 {fu : Nat} {cp : CallP} (H : Hit cp (C37 fu).ct) : K37 fu cp := ⟨fun {a0 a1 a2 a3 r} h => (C37 fu).at H (a0, a1, a2, a3) r h⟩
structure K32 (fu : Nat) (cp : CallP) : Prop where
 ap : ∀ {a0 : T_Setting} {a1 : Int} {a2 : Int} {a3 : Int} {r}, conv_axisOf fu a0 a1 a2 a3 = some r → cp 32 [.agg (c_T_Setting a0), .v (.int .i64 a1), .v (.int .i64 a2), .v (.int .i64 a3)] = some (.tuple [.agg [.v (.int .i64 r.1.fsize), .v (.int .i64 r.1.fkernel), .v (.int .i64 r.1.fstride), .v (.int .i64 r.1.fdilation), .v (.int .i64 r.1.fahead), .v (.int .i64 r.1.fwindows)], .v (.int .i64 r.2)])
noncomputable def C32 (fu : Nat) : Cm Tryz.prog (T_Setting × Int × Int × Int) (T_conv_axis × Int) := ⟨32, fun t => [.agg (c_T_Setting t.1), .v (.int .i64 t.2.1), .v (.int .i64 t.2.2.1), .v (.int .i64 t.2.2.2)], fun t => conv_axisOf fu t.1 t.2.1 t.2.2.1 t.2.2.2, e32, fun t b h => ok32 fu t.1 t.2.1 t.2.2.1 t.2.2.2  b h, Zi⟩
theorem u32 {fu : Nat} {cp : CallP} (H : Hit cp (C32 fu).ct) : K32 fu cp := ⟨fun {a0 a1 a2 a3 r} h => (C32 fu).at H (a0, a1, a2, a3) r h⟩
structure K39 (fu : Nat) (cp : CallP) : Prop where
 ap : ∀ {a0 : Int} {a1 : List Int} {r}, tens_New fu a0 a1 = some r → cp 39 [.v (.int .i64 a0), .arr a1.length (lm (ik .i64) a1)] = some (.tuple [.agg [.v (.int .i64 r.1.fType), .fresh 1 r.1.fDims.length (lm (ik .i64) r.1.fDims), .fresh 1 r.1.fF.length (lm (ik .u32) r.1.fF), .fresh 1 r.1.fI.length (lm (ik .i64) r.1.fI), .fresh 1 r.1.fB.length (lm (bk) r.1.fB)], .v (.int .i64 r.2)])
noncomputable def C39 (fu : Nat) : Cm Tryz.prog (Int × (List Int)) (T_Tensor × Int) := ⟨39, fun t => [.v (.int .i64 t.1), .arr t.2.length (lm (ik .i64) t.2)], fun t => tens_New fu t.1 t.2, e39, fun t b h => ok39 fu t.1 t.2  b h, Zi⟩
theorem u39 {fu : Nat} {cp : CallP} (H : Hit cp (C39 fu).ct) : K39 fu cp := ⟨fun {a0 a1 r} h => (C39 fu).at H (a0, a1) r h⟩
structure K40 (fu : Nat) (cp : CallP) : Prop where
 ap : ∀ {a0 : List Int} {a1 : Int} {r}, shape_Index fu a0 a1 = some r → cp 40 [.arr a0.length (lm (ik .i64) a0), .v (.int .i64 a1)] = some (.tuple [.fresh 1 r.1.length (lm (ik .i64) r.1), .v (.int .i64 r.2)])
noncomputable def C40 (fu : Nat) : Cm Tryz.prog ((List Int) × Int) ((List Int) × Int) := ⟨40, fun t => [.arr t.1.length (lm (ik .i64) t.1), .v (.int .i64 t.2)], fun t => shape_Index fu t.1 t.2, e40, fun t b h => ok40 fu t.1 t.2  b h, Zi⟩
theorem u40 {fu : Nat} {cp : CallP} (H : Hit cp (C40 fu).ct) : K40 fu cp := ⟨fun {a0 a1 r} h => (C40 fu).at H (a0, a1) r h⟩
structure K21 (fu : Nat) (cp : CallP) : Prop where
 ap : ∀ {a0 : T_conv_work} {a1 : Int} {a2 : Int} {a3 : Int} {a4 : Int} {r}, conv_work_sum fu a0 a1 a2 a3 a4 = some r → cp 21 [.ref (c_T_conv_work a0) 0, .v (.int .i64 a1), .v (.int .i64 a2), .v (.int .i64 a3), .v (.int .i64 a4)] = some (.v (.int .u32 r))
noncomputable def C21 (fu : Nat) : Cm Tryz.prog (T_conv_work × Int × Int × Int × Int) Int := ⟨21, fun t => [.ref (c_T_conv_work t.1) 0, .v (.int .i64 t.2.1), .v (.int .i64 t.2.2.1), .v (.int .i64 t.2.2.2.1), .v (.int .i64 t.2.2.2.2)], fun t => conv_work_sum fu t.1 t.2.1 t.2.2.1 t.2.2.2.1 t.2.2.2.2, e21, fun t b h => ok21 fu t.1 t.2.1 t.2.2.1 t.2.2.2.1 t.2.2.2.2  b h, Zi⟩
theorem u21 {fu : Nat} {cp : CallP} (H : Hit cp (C21 fu).ct) : K21 fu cp := ⟨fun {a0 a1 a2 a3 a4 r} h => (C21 fu).at H (a0, a1, a2, a3, a4) r h⟩
def conv_Do.m1 : LJ 1 6 Unit ((List Int) × Int) := ⟨fun r s e => [(0, er e 0), (1, er e 1), (4, er e 4), (5, er e 5), (20, er e 20), (21, .v (.int .i64 s.2))], fun r s h => [((0, 6, 0), hr h (0, 6, 0)), ((1, 21, 0), hr h (1, 21, 0)), ((1, 8, 114), hr h (1, 8, 114)), ((2, 4, 0), hr h (2, 4, 0)), ((2, 15, 0), hr h (2, 15, 0)), ((2, 15, 1), .sl true true 1 s.1.length (lm (ik .u32) s.1)), ((2, 15, 2), hr h (2, 15, 2)), ((2, 15, 3), hr h (2, 15, 3)), ((2, 5, 0), bs (hr h (2, 5, 0)) 2 (.own (2, 15, 1) 0 s.1.length s.1.length))]⟩
def conv_Do.m2 : LJ 2 10 Unit ((List T_Tensor) × Int) := ⟨fun r s e => [(0, er e 0), (2, er e 2), (4, er e 4), (8, er e 8), (22, er e 22), (23, er e 23), (24, .v (.int .i64 s.2))], fun r s h => [((0, 4, 0), hr h (0, 4, 0)), ((0, 6, 0), hr h (0, 6, 0)), ((1, 4, 0), hr h (1, 4, 0)), ((1, 21, 0), bs (hr h (1, 21, 0)) 36 (.own (1, 8, 114) 0 s.1.length s.1.length)), ((1, 8, 114), .sl true true 5 s.1.length (fm c_T_Tensor s.1))]⟩
def conv_Do.j1 : LJ 1 26 Unit (List T_Tensor) := ⟨fun r t e => [(0, er e 0), (2, er e 2), (4, er e 4), (8, er e 8)], fun r t h => [((0, 4, 0), hr h (0, 4, 0)), ((0, 6, 0), hr h (0, 6, 0)), ((1, 4, 0), hr h (1, 4, 0)), ((1, 21, 0), bs (hr h (1, 21, 0)) 36 (.own (1, 8, 114) 0 t.length t.length)), ((1, 8, 114), .sl true true 5 t.length (fm c_T_Tensor t))]⟩
set_option maxHeartbeats 400000000 in
open conv_Do in
theorem w8 (cp : CallP) (fu : Nat) (x1 : Int) (x2 : T_Setting) (x3 : List T_Tensor) (H1 : K34 fu cp) (H2 : K35 fu cp) (H3 : K36 fu cp) (H4 : K38 fu cp) (H5 : K37 fu cp) (H6 : K32 fu cp) (H7 : K39 fu cp) (H8 : K40 fu cp) (H9 : K21 fu cp) (H10 : K41 fu cp) : J (go Tryz.prog (inlC [19, 20]) cp (ciE Tryz.prog (inlC [19, 20]) cp (ciE Tryz.prog (inlC [19, 20]) cp noI fu 20 d20 ⟨b20, [.cell 4 28], [28]⟩ noI) fu 19 d19 ⟨b19, [.tmp 6, .tmp 7], [49, 32]⟩ (ciE Tryz.prog (inlC [19, 20]) cp noI fu 20 d20 ⟨b20, [.cell 4 28], [28]⟩ noI)) 0 [] d8 fu (finS Tryz.prog [.cell 6 28, .tmp 7] [28, 32]) (bodyOf Tryz.f8) (initE 0 [.v (.int .i64 x1), .agg (c_T_Setting x2), .arr x3.length (fm c_T_Tensor x3)]) [] []) (conv_Do fu x1 x2 x3) e8 := by
 unfold conv_Do e8
 conv => arg 1; simp only [bodyOf, Tryz.f8]
 have z0 := d8_at
 have z1 := SE
 have z2 := RL
 have z3 := d19_at
 have z4 := Tryz.f19.eq_1
 have z5 := @go_b19
 have z6 := d20_at
 have z7 := Tryz.f20.eq_1
 have z8 := @go_b20
 have z9 := RI
 have z10 := RIk
 have z11 := @bodyOf.eq_1
 exact Wk
theorem ok8 (fu : Nat) (x1 : Int) (x2 : T_Setting) (x3 : List T_Tensor) (r) (h : conv_Do fu x1 x2 x3 = some r) : PureOK Tryz.prog 8 [.v (.int .i64 x1), .agg (c_T_Setting x2), .arr x3.length (fm c_T_Tensor x3)] (e8 r) := pureST mixed [(C34 fu).ct, (C35 fu).ct, (C36 fu).ct, (C38 fu).ct, (C37 fu).ct, (C32 fu).ct, (C39 fu).ct, (C40 fu).ct, (C21 fu).ct, (C41 fu).ct] (ids := [34, 35, 36, 38, 37, 32, 39, 40, 21, 41]) rfl (by decide) i8 (C := (inlC [19, 20])) (ci := fun cp => (ciE Tryz.prog (inlC [19, 20]) cp (ciE Tryz.prog (inlC [19, 20]) cp noI fu 20 d20 ⟨b20, [.cell 4 28], [28]⟩ noI) fu 19 d19 ⟨b19, [.tmp 6, .tmp 7], [49, 32]⟩ (ciE Tryz.prog (inlC [19, 20]) cp noI fu 20 d20 ⟨b20, [.cell 4 28], [28]⟩ noI))) (fun cp ok => (ciE_ok mixed ok (ciE_ok mixed ok noI_ok i20 noI_ok) i19 (ciE_ok mixed ok noI_ok i20 noI_ok))) (fun cp H => w8 cp fu x1 x2 x3 (u34 H.1) (u35 H.2.1) (u36 H.2.2.1) (u38 H.2.2.2.1) (u37 H.2.2.2.2.1) (u32 H.2.2.2.2.2.1) (u39 H.2.2.2.2.2.2.1) (u40 H.2.2.2.2.2.2.2.1) (u21 H.2.2.2.2.2.2.2.2.1) (u41 H.2.2.2.2.2.2.2.2.2.1)) h
/-! 31: lattice/conv.many -/
open Aw (d31)
def d31_at := by have h := tabL Aw.d31.eq_1; simp only [AllAt, Nat.zero_add, Nat.reduceAdd] at h; exact h
theorem i31 : finfo Tryz.prog 31 d31 = some ⟨bodyOf Tryz.f31, [.tmp 4], [4]⟩ := finfo_at Tryz.func31 rfl (by kernel_rfl) (by kernel_rfl)
def e31 : Bool → AV := fun r => .v (.bool r)
set_option maxHeartbeats 20000000 in
theorem w31 (cp : CallP) (fu : Nat) (x1 : List Int) (x2 : Int)  : J (go Tryz.prog noC cp noI 0 [] d31 fu (fin Tryz.prog [.tmp 4] [4]) (bodyOf Tryz.f31) (initE 0 [.arr x1.length (lm (ik .i64) x1), .v (.int .i64 x2)]) [] []) (conv_many fu x1 x2) e31 := by
 unfold conv_many e31
 conv => arg 1; simp only [bodyOf, Tryz.f31]
 have z0 := d31_at
 exact Wk
theorem ok31 (fu : Nat) (x1 : List Int) (x2 : Int) (r) (h : conv_many fu x1 x2 = some r) : PureOK Tryz.prog 31 [.arr x1.length (lm (ik .i64) x1), .v (.int .i64 x2)] (e31 r) := pureT mixed [] (ids := []) rfl (by decide) i31 (C := noC) (ci := fun cp => noI) (fun cp ok => noI_ok) (fun cp H => w31 cp fu x1 x2 ) h
/-! 18: lattice/conv.Cells -/
open Aw (d18)
def d18_at := by have h := tabL Aw.d18.eq_1; simp only [AllAt, Nat.zero_add, Nat.reduceAdd] at h; exact h
theorem i18 : finfo Tryz.prog 18 d18 = some ⟨bodyOf Tryz.f18, [.tmp 14, .tmp 15], [22, 32]⟩ := finfo_at Tryz.func18 rfl (by kernel_rfl) (by kernel_rfl)
def e18 : ((List Int) × Int) → AV := fun r => .tuple [.fresh 1 r.1.length (lm (ik .i64) r.1), .v (.int .i64 r.2)]
structure K31 (fu : Nat) (cp : CallP) : Prop where
 ap : ∀ {a0 : List Int} {a1 : Int} {r}, conv_many fu a0 a1 = some r → cp 31 [.arr a0.length (lm (ik .i64) a0), .v (.int .i64 a1)] = some (.v (.bool r))
noncomputable def C31 (fu : Nat) : Cm Tryz.prog ((List Int) × Int) Bool := ⟨31, fun t => [.arr t.1.length (lm (ik .i64) t.1), .v (.int .i64 t.2)], fun t => conv_many fu t.1 t.2, e31, fun t b h => ok31 fu t.1 t.2  b h, Zi⟩
theorem u31 {fu : Nat} {cp : CallP} (H : Hit cp (C31 fu).ct) : K31 fu cp := ⟨fun {a0 a1 r} h => (C31 fu).at H (a0, a1) r h⟩
def conv_Cells.m2 : LJ 2 28 Unit ((List Int) × Bool × Int) := ⟨fun r s e => [(1, er e 1), (3, er e 3), (4, er e 4), (5, er e 5), (6, er e 6), (18, er e 18), (20, er e 20), (22, .own (0, 22, 77) 0 s.1.length s.1.length), (24, er e 24), (25, .v (.bool s.2.1)), (127, er e 127), (128, er e 128), (138, er e 138), (139, .v (.int .i64 s.2.2))], fun r s h => [((0, 18, 0), hr h (0, 18, 0)), ((0, 20, 0), hr h (0, 20, 0)), ((0, 22, 77), .sl true true 1 s.1.length (lm (ik .i64) s.1))]⟩
def conv_Cells.m1 : LJ 1 20 Unit ((List Int) × Int) := ⟨fun r s e => [(1, er e 1), (3, er e 3), (4, er e 4), (5, er e 5), (6, er e 6), (18, er e 18), (20, er e 20), (22, .own (0, 22, 77) 0 s.1.length s.1.length), (127, er e 127), (128, .v (.int .i64 s.2))], fun r s h => [((0, 18, 0), hr h (0, 18, 0)), ((0, 20, 0), hr h (0, 20, 0)), ((0, 22, 77), .sl true true 1 s.1.length (lm (ik .i64) s.1))]⟩
def conv_Cells.j2 : LJ 2 16 Unit Unit := ⟨fun r t e => [(1, er e 1), (2, er e 2), (3, er e 3), (4, er e 4), (5, er e 5), (6, er e 6), (18, er e 18), (20, er e 20)], fun r t h => [((0, 18, 0), hr h (0, 18, 0)), ((0, 20, 0), hr h (0, 20, 0))]⟩
def conv_Cells.j1 : LJ 1 8 Unit Unit := ⟨fun r t e => [(1, er e 1), (2, er e 2), (3, er e 3), (4, er e 4), (5, er e 5), (6, er e 6), (7, er e 7)], fun r t h => [((0, 7, 0), hr h (0, 7, 0))]⟩
set_option maxHeartbeats 20000000 in
open conv_Cells in
theorem w18 (cp : CallP) (fu : Nat) (x1 : T_Setting) (x2 : List Int) (x3 : Int) (x4 : Int) (x5 : Int) (x6 : Int) (x7 : Int) (H1 : K30 fu cp) (H2 : K31 fu cp) (H3 : K32 fu cp) (H4 : K33 fu cp) : J (go Tryz.prog noC cp noI 0 [] d18 fu (fin Tryz.prog [.tmp 14, .tmp 15] [22, 32]) (bodyOf Tryz.f18) (initE 0 [.agg (c_T_Setting x1), .arr x2.length (lm (ik .i64) x2), .v (.int .i64 x3), .v (.int .i64 x4), .v (.int .i64 x5), .v (.int .i64 x6), .v (.int .i64 x7)]) [] []) (conv_Cells fu x1 x2 x3 x4 x5 x6 x7) e18 := by
 unfold conv_Cells e18
 conv => arg 1; simp only [bodyOf, Tryz.f18]
 have z0 := d18_at
 have z1 := RL
 exact Wk
theorem ok18 (fu : Nat) (x1 : T_Setting) (x2 : List Int) (x3 : Int) (x4 : Int) (x5 : Int) (x6 : Int) (x7 : Int) (r) (h : conv_Cells fu x1 x2 x3 x4 x5 x6 x7 = some r) : PureOK Tryz.prog 18 [.agg (c_T_Setting x1), .arr x2.length (lm (ik .i64) x2), .v (.int .i64 x3), .v (.int .i64 x4), .v (.int .i64 x5), .v (.int .i64 x6), .v (.int .i64 x7)] (e18 r) := pureT mixed [(C30 fu).ct, (C31 fu).ct, (C32 fu).ct, (C33 fu).ct] (ids := [30, 31, 32, 33]) rfl (by decide) i18 (C := noC) (ci := fun cp => noI) (fun cp ok => noI_ok) (fun cp H => w18 cp fu x1 x2 x3 x4 x5 x6 x7 (u30 H.1) (u31 H.2.1) (u32 H.2.2.1) (u33 H.2.2.2.1)) h
/-! 56: lattice/mat.Dot -/
def d56 : List (Nat × List Nat) := [(0, [4]), (0, [0, 1, 11, 12]), (0, []), (0, []), (0, [7, 8, 9, 10]), (0, []), (0, []), (0, []), (0, [14]), (0, []), (12, [6, 15, 16, 17, 18, 19, 20, 21, 22, 23, 24, 25]), (0, []), (0, [26]), (0, []), (0, [5, 27])]
def d56_at := by have h := tabL d56.eq_1; simp only [AllAt, Nat.zero_add, Nat.reduceAdd] at h; exact h
theorem i56 : finfo Tryz.prog 56 d56 = some ⟨bodyOf Tryz.f56, [.tmp 4], [23]⟩ := finfo_at Tryz.func56 rfl (by kernel_rfl) (by kernel_rfl)
def e56 : Int → AV := fun r => .v (.int .u32 r)
def mat_Dot.m1 : LJ 1 6 Unit (Int × Int) := ⟨fun r s e => [(0, er e 0), (1, er e 1), (5, .v (.int .u32 s.1)), (11, er e 11), (12, .v (.int .i64 s.2))], fun r s h => []⟩
set_option maxHeartbeats 20000000 in
open mat_Dot in
theorem w56 (cp : CallP) (fu : Nat) (x1 : List Int) (x2 : List Int) (H1 : K42 fu cp) (H2 : K41 fu cp) : J (go Tryz.prog noC cp noI 0 [] d56 fu (fin Tryz.prog [.tmp 4] [23]) (bodyOf Tryz.f56) (initE 0 [.arr x1.length (lm (ik .u32) x1), .arr x2.length (lm (ik .u32) x2)]) [] []) (mat_Dot fu x1 x2) e56 := by
 unfold mat_Dot e56
 conv => arg 1; simp only [bodyOf, Tryz.f56]
 have z0 := d56_at
 exact Wk
theorem ok56 (fu : Nat) (x1 : List Int) (x2 : List Int) (r) (h : mat_Dot fu x1 x2 = some r) : PureOK Tryz.prog 56 [.arr x1.length (lm (ik .u32) x1), .arr x2.length (lm (ik .u32) x2)] (e56 r) := pureT mixed [(C42 fu).ct, (C41 fu).ct] (ids := [42, 41]) rfl (by decide) i56 (C := noC) (ci := fun cp => noI) (fun cp ok => noI_ok) (fun cp H => w56 cp fu x1 x2 (u42 H.1) (u41 H.2.1)) h
/-! 29: (*lattice/conv.work).column -/
def d29 : List (Nat × List Nat) := [(0, [10]), (0, [0, 1, 2, 3, 4, 11, 12, 13, 14, 15, 58, 59]), (21922524559963543773075079531372811379237376136256, [24, 25, 26, 27, 28, 29, 30, 31, 32, 33, 34, 35]), (0, []), (0, [36, 37, 38, 39]), (0, [19, 100, 101, 102]), (12, [40, 41, 42, 43, 44, 45, 46, 47, 48, 49, 50]), (0, [22, 23]), (0, [16, 51, 52, 53, 54, 55, 56, 57]), (0, []), (0, [1000017, 1000018]), (0, []), (0, []), (0, []), (0, []), (0, []), (0, [61]), (0, []), (40, [21, 62, 63, 64, 65, 66, 67, 68, 69, 70, 71, 72, 73, 74, 75, 76, 77, 78, 79, 80, 81, 82, 83, 84, 85, 86, 87, 88, 89, 90, 91, 92, 93, 94, 95, 96, 97, 98, 99]), (0, []), (0, [20]), (0, []), (0, []), (0, []), (0, [104, 105, 106]), (0, []), (0, [107]), (0, []), (0, [109, 110, 111, 112, 113, 114, 115, 116, 117, 118, 119, 120]), (0, []), (0, [121, 122, 123, 124, 125, 126, 127, 128, 129, 130, 131, 132, 133, 134, 135, 136]), (0, []), (0, [137]), (0, []), (0, [138]), (0, []), (0, [17, 18, 139, 140, 141])]
def d29_at := by have h := tabL d29.eq_1; simp only [AllAt, Nat.zero_add, Nat.reduceAdd] at h; exact h
theorem i29 : finfo Tryz.prog 29 d29 = some ⟨bodyOf Tryz.f29, [.tmp 10], [23]⟩ := finfo_at Tryz.func29 rfl (by kernel_rfl) (by kernel_rfl)
def e29 : Int → AV := fun r => .v (.int .u32 r)
structure K18 (fu : Nat) (cp : CallP) : Prop where
 ap : ∀ {a0 : T_Setting} {a1 : List Int} {a2 : Int} {a3 : Int} {a4 : Int} {a5 : Int} {a6 : Int} {r}, conv_Cells fu a0 a1 a2 a3 a4 a5 a6 = some r → cp 18 [.agg (c_T_Setting a0), .arr a1.length (lm (ik .i64) a1), .v (.int .i64 a2), .v (.int .i64 a3), .v (.int .i64 a4), .v (.int .i64 a5), .v (.int .i64 a6)] = some (.tuple [.fresh 1 r.1.length (lm (ik .i64) r.1), .v (.int .i64 r.2)])
noncomputable def C18 (fu : Nat) : Cm Tryz.prog (T_Setting × (List Int) × Int × Int × Int × Int × Int) ((List Int) × Int) := ⟨18, fun t => [.agg (c_T_Setting t.1), .arr t.2.1.length (lm (ik .i64) t.2.1), .v (.int .i64 t.2.2.1), .v (.int .i64 t.2.2.2.1), .v (.int .i64 t.2.2.2.2.1), .v (.int .i64 t.2.2.2.2.2.1), .v (.int .i64 t.2.2.2.2.2.2)], fun t => conv_Cells fu t.1 t.2.1 t.2.2.1 t.2.2.2.1 t.2.2.2.2.1 t.2.2.2.2.2.1 t.2.2.2.2.2.2, e18, fun t b h => ok18 fu t.1 t.2.1 t.2.2.1 t.2.2.2.1 t.2.2.2.2.1 t.2.2.2.2.2.1 t.2.2.2.2.2.2  b h, Zi⟩
theorem u18 {fu : Nat} {cp : CallP} (H : Hit cp (C18 fu).ct) : K18 fu cp := ⟨fun {a0 a1 a2 a3 a4 a5 a6 r} h => (C18 fu).at H (a0, a1, a2, a3, a4, a5, a6) r h⟩
structure K56 (fu : Nat) (cp : CallP) : Prop where
 ap : ∀ {a0 : List Int} {a1 : List Int} {r}, mat_Dot fu a0 a1 = some r → cp 56 [.arr a0.length (lm (ik .u32) a0), .arr a1.length (lm (ik .u32) a1)] = some (.v (.int .u32 r))
noncomputable def C56 (fu : Nat) : Cm Tryz.prog ((List Int) × (List Int)) Int := ⟨56, fun t => [.arr t.1.length (lm (ik .u32) t.1), .arr t.2.length (lm (ik .u32) t.2)], fun t => mat_Dot fu t.1 t.2, e56, fun t b h => ok56 fu t.1 t.2  b h, Zi⟩
theorem u56 {fu : Nat} {cp : CallP} (H : Hit cp (C56 fu).ct) : K56 fu cp := ⟨fun {a0 a1 r} h => (C56 fu).at H (a0, a1) r h⟩
def conv_work_column.m2 : LJ 2 22 Unit ((List Int) × (List Int) × Int) := ⟨fun r s e => [(0, er e 0), (1, er e 1), (2, er e 2), (3, er e 3), (4, er e 4), (11, er e 11), (12, er e 12), (13, er e 13), (14, er e 14), (15, er e 15), (17, .own (0, 17, 77) 0 s.1.length s.1.length), (18, .own (0, 18, 77) 0 s.2.1.length s.2.1.length), (19, er e 19), (58, er e 58), (59, er e 59), (100, er e 100), (101, er e 101), (102, .v (.int .i64 s.2.2))], fun r s h => [((0, 11, 0), hr h (0, 11, 0)), ((0, 12, 0), hr h (0, 12, 0)), ((0, 17, 77), .sl true true 1 s.1.length (lm (ik .u32) s.1)), ((0, 18, 77), .sl true true 1 s.2.1.length (lm (ik .u32) s.2.1)), ((0, 97, 0), hr h (0, 97, 0))]⟩
def conv_work_column.m1 : LJ 1 14 Unit ((List Int) × (List Int) × Int) := ⟨fun r s e => [(0, er e 0), (1, er e 1), (2, er e 2), (3, er e 3), (4, er e 4), (11, er e 11), (12, er e 12), (13, er e 13), (14, er e 14), (15, er e 15), (17, .own (0, 17, 77) 0 s.1.length s.1.length), (18, .own (0, 18, 77) 0 s.2.1.length s.2.1.length), (58, er e 58), (59, .v (.int .i64 s.2.2))], fun r s h => [((0, 11, 0), hr h (0, 11, 0)), ((0, 12, 0), hr h (0, 12, 0)), ((0, 17, 77), .sl true true 1 s.1.length (lm (ik .u32) s.1)), ((0, 18, 77), .sl true true 1 s.2.1.length (lm (ik .u32) s.2.1))]⟩
def conv_work_column.j1 : LJ 1 36 Unit ((List Int) × (List Int)) := ⟨fun r t e => [(17, .own (0, 17, 77) 0 t.1.length t.1.length), (18, .own (0, 18, 77) 0 t.2.length t.2.length)], fun r t h => [((0, 11, 0), hr h (0, 11, 0)), ((0, 12, 0), hr h (0, 12, 0)), ((0, 17, 77), .sl true true 1 t.1.length (lm (ik .u32) t.1)), ((0, 18, 77), .sl true true 1 t.2.length (lm (ik .u32) t.2))]⟩
set_option maxHeartbeats 20000000 in
open conv_work_column in
theorem w29 (cp : CallP) (fu : Nat) (x1 : T_conv_work) (x2 : Int) (x3 : Int) (x4 : Int) (x5 : Int) (H1 : K30 fu cp) (H2 : K18 fu cp) (H3 : K56 fu cp) : J (go Tryz.prog noC cp noI 0 [] d29 fu (fin Tryz.prog [.tmp 10] [23]) (bodyOf Tryz.f29) (initE 0 [.ref (c_T_conv_work x1) 0, .v (.int .i64 x2), .v (.int .i64 x3), .v (.int .i64 x4), .v (.int .i64 x5)]) [] []) (conv_work_column fu x1 x2 x3 x4 x5) e29 := by
 unfold conv_work_column e29
 conv => arg 1; simp only [bodyOf, Tryz.f29]
 have z0 := d29_at
 have z1 := RL
 exact Wk
theorem ok29 (fu : Nat) (x1 : T_conv_work) (x2 : Int) (x3 : Int) (x4 : Int) (x5 : Int) (r) (h : conv_work_column fu x1 x2 x3 x4 x5 = some r) : PureOK Tryz.prog 29 [.ref (c_T_conv_work x1) 0, .v (.int .i64 x2), .v (.int .i64 x3), .v (.int .i64 x4), .v (.int .i64 x5)] (e29 r) := pureT mixed [(C30 fu).ct, (C18 fu).ct, (C56 fu).ct] (ids := [30, 18, 56]) rfl (by decide) i29 (C := noC) (ci := fun cp => noI) (fun cp ok => noI_ok) (fun cp H => w29 cp fu x1 x2 x3 x4 x5 (u30 H.1) (u18 H.2.1) (u56 H.2.2.1)) h
/-! 17: lattice/conv.Columns -/
def d17 : List (Nat × List Nat) := [(0, [0, 5]), (0, []), (0, [1, 2, 8, 9, 10, 11, 12, 13]), (0, []), (0, [14]), (0, []), (0, [16, 17]), (0, []), (0, [6, 7, 18, 19, 20, 21])]
def d17_at := by have h := tabL d17.eq_1; simp only [AllAt, Nat.zero_add, Nat.reduceAdd] at h; exact h
theorem i17 : finfo Tryz.prog 17 d17 = some ⟨bodyOf Tryz.f17, [.cell 4 28, .tmp 5], [28, 32]⟩ := finfo_at Tryz.func17 rfl (by kernel_rfl) (by kernel_rfl)
def e17 : (T_Tensor × Int) → AV := fun r => .tuple [.agg [.v (.int .i64 r.1.fType), .fresh 1 r.1.fDims.length (lm (ik .i64) r.1.fDims), .fresh 1 r.1.fF.length (lm (ik .u32) r.1.fF), .fresh 1 r.1.fI.length (lm (ik .i64) r.1.fI), .fresh 1 r.1.fB.length (lm (bk) r.1.fB)], .v (.int .i64 r.2)]
structure K29 (fu : Nat) (cp : CallP) : Prop where
 ap : ∀ {a0 : T_conv_work} {a1 : Int} {a2 : Int} {a3 : Int} {a4 : Int} {r}, conv_work_column fu a0 a1 a2 a3 a4 = some r → cp 29 [.ref (c_T_conv_work a0) 0, .v (.int .i64 a1), .v (.int .i64 a2), .v (.int .i64 a3), .v (.int .i64 a4)] = some (.v (.int .u32 r))
noncomputable def C29 (fu : Nat) : Cm Tryz.prog (T_conv_work × Int × Int × Int × Int) Int := ⟨29, fun t => [.ref (c_T_conv_work t.1) 0, .v (.int .i64 t.2.1), .v (.int .i64 t.2.2.1), .v (.int .i64 t.2.2.2.1), .v (.int .i64 t.2.2.2.2)], fun t => conv_work_column fu t.1 t.2.1 t.2.2.1 t.2.2.2.1 t.2.2.2.2, e29, fun t b h => ok29 fu t.1 t.2.1 t.2.2.1 t.2.2.2.1 t.2.2.2.2  b h, Zi⟩
theorem u29 {fu : Nat} {cp : CallP} (H : Hit cp (C29 fu).ct) : K29 fu cp := ⟨fun {a0 a1 a2 a3 a4 r} h => (C29 fu).at H (a0, a1, a2, a3, a4) r h⟩
def conv_Columns.m1 : LJ 1 6 Unit ((List Int) × Int) := ⟨fun r s e => [(0, er e 0), (1, er e 1), (4, er e 4), (5, er e 5), (20, er e 20), (21, .v (.int .i64 s.2))], fun r s h => [((0, 4, 0), hr h (0, 4, 0)), ((1, 21, 0), hr h (1, 21, 0)), ((1, 8, 114), hr h (1, 8, 114)), ((2, 4, 0), hr h (2, 4, 0)), ((2, 15, 0), hr h (2, 15, 0)), ((2, 15, 1), .sl true true 1 s.1.length (lm (ik .u32) s.1)), ((2, 15, 2), hr h (2, 15, 2)), ((2, 15, 3), hr h (2, 15, 3)), ((2, 5, 0), bs (hr h (2, 5, 0)) 2 (.own (2, 15, 1) 0 s.1.length s.1.length))]⟩
def conv_Columns.m2 : LJ 2 10 Unit ((List T_Tensor) × Int) := ⟨fun r s e => [(0, er e 0), (2, er e 2), (4, er e 4), (8, er e 8), (22, er e 22), (23, er e 23), (24, .v (.int .i64 s.2))], fun r s h => [((0, 2, 0), hr h (0, 2, 0)), ((0, 4, 0), hr h (0, 4, 0)), ((1, 4, 0), hr h (1, 4, 0)), ((1, 21, 0), bs (hr h (1, 21, 0)) 36 (.own (1, 8, 114) 0 s.1.length s.1.length)), ((1, 8, 114), .sl true true 5 s.1.length (fm c_T_Tensor s.1))]⟩
def conv_Columns.j1 : LJ 1 26 Unit (List T_Tensor) := ⟨fun r t e => [(0, er e 0), (2, er e 2), (4, er e 4), (8, er e 8)], fun r t h => [((0, 2, 0), hr h (0, 2, 0)), ((0, 4, 0), hr h (0, 4, 0)), ((1, 4, 0), hr h (1, 4, 0)), ((1, 21, 0), bs (hr h (1, 21, 0)) 36 (.own (1, 8, 114) 0 t.length t.length)), ((1, 8, 114), .sl true true 5 t.length (fm c_T_Tensor t))]⟩
set_option maxHeartbeats 20000000 in
open conv_Columns in
theorem w17 (cp : CallP) (fu : Nat) (x1 : T_Setting) (x2 : List T_Tensor) (H1 : K34 fu cp) (H2 : K35 fu cp) (H3 : K36 fu cp) (H4 : K38 fu cp) (H5 : K37 fu cp) (H6 : K32 fu cp) (H7 : K39 fu cp) (H8 : K40 fu cp) (H9 : K29 fu cp) (H10 : K41 fu cp) : J (go Tryz.prog (inlC [19, 20]) cp (ciE Tryz.prog (inlC [19, 20]) cp (ciE Tryz.prog (inlC [19, 20]) cp noI fu 20 d20 ⟨b20, [.cell 4 28], [28]⟩ noI) fu 19 d19 ⟨b19, [.tmp 6, .tmp 7], [49, 32]⟩ (ciE Tryz.prog (inlC [19, 20]) cp noI fu 20 d20 ⟨b20, [.cell 4 28], [28]⟩ noI)) 0 [] d17 fu (fin Tryz.prog [.cell 4 28, .tmp 5] [28, 32]) (bodyOf Tryz.f17) (initE 0 [.agg (c_T_Setting x1), .arr x2.length (fm c_T_Tensor x2)]) [] []) (conv_Columns fu x1 x2) e17 := by
 unfold conv_Columns e17
 conv => arg 1; simp only [bodyOf, Tryz.f17]
 have z0 := d17_at
 have z1 := RL
 have z2 := d19_at
 have z3 := Tryz.f19.eq_1
 have z4 := @go_b19
 have z5 := d20_at
 have z6 := Tryz.f20.eq_1
 have z7 := @go_b20
 have z8 := RI
 have z9 := RIk
 have z10 := @bodyOf.eq_1
 exact Wk
theorem ok17 (fu : Nat) (x1 : T_Setting) (x2 : List T_Tensor) (r) (h : conv_Columns fu x1 x2 = some r) : PureOK Tryz.prog 17 [.agg (c_T_Setting x1), .arr x2.length (fm c_T_Tensor x2)] (e17 r) := pureT mixed [(C34 fu).ct, (C35 fu).ct, (C36 fu).ct, (C38 fu).ct, (C37 fu).ct, (C32 fu).ct, (C39 fu).ct, (C40 fu).ct, (C29 fu).ct, (C41 fu).ct] (ids := [34, 35, 36, 38, 37, 32, 39, 40, 29, 41]) rfl (by decide) i17 (C := (inlC [19, 20])) (ci := fun cp => (ciE Tryz.prog (inlC [19, 20]) cp (ciE Tryz.prog (inlC [19, 20]) cp noI fu 20 d20 ⟨b20, [.cell 4 28], [28]⟩ noI) fu 19 d19 ⟨b19, [.tmp 6, .tmp 7], [49, 32]⟩ (ciE Tryz.prog (inlC [19, 20]) cp noI fu 20 d20 ⟨b20, [.cell 4 28], [28]⟩ noI))) (fun cp ok => (ciE_ok mixed ok (ciE_ok mixed ok noI_ok i20 noI_ok) i19 (ciE_ok mixed ok noI_ok i20 noI_ok))) (fun cp H => w17 cp fu x1 x2 (u34 H.1) (u35 H.2.1) (u36 H.2.2.1) (u38 H.2.2.2.1) (u37 H.2.2.2.2.1) (u32 H.2.2.2.2.2.1) (u39 H.2.2.2.2.2.2.1) (u40 H.2.2.2.2.2.2.2.1) (u29 H.2.2.2.2.2.2.2.2.1) (u41 H.2.2.2.2.2.2.2.2.2.1)) h
/-! 12: lattice/latticeref04.SameInts -/
open Aw (d12)
def d12_at := by have h := tabL Aw.d12.eq_1; simp only [AllAt, Nat.zero_add, Nat.reduceAdd] at h; exact h
theorem i12 : finfo Tryz.prog 12 d12 = some ⟨bodyOf Tryz.f12, [.tmp 4], [4]⟩ := finfo_at Tryz.func12 rfl (by kernel_rfl) (by kernel_rfl)
def e12 : Bool → AV := fun r => .v (.bool r)
def ref04_SameInts.m1 : LJ 1 8 Unit Int := ⟨fun r s e => [(0, er e 0), (1, er e 1), (5, .v (.int .i64 s))], fun r s h => []⟩
set_option maxHeartbeats 20000000 in
open ref04_SameInts in
theorem w12 (cp : CallP) (fu : Nat) (x1 : List Int) (x2 : List Int)  : J (go Tryz.prog noC cp noI 0 [] d12 fu (fin Tryz.prog [.tmp 4] [4]) (bodyOf Tryz.f12) (initE 0 [.arr x1.length (lm (ik .i64) x1), .arr x2.length (lm (ik .i64) x2)]) [] []) (ref04_SameInts fu x1 x2) e12 := by
 unfold ref04_SameInts e12
 conv => arg 1; simp only [bodyOf, Tryz.f12]
 have z0 := d12_at
 exact Wk
theorem ok12 (fu : Nat) (x1 : List Int) (x2 : List Int) (r) (h : ref04_SameInts fu x1 x2 = some r) : PureOK Tryz.prog 12 [.arr x1.length (lm (ik .i64) x1), .arr x2.length (lm (ik .i64) x2)] (e12 r) := pureT mixed [] (ids := []) rfl (by decide) i12 (C := noC) (ci := fun cp => noI) (fun cp ok => noI_ok) (fun cp H => w12 cp fu x1 x2 ) h
/-! 11: lattice/latticeref05.Same -/
def d11 : List (Nat × List Nat) := [(0, [0, 1, 4]), (0, [5]), (0, [8, 9, 10, 11, 12, 13, 14, 15, 16, 17, 18, 19, 20, 21, 22, 23, 24, 25, 26, 27, 28, 29, 30, 31, 32, 33, 34, 35, 36, 37, 38, 39, 40, 41, 42, 43, 44, 45, 46]), (0, []), (0, []), (0, [6]), (0, []), (0, []), (0, [48, 49, 50, 51]), (0, [2, 3, 7]), (0, [53, 54]), (0, []), (11, [55, 56, 57, 58, 59, 60, 61, 62, 63, 64]), (0, []), (0, []), (0, []), (0, []), (0, []), (0, [66, 67, 68, 69]), (0, []), (0, [71, 72]), (0, []), (11, [73, 74, 75, 76, 77, 78, 79, 80, 81, 82]), (0, []), (0, []), (0, []), (0, []), (0, []), (0, [84, 85, 86, 87]), (0, []), (0, [89, 90]), (0, []), (11, [91, 92, 93, 94, 95, 96, 97, 98, 99, 100]), (0, []), (0, []), (0, []), (0, [])]
def d11_at := by have h := tabL d11.eq_1; simp only [AllAt, Nat.zero_add, Nat.reduceAdd] at h; exact h
theorem i11 : finfo Tryz.prog 11 d11 = some ⟨bodyOf Tryz.f11, [.tmp 4], [4]⟩ := finfo_at Tryz.func11 rfl (by kernel_rfl) (by kernel_rfl)
def e11 : Bool → AV := fun r => .v (.bool r)
structure K12 (fu : Nat) (cp : CallP) : Prop where
 ap : ∀ {a0 : List Int} {a1 : List Int} {r}, ref04_SameInts fu a0 a1 = some r → cp 12 [.arr a0.length (lm (ik .i64) a0), .arr a1.length (lm (ik .i64) a1)] = some (.v (.bool r))
noncomputable def C12 (fu : Nat) : Cm Tryz.prog ((List Int) × (List Int)) Bool := ⟨12, fun t => [.arr t.1.length (lm (ik .i64) t.1), .arr t.2.length (lm (ik .i64) t.2)], fun t => ref04_SameInts fu t.1 t.2, e12, fun t b h => ok12 fu t.1 t.2  b h, Zi⟩
theorem u12 {fu : Nat} {cp : CallP} (H : Hit cp (C12 fu).ct) : K12 fu cp := ⟨fun {a0 a1 r} h => (C12 fu).at H (a0, a1) r h⟩
def ref05_Same.m1 : LJ 1 28 Unit Int := ⟨fun r s e => [(2, er e 2), (3, er e 3), (7, .v (.int .i64 s))], fun r s h => [((0, 2, 0), hr h (0, 2, 0)), ((0, 3, 0), hr h (0, 3, 0))]⟩
def ref05_Same.m2 : LJ 2 18 Unit Int := ⟨fun r s e => [(2, er e 2), (3, er e 3), (6, .v (.int .i64 s))], fun r s h => [((0, 2, 0), hr h (0, 2, 0)), ((0, 3, 0), hr h (0, 3, 0))]⟩
def ref05_Same.j3 : LJ 3 26 Unit Unit := ⟨fun r t e => [(2, er e 2), (3, er e 3)], fun r t h => [((0, 2, 0), hr h (0, 2, 0)), ((0, 3, 0), hr h (0, 3, 0))]⟩
def ref05_Same.m3 : LJ 3 8 Unit Int := ⟨fun r s e => [(2, er e 2), (3, er e 3), (5, .v (.int .i64 s))], fun r s h => [((0, 2, 0), hr h (0, 2, 0)), ((0, 3, 0), hr h (0, 3, 0))]⟩
def ref05_Same.j2 : LJ 2 16 Unit Unit := ⟨fun r t e => [(2, er e 2), (3, er e 3)], fun r t h => [((0, 2, 0), hr h (0, 2, 0)), ((0, 3, 0), hr h (0, 3, 0))]⟩
def ref05_Same.j1 : LJ 1 6 Unit Unit := ⟨fun r t e => [(2, er e 2), (3, er e 3)], fun r t h => [((0, 2, 0), hr h (0, 2, 0)), ((0, 3, 0), hr h (0, 3, 0))]⟩
set_option maxHeartbeats 20000000 in
open ref05_Same in
theorem w11 (cp : CallP) (fu : Nat) (x1 : T_Tensor) (x2 : T_Tensor) (H1 : K12 fu cp) : J (go Tryz.prog noC cp noI 0 [] d11 fu (fin Tryz.prog [.tmp 4] [4]) (bodyOf Tryz.f11) (initE 0 [.agg (c_T_Tensor x1), .agg (c_T_Tensor x2)]) [] []) (ref05_Same fu x1 x2) e11 := by
 unfold ref05_Same e11
 conv => arg 1; simp only [bodyOf, Tryz.f11]
 have z0 := d11_at
 exact Wk
theorem ok11 (fu : Nat) (x1 : T_Tensor) (x2 : T_Tensor) (r) (h : ref05_Same fu x1 x2 = some r) : PureOK Tryz.prog 11 [.agg (c_T_Tensor x1), .agg (c_T_Tensor x2)] (e11 r) := pureT mixed [(C12 fu).ct] (ids := [12]) rfl (by decide) i11 (C := noC) (ci := fun cp => noI) (fun cp ok => noI_ok) (fun cp H => w11 cp fu x1 x2 (u12 H.1)) h
/-! 6: lattice/latticelaw15.ConvColumns -/
def d6 : List (Nat × List Nat) := [(0, [0, 4]), (0, []), (0, [10]), (0, []), (0, [11, 12, 13, 14, 15, 16]), (0, []), (0, [1, 2, 17, 18, 19, 20, 21, 22]), (0, []), (0, [5, 6, 7, 8, 9, 23, 24, 25, 26, 27, 28, 29, 30, 31, 32, 33])]
def d6_at := by have h := tabL d6.eq_1; simp only [AllAt, Nat.zero_add, Nat.reduceAdd] at h; exact h
theorem i6 : finfo Tryz.prog 6 d6 = some ⟨bodyOf Tryz.f6, [.tmp 4], [4]⟩ := finfo_at Tryz.func6 rfl (by kernel_rfl) (by kernel_rfl)
def e6 : Bool → AV := fun r => .v (.bool r)
noncomputable def C7 : Cm Tryz.prog Unit Bool := ⟨7, fun _ => [], fun _ => some true, fun b => .v (.bool b), fun _ b h => by injection h with h; subst h; exact awake7, fun _ _ _ => rfl⟩
structure K8 (fu : Nat) (cp : CallP) : Prop where
 ap : ∀ {a0 : Int} {a1 : T_Setting} {a2 : List T_Tensor} {r}, conv_Do fu a0 a1 a2 = some r → cp 8 [.v (.int .i64 a0), .agg (c_T_Setting a1), .arr a2.length (fm c_T_Tensor a2)] = some (.tuple [.agg [.v (.int .i64 r.1.fType), .arr r.1.fDims.length (lm (ik .i64) r.1.fDims), .arr r.1.fF.length (lm (ik .u32) r.1.fF), .arr r.1.fI.length (lm (ik .i64) r.1.fI), .arr r.1.fB.length (lm (bk) r.1.fB)], .v (.int .i64 r.2)])
noncomputable def C8 (fu : Nat) : Cm Tryz.prog (Int × T_Setting × (List T_Tensor)) (T_Tensor × Int) := ⟨8, fun t => [.v (.int .i64 t.1), .agg (c_T_Setting t.2.1), .arr t.2.2.length (fm c_T_Tensor t.2.2)], fun t => conv_Do fu t.1 t.2.1 t.2.2, e8, fun t b h => ok8 fu t.1 t.2.1 t.2.2  b h, Zi⟩
theorem u8 {fu : Nat} {cp : CallP} (H : Hit cp (C8 fu).ct) : K8 fu cp := ⟨fun {a0 a1 a2 r} h => (C8 fu).at H (a0, a1, a2) r h⟩
structure K17 (fu : Nat) (cp : CallP) : Prop where
 ap : ∀ {a0 : T_Setting} {a1 : List T_Tensor} {r}, conv_Columns fu a0 a1 = some r → cp 17 [.agg (c_T_Setting a0), .arr a1.length (fm c_T_Tensor a1)] = some (.tuple [.agg [.v (.int .i64 r.1.fType), .fresh 1 r.1.fDims.length (lm (ik .i64) r.1.fDims), .fresh 1 r.1.fF.length (lm (ik .u32) r.1.fF), .fresh 1 r.1.fI.length (lm (ik .i64) r.1.fI), .fresh 1 r.1.fB.length (lm (bk) r.1.fB)], .v (.int .i64 r.2)])
noncomputable def C17 (fu : Nat) : Cm Tryz.prog (T_Setting × (List T_Tensor)) (T_Tensor × Int) := ⟨17, fun t => [.agg (c_T_Setting t.1), .arr t.2.length (fm c_T_Tensor t.2)], fun t => conv_Columns fu t.1 t.2, e17, fun t b h => ok17 fu t.1 t.2  b h, Zi⟩
theorem u17 {fu : Nat} {cp : CallP} (H : Hit cp (C17 fu).ct) : K17 fu cp := ⟨fun {a0 a1 r} h => (C17 fu).at H (a0, a1) r h⟩
structure K11 (fu : Nat) (cp : CallP) : Prop where
 ap : ∀ {a0 : T_Tensor} {a1 : T_Tensor} {r}, ref05_Same fu a0 a1 = some r → cp 11 [.agg (c_T_Tensor a0), .agg (c_T_Tensor a1)] = some (.v (.bool r))
noncomputable def C11 (fu : Nat) : Cm Tryz.prog (T_Tensor × T_Tensor) Bool := ⟨11, fun t => [.agg (c_T_Tensor t.1), .agg (c_T_Tensor t.2)], fun t => ref05_Same fu t.1 t.2, e11, fun t b h => ok11 fu t.1 t.2  b h, Zi⟩
theorem u11 {fu : Nat} {cp : CallP} (H : Hit cp (C11 fu).ct) : K11 fu cp := ⟨fun {a0 a1 r} h => (C11 fu).at H (a0, a1) r h⟩
set_option maxHeartbeats 20000000 in
theorem w6 (cp : CallP) (fu : Nat) (x1 : T_Setting) (x2 : List T_Tensor) (H1 : cp 7 [] = some (.v (.bool true))) (H2 : K8 fu cp) (H3 : K17 fu cp) (H4 : K11 fu cp) : J (go Tryz.prog noCs cp noI 0 [] d6 fu (fin Tryz.prog [.tmp 4] [4]) (bodyOf Tryz.f6) (initE 0 [.agg (c_T_Setting x1), .arr x2.length (fm c_T_Tensor x2)]) [] []) (law15_ConvColumns fu x1 x2) e6 := by
 unfold law15_ConvColumns e6
 conv => arg 1; simp only [bodyOf, Tryz.f6]
 have z0 := d6_at
 have z1 := @aop_callC
 have z2 := @aq_callC
 exact Wk
theorem ok6 (fu : Nat) (x1 : T_Setting) (x2 : List T_Tensor) (r) (h : law15_ConvColumns fu x1 x2 = some r) : PureOK Tryz.prog 6 [.agg (c_T_Setting x1), .arr x2.length (fm c_T_Tensor x2)] (e6 r) := pureT mixed [C7.ct, (C8 fu).ct, (C17 fu).ct, (C11 fu).ct] (ids := [7, 8, 17, 11]) rfl (by decide) i6 (C := noCs) (ci := fun cp => noI) (fun cp ok => noI_ok) (fun cp H => w6 cp fu x1 x2 (C7.at H.1 () true rfl) (u8 H.2.1) (u17 H.2.2.1) (u11 H.2.2.2.1)) h
end Go.Av
