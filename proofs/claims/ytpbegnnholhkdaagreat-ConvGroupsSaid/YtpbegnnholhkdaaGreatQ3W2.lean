/- The walks of the plain functions, part 2. Made by a program of mine. Conditions: none. -/
import Derived.Test.YtpbegnnholhkdaaGreatQ3W1
set_option linter.unusedVariables false
set_option linter.unusedSimpArgs false
set_option linter.defProp false
set_option maxRecDepth 20000
open Go Go.Proofs
namespace Go.Av
open Aw (d19 d20 d21 d30 d32 d33 d34 d35 d36 d37 d38 d39 d40 d41 d42 d57 d58 d59 d60 d61 d62 d63 d64 d65 d66 d67 d68 d69 d71 d72 d73 d77 d78 d79 d80 d81 d82 d83 d84 d85 d87 d88 d89 d90 d91 d99 d102 d103 d104 d106 d107 d108 d109 d111 d112 d113 d117 d118 d119 d120 d142 d144 d149 d156)
/-! 8: lattice/conv.Do -/
open Aw (d8)
def d8_at := by have h := tabL Aw.d8.eq_1; simp only [AllAt, Nat.zero_add, Nat.reduceAdd] at h; exact h
theorem i8 : finfo Tryz.prog 8 d8 = some ⟨bodyOf Tryz.f8, [.cell 6 28, .tmp 7], [28, 32]⟩ := finfo_at Tryz.func8 rfl (by kernel_rfl) (by kernel_rfl)
def e8 : (T_Tensor × Int) → AV := fun r => .tuple [.agg [.v (.int .i64 r.1.fType), .arr r.1.fDims.length (lm (ik .i64) r.1.fDims), .arr r.1.fF.length (lm (ik .u32) r.1.fF), .arr r.1.fI.length (lm (ik .i64) r.1.fI), .arr r.1.fB.length (lm (bk) r.1.fB)], .v (.int .i64 r.2)]
structure K34 (fu : Nat) (cp : CallP) : Prop where
 ap : ∀ {a0 : Int} {r}, conv_Has fu a0 = some r → cp 34 [.v (.int .i64 a0)] = some (.v (.bool r))
noncomputable def C34 (fu : Nat) : Cm Tryz.prog Int Bool := ⟨34, fun t => [.v (.int .i64 t)], fun t => conv_Has fu t, e34, fun t b h => ok34 fu t  b h, Zi⟩
theorem u34 {fu : Nat} {cp : CallP} (H : Hit cp (C34 fu).ct) : K34 fu cp := ⟨fun {a0 r} h => (C34 fu).at H a0 r h⟩
structure K36 (fu : Nat) (cp : CallP) : Prop where
 ap : ∀ {a0 : T_Tensor} {r}, tens_Canon fu a0 = some r → cp 36 [.agg (c_T_Tensor a0)] = some (.agg [.v (.int .i64 r.fType), .fresh 1 r.fDims.length (lm (ik .i64) r.fDims), .fresh 1 r.fF.length (lm (ik .u32) r.fF), .fresh 1 r.fI.length (lm (ik .i64) r.fI), .fresh 1 r.fB.length (lm (bk) r.fB)])
noncomputable def C36 (fu : Nat) : Cm Tryz.prog T_Tensor T_Tensor := ⟨36, fun t => [.agg (c_T_Tensor t)], fun t => tens_Canon fu t, e36, fun t b h => ok36 fu t  b h, Zi⟩
theorem u36 {fu : Nat} {cp : CallP} (H : Hit cp (C36 fu).ct) : K36 fu cp := ⟨fun {a0 r} h => (C36 fu).at H a0 r h⟩
structure K38 (fu : Nat) (cp : CallP) : Prop where
 ap : ∀ {a0 : List T_Tensor} {r}, ewise_Vals fu a0 = some r → cp 38 [.arr a0.length (fm c_T_Tensor a0)] = some (.arr r.length (fm c_T_Val r))
noncomputable def C38 (fu : Nat) : Cm Tryz.prog (List T_Tensor) (List T_Val) := ⟨38, fun t => [.arr t.length (fm c_T_Tensor t)], fun t => ewise_Vals fu t, e38, fun t b h => ok38 fu t  b h, Zi⟩
theorem u38 {fu : Nat} {cp : CallP} (H : Hit cp (C38 fu).ct) : K38 fu cp := ⟨fun {a0 r} h => (C38 fu).at H a0 r h⟩
structure K37 (fu : Nat) (cp : CallP) : Prop where
 ap : ∀ {a0 : Int} {a1 : T_Setting} {a2 : List T_Val} {a3 : Int} {r}, infer_Node fu a0 a1 a2 a3 = some r → cp 37 [.v (.int .i64 a0), .agg (c_T_Setting a1), .arr a2.length (fm c_T_Val a2), .v (.int .i64 a3)] = some (.tuple [.arr r.1.length (fm c_T_Val r.1), .v (.int .i64 r.2)])
noncomputable def C37 (fu : Nat) : Cm Tryz.prog (Int × T_Setting × (List T_Val) × Int) ((List T_Val) × Int) := ⟨37, fun t => [.v (.int .i64 t.1), .agg (c_T_Setting t.2.1), .arr t.2.2.1.length (fm c_T_Val t.2.2.1), .v (.int .i64 t.2.2.2)], fun t => infer_Node fu t.1 t.2.1 t.2.2.1 t.2.2.2, e37, fun t b h => ok37 fu t.1 t.2.1 t.2.2.1 t.2.2.2  b h, Zi⟩
theorem u37 {fu : Nat} {cp : CallP} (H : Hit cp (C37 fu).ct) : K37 fu cp := ⟨fun {a0 a1 a2 a3 r} h => (C37 fu).at H (a0, a1, a2, a3) r h⟩
structure K32 (fu : Nat) (cp : CallP) : Prop where
 ap : ∀ {a0 : T_Setting} {a1 : Int} {a2 : Int} {a3 : Int} {r}, conv_axisOf fu a0 a1 a2 a3 = some r → cp 32 [.agg (c_T_Setting a0), .v (.int .i64 a1), .v (.int .i64 a2), .v (.int .i64 a3)] = some (.tuple [.agg [.v (.int .i64 r.1.fsize), .v (.int .i64 r.1.fkernel), .v (.int .i64 r.1.fstride), .v (.int .i64 r.1.fdilation), .v (.int .i64 r.1.fahead), .v (.int .i64 r.1.fwindows)], .v (.int .i64 r.2)])
noncomputable def C32 (fu : Nat) : Cm Tryz.prog (T_Setting × Int × Int × Int) (T_conv_axis × Int) := ⟨32, fun t => [.agg (c_T_Setting t.1), .v (.int .i64 t.2.1), .v (.int .i64 t.2.2.1), .v (.int .i64 t.2.2.2)], fun t => conv_axisOf fu t.1 t.2.1 t.2.2.1 t.2.2.2, e32, fun t b h => ok32 fu t.1 t.2.1 t.2.2.1 t.2.2.2  b h, Zi⟩
theorem u32 {fu : Nat} {cp : CallP} (H : Hit cp (C32 fu).ct) : K32 fu cp := ⟨fun {a0 a1 a2 a3 r} h => (C32 fu).at H (a0, a1, a2, a3) r h⟩
structure K39 (fu : Nat) (cp : CallP) : Prop where
 ap : ∀ {a0 : Int} {a1 : List Int} {r}, tens_New fu a0 a1 = some r → cp 39 [.v (.int .i64 a0), .arr a1.length (lm (ik .i64) a1)] = some (.tuple [.agg [.v (.int .i64 r.1.fType), .fresh 1 r.1.fDims.length (lm (ik .i64) r.1.fDims), .fresh 1 r.1.fF.length (lm (ik .u32) r.1.fF), .fresh 1 r.1.fI.length (lm (ik .i64) r.1.fI), .fresh 1 r.1.fB.length (lm (bk) r.1.fB)], .v (.int .i64 r.2)])
noncomputable def C39 (fu : Nat) : Cm Tryz.prog (Int × (List Int)) (T_Tensor × Int) := ⟨39, fun t => [.v (.int .i64 t.1), .arr t.2.length (lm (ik .i64) t.2)], fun t => tens_New fu t.1 t.2, e39, fun t b h => ok39 fu t.1 t.2  b h, Zi⟩
theorem u39 {fu : Nat} {cp : CallP} (H : Hit cp (C39 fu).ct) : K39 fu cp := ⟨fun {a0 a1 r} h => (C39 fu).at H (a0, a1) r h⟩
structure K40 (fu : Nat) (cp : CallP) : Prop where
 ap : ∀ {a0 : List Int} {a1 : Int} {r}, shape_Index fu a0 a1 = some r → cp 40 [.arr a0.length (lm (ik .i64) a0), .v (.int .i64 a1)] = some (.tuple [.fresh 1 r.1.length (lm (ik .i64) r.1), .v (.int .i64 r.2)])
noncomputable def C40 (fu : Nat) : Cm Tryz.prog ((List Int) × Int) ((List Int) × Int) := ⟨40, fun t => [.arr t.1.length (lm (ik .i64) t.1), .v (.int .i64 t.2)], fun t => shape_Index fu t.1 t.2, e40, fun t b h => ok40 fu t.1 t.2  b h, Zi⟩
theorem u40 {fu : Nat} {cp : CallP} (H : Hit cp (C40 fu).ct) : K40 fu cp := ⟨fun {a0 a1 r} h => (C40 fu).at H (a0, a1) r h⟩
structure K21 (fu : Nat) (cp : CallP) : Prop where
 ap : ∀ {a0 : T_conv_work} {a1 : Int} {a2 : Int} {a3 : Int} {a4 : Int} {r}, conv_work_sum fu a0 a1 a2 a3 a4 = some r → cp 21 [.ref (c_T_conv_work a0) 0, .v (.int .i64 a1), .v (.int .i64 a2), .v (.int .i64 a3), .v (.int .i64 a4)] = some (.v (.int .u32 r))
noncomputable def C21 (fu : Nat) : Cm Tryz.prog (T_conv_work × Int × Int × Int × Int) Int := ⟨21, fun t => [.ref (c_T_conv_work t.1) 0, .v (.int .i64 t.2.1), .v (.int .i64 t.2.2.1), .v (.int .i64 t.2.2.2.1), .v (.int .i64 t.2.2.2.2)], fun t => conv_work_sum fu t.1 t.2.1 t.2.2.1 t.2.2.2.1 t.2.2.2.2, e21, fun t b h => ok21 fu t.1 t.2.1 t.2.2.1 t.2.2.2.1 t.2.2.2.2  b h, Zi⟩
theorem u21 {fu : Nat} {cp : CallP} (H : Hit cp (C21 fu).ct) : K21 fu cp := ⟨fun {a0 a1 a2 a3 a4 r} h => (C21 fu).at H (a0, a1, a2, a3, a4) r h⟩
def conv_Do.m1 : LJ 1 6 Unit ((List Int) × Int) := ⟨fun r s e => [(0, er e 0), (1, er e 1), (4, er e 4), (5, er e 5), (20, er e 20), (21, .v (.int .i64 s.2))], fun r s h => [((0, 6, 0), hr h (0, 6, 0)), ((1, 21, 0), hr h (1, 21, 0)), ((1, 8, 114), hr h (1, 8, 114)), ((2, 4, 0), hr h (2, 4, 0)), ((2, 15, 0), hr h (2, 15, 0)), ((2, 15, 1), .sl true true 1 s.1.length (lm (ik .u32) s.1)), ((2, 15, 2), hr h (2, 15, 2)), ((2, 15, 3), hr h (2, 15, 3)), ((2, 5, 0), bs (hr h (2, 5, 0)) 2 (.own (2, 15, 1) 0 s.1.length s.1.length))]⟩
def conv_Do.m2 : LJ 2 10 Unit ((List T_Tensor) × Int) := ⟨fun r s e => [(0, er e 0), (2, er e 2), (4, er e 4), (8, er e 8), (22, er e 22), (23, er e 23), (24, .v (.int .i64 s.2))], fun r s h => [((0, 4, 0), hr h (0, 4, 0)), ((0, 6, 0), hr h (0, 6, 0)), ((1, 4, 0), hr h (1, 4, 0)), ((1, 21, 0), bs (hr h (1, 21, 0)) 36 (.own (1, 8, 114) 0 s.1.length s.1.length)), ((1, 8, 114), .sl true true 5 s.1.length (fm c_T_Tensor s.1))]⟩
def conv_Do.j1 : LJ 1 26 Unit (List T_Tensor) := ⟨fun r t e => [(0, er e 0), (2, er e 2), (4, er e 4), (8, er e 8)], fun r t h => [((0, 4, 0), hr h (0, 4, 0)), ((0, 6, 0), hr h (0, 6, 0)), ((1, 4, 0), hr h (1, 4, 0)), ((1, 21, 0), bs (hr h (1, 21, 0)) 36 (.own (1, 8, 114) 0 t.length t.length)), ((1, 8, 114), .sl true true 5 t.length (fm c_T_Tensor t))]⟩
set_option maxHeartbeats 400000000 in
open conv_Do in
theorem w8 (cp : CallP) (fu : Nat) (x1 : Int) (x2 : T_Setting) (x3 : List T_Tensor) (H1 : K34 fu cp) (H2 : K35 fu cp) (H3 : K36 fu cp) (H4 : K38 fu cp) (H5 : K37 fu cp) (H6 : K32 fu cp) (H7 : K39 fu cp) (H8 : K40 fu cp) (H9 : K21 fu cp) (H10 : K41 fu cp) : J (go Tryz.prog (inlC [19, 20]) cp (ciE Tryz.prog (inlC [19, 20]) cp (ciE Tryz.prog (inlC [19, 20]) cp noI fu 20 d20 ⟨b20, [.cell 4 28], [28]⟩ noI) fu 19 d19 ⟨b19, [.tmp 6, .tmp 7], [49, 32]⟩ (ciE Tryz.prog (inlC [19, 20]) cp noI fu 20 d20 ⟨b20, [.cell 4 28], [28]⟩ noI)) 0 [] d8 fu (finS Tryz.prog [.cell 6 28, .tmp 7] [28, 32]) (bodyOf Tryz.f8) (initE 0 [.v (.int .i64 x1), .agg (c_T_Setting x2), .arr x3.length (fm c_T_Tensor x3)]) [] []) (conv_Do fu x1 x2 x3) e8 := by
 unfold conv_Do e8
 conv => arg 1; simp only [bodyOf, Tryz.f8]
 have z0 := d8_at
 have z1 := SE
 have z2 := RL
 have z3 := d19_at
 have z4 := Tryz.f19.eq_1
 have z5 := @go_b19
 have z6 := d20_at
 have z7 := Tryz.f20.eq_1
 have z8 := @go_b20
 have z9 := RI
 have z10 := RIk
 have z11 := @bodyOf.eq_1
 exact Wk
theorem ok8 (fu : Nat) (x1 : Int) (x2 : T_Setting) (x3 : List T_Tensor) (r) (h : conv_Do fu x1 x2 x3 = some r) : PureOK Tryz.prog 8 [.v (.int .i64 x1), .agg (c_T_Setting x2), .arr x3.length (fm c_T_Tensor x3)] (e8 r) := pureST mixed [(C34 fu).ct, (C35 fu).ct, (C36 fu).ct, (C38 fu).ct, (C37 fu).ct, (C32 fu).ct, (C39 fu).ct, (C40 fu).ct, (C21 fu).ct, (C41 fu).ct] (ids := [34, 35, 36, 38, 37, 32, 39, 40, 21, 41]) rfl (by decide) i8 (C := (inlC [19, 20])) (ci := fun cp => (ciE Tryz.prog (inlC [19, 20]) cp (ciE Tryz.prog (inlC [19, 20]) cp noI fu 20 d20 ⟨b20, [.cell 4 28], [28]⟩ noI) fu 19 d19 ⟨b19, [.tmp 6, .tmp 7], [49, 32]⟩ (ciE Tryz.prog (inlC [19, 20]) cp noI fu 20 d20 ⟨b20, [.cell 4 28], [28]⟩ noI))) (fun cp ok => (ciE_ok mixed ok (ciE_ok mixed ok noI_ok i20 noI_ok) i19 (ciE_ok mixed ok noI_ok i20 noI_ok))) (fun cp H => w8 cp fu x1 x2 x3 (u34 H.1) (u35 H.2.1) (u36 H.2.2.1) (u38 H.2.2.2.1) (u37 H.2.2.2.2.1) (u32 H.2.2.2.2.2.1) (u39 H.2.2.2.2.2.2.1) (u40 H.2.2.2.2.2.2.2.1) (u21 H.2.2.2.2.2.2.2.2.1) (u41 H.2.2.2.2.2.2.2.2.2.1)) h
/-! 9: lattice/latticelaw15.floats -/
open Aw (d9)
def d9_at := by have h := tabL Aw.d9.eq_1; simp only [AllAt, Nat.zero_add, Nat.reduceAdd] at h; exact h
theorem i9 : finfo Tryz.prog 9 d9 = some ⟨bodyOf Tryz.f9, [.cell 4 28], [28]⟩ := finfo_at Tryz.func9 rfl (by kernel_rfl) (by kernel_rfl)
def e9 : T_Tensor → AV := fun r => .agg [.v (.int .i64 r.fType), .arr r.fDims.length (lm (ik .i64) r.fDims), .arr r.fF.length (lm (ik .u32) r.fF), .arr r.fI.length (lm (ik .i64) r.fI), .arr r.fB.length (lm (bk) r.fB)]
set_option maxHeartbeats 20000000 in
theorem w9 (cp : CallP) (fu : Nat) (x1 : List Int) (x2 : List Int)  : J (go Tryz.prog noC cp noI 0 [] d9 fu (finS Tryz.prog [.cell 4 28] [28]) (bodyOf Tryz.f9) (initE 0 [.arr x1.length (lm (ik .i64) x1), .arr x2.length (lm (ik .u32) x2)]) [] []) (law15_floats fu x1 x2) e9 := by
 unfold law15_floats e9
 conv => arg 1; simp only [bodyOf, Tryz.f9]
 have z0 := d9_at
 have z1 := SE
 exact Wk
theorem ok9 (fu : Nat) (x1 : List Int) (x2 : List Int) (r) (h : law15_floats fu x1 x2 = some r) : PureOK Tryz.prog 9 [.arr x1.length (lm (ik .i64) x1), .arr x2.length (lm (ik .u32) x2)] (e9 r) := pureST mixed [] (ids := []) rfl (by decide) i9 (C := noC) (ci := fun cp => noI) (fun cp ok => noI_ok) (fun cp H => w9 cp fu x1 x2 ) h
/-! 22: lattice/latticeref04.Size -/
def d22 : List (Nat × List Nat) := [(0, [2, 3]), (0, [6]), (0, []), (0, []), (0, [9, 10, 11]), (0, [0, 8]), (0, []), (0, []), (0, [12, 13, 14]), (0, []), (0, [16, 17]), (0, []), (0, [18, 19, 20, 21]), (0, []), (0, []), (0, []), (0, [23, 24, 25, 26, 27, 28, 29, 30]), (0, []), (0, [31, 32, 33, 34, 35, 36, 37, 38]), (0, []), (0, [5]), (0, []), (0, []), (0, []), (0, [4]), (0, []), (0, []), (0, []), (0, []), (0, []), (0, []), (0, []), (0, [41, 42, 43]), (0, []), (0, [45, 46]), (0, []), (0, [47, 48, 49, 50, 51, 52, 53, 54, 55, 56, 57, 58, 59]), (0, []), (0, []), (0, []), (0, [61, 62, 63, 64, 65, 66]), (0, []), (0, [7, 67])]
def d22_at := by have h := tabL d22.eq_1; simp only [AllAt, Nat.zero_add, Nat.reduceAdd] at h; exact h
theorem i22 : finfo Tryz.prog 22 d22 = some ⟨bodyOf Tryz.f22, [.tmp 2, .tmp 3], [3, 32]⟩ := finfo_at Tryz.func22 rfl (by kernel_rfl) (by kernel_rfl)
def e22 : (Int × Int) → AV := fun r => .tuple [.v (.int .i64 r.1), .v (.int .i64 r.2)]
def ref04_Size.j2 : LJ 2 40 Unit Unit := ⟨fun r t e => [(0, er e 0), (7, er e 7), (8, er e 8)], fun r t h => []⟩
def ref04_Size.m1 : LJ 1 32 Unit (Int × Int) := ⟨fun r s e => [(0, er e 0), (7, .v (.int .i64 s.1)), (8, .v (.int .i64 s.2))], fun r s h => []⟩
def ref04_Size.j3 : LJ 3 18 Unit Bool := ⟨fun r t e => [(0, er e 0), (4, .v (.bool t)), (5, er e 5), (6, er e 6)], fun r t h => []⟩
def ref04_Size.m2 : LJ 2 8 Unit (Bool × Bool × Int) := ⟨fun r s e => [(0, er e 0), (4, .v (.bool s.1)), (5, .v (.bool s.2.1)), (6, .v (.int .i64 s.2.2))], fun r s h => []⟩
def ref04_Size.j1 : LJ 1 20 Unit (Bool × Bool) := ⟨fun r t e => [(0, er e 0), (4, .v (.bool t.1)), (5, .v (.bool t.2))], fun r t h => []⟩
set_option maxHeartbeats 20000000 in
open ref04_Size in
theorem w22 (cp : CallP) (fu : Nat) (x1 : List Int)  : J (go Tryz.prog noC cp noI 0 [] d22 fu (fin Tryz.prog [.tmp 2, .tmp 3] [3, 32]) (bodyOf Tryz.f22) (initE 0 [.arr x1.length (lm (ik .i64) x1)]) [] []) (ref04_Size fu x1) e22 := by
 unfold ref04_Size e22
 conv => arg 1; simp only [bodyOf, Tryz.f22]
 have z0 := d22_at
 exact Wk
theorem ok22 (fu : Nat) (x1 : List Int) (r) (h : ref04_Size fu x1 = some r) : PureOK Tryz.prog 22 [.arr x1.length (lm (ik .i64) x1)] (e22 r) := pureT mixed [] (ids := []) rfl (by decide) i22 (C := noC) (ci := fun cp => noI) (fun cp ok => noI_ok) (fun cp H => w22 cp fu x1 ) h
/-! 23: lattice/latticeref04.Index -/
def d23 : List (Nat × List Nat) := [(0, [4, 5]), (0, [0, 1, 9]), (0, [10, 11, 12, 13, 14]), (0, []), (0, [15]), (0, []), (0, [17]), (0, []), (0, [6, 7, 18, 19, 20, 21, 22, 23]), (0, []), (0, []), (0, []), (0, [25, 26, 27]), (0, []), (0, [28, 29, 30]), (0, []), (0, [31]), (0, []), (0, [33, 34]), (0, []), (0, [35, 36, 37, 38, 39, 40, 41, 42, 43]), (0, []), (0, [44, 45, 46, 47, 48, 49]), (0, []), (0, [8, 50])]
def d23_at := by have h := tabL d23.eq_1; simp only [AllAt, Nat.zero_add, Nat.reduceAdd] at h; exact h
theorem i23 : finfo Tryz.prog 23 d23 = some ⟨bodyOf Tryz.f23, [.tmp 4, .tmp 5], [22, 32]⟩ := finfo_at Tryz.func23 rfl (by kernel_rfl) (by kernel_rfl)
def e23 : ((List Int) × Int) → AV := fun r => .tuple [.fresh 1 r.1.length (lm (ik .i64) r.1), .v (.int .i64 r.2)]
structure K22 (fu : Nat) (cp : CallP) : Prop where
 ap : ∀ {a0 : List Int} {r}, ref04_Size fu a0 = some r → cp 22 [.arr a0.length (lm (ik .i64) a0)] = some (.tuple [.v (.int .i64 r.1), .v (.int .i64 r.2)])
noncomputable def C22 (fu : Nat) : Cm Tryz.prog (List Int) (Int × Int) := ⟨22, fun t => [.arr t.length (lm (ik .i64) t)], fun t => ref04_Size fu t, e22, fun t b h => ok22 fu t  b h, Zi⟩
theorem u22 {fu : Nat} {cp : CallP} (H : Hit cp (C22 fu).ct) : K22 fu cp := ⟨fun {a0 r} h => (C22 fu).at H a0 r h⟩
def ref04_Index.m1 : LJ 1 16 Unit ((List Int) × Int × Int) := ⟨fun r s e => [(0, er e 0), (1, .v (.int .i64 s.2.1)), (8, .own (0, 27, 0) 0 s.1.length s.1.length), (9, .v (.int .i64 s.2.2))], fun r s h => [((0, 27, 0), .sl true true 1 s.1.length (lm (ik .i64) s.1))]⟩
def ref04_Index.j1 : LJ 1 12 Unit Unit := ⟨fun r t e => [(0, er e 0), (1, er e 1)], fun r t h => []⟩
set_option maxHeartbeats 20000000 in
open ref04_Index in
theorem w23 (cp : CallP) (fu : Nat) (x1 : List Int) (x2 : Int) (H1 : K22 fu cp) : J (go Tryz.prog noC cp noI 0 [] d23 fu (fin Tryz.prog [.tmp 4, .tmp 5] [22, 32]) (bodyOf Tryz.f23) (initE 0 [.arr x1.length (lm (ik .i64) x1), .v (.int .i64 x2)]) [] []) (ref04_Index fu x1 x2) e23 := by
 unfold ref04_Index e23
 conv => arg 1; simp only [bodyOf, Tryz.f23]
 have z0 := d23_at
 exact Wk
theorem ok23 (fu : Nat) (x1 : List Int) (x2 : Int) (r) (h : ref04_Index fu x1 x2 = some r) : PureOK Tryz.prog 23 [.arr x1.length (lm (ik .i64) x1), .v (.int .i64 x2)] (e23 r) := pureT mixed [(C22 fu).ct] (ids := [22]) rfl (by decide) i23 (C := noC) (ci := fun cp => noI) (fun cp ok => noI_ok) (fun cp H => w23 cp fu x1 x2 (u22 H.1)) h
/-! 24: lattice/latticeref04.Offset -/
def d24 : List (Nat × List Nat) := [(0, [4, 5]), (0, [0, 1, 9]), (0, [6, 10, 11, 12, 13, 14]), (0, []), (0, [15]), (0, []), (0, [17]), (0, []), (0, [7, 18, 19, 20, 21]), (0, []), (0, []), (0, []), (0, []), (0, []), (0, []), (0, []), (0, [23, 24, 25]), (0, []), (0, [27, 28]), (0, []), (16, [29, 30, 31, 32, 33, 34, 35, 36, 37, 38, 39, 40, 41, 42, 43]), (0, []), (0, []), (0, []), (12, [45, 46, 47, 48, 49, 50, 51, 52, 53, 54, 55]), (0, []), (0, [8, 56])]
def d24_at := by have h := tabL d24.eq_1; simp only [AllAt, Nat.zero_add, Nat.reduceAdd] at h; exact h
theorem i24 : finfo Tryz.prog 24 d24 = some ⟨bodyOf Tryz.f24, [.tmp 4, .tmp 5], [3, 32]⟩ := finfo_at Tryz.func24 rfl (by kernel_rfl) (by kernel_rfl)
def e24 : (Int × Int) → AV := fun r => .tuple [.v (.int .i64 r.1), .v (.int .i64 r.2)]
def ref04_Offset.j1 : LJ 1 24 Unit Unit := ⟨fun r t e => [(0, er e 0), (1, er e 1), (8, er e 8), (9, er e 9)], fun r t h => []⟩
def ref04_Offset.m1 : LJ 1 16 Unit (Int × Int) := ⟨fun r s e => [(0, er e 0), (1, er e 1), (8, .v (.int .i64 s.1)), (9, .v (.int .i64 s.2))], fun r s h => []⟩
set_option maxHeartbeats 20000000 in
open ref04_Offset in
theorem w24 (cp : CallP) (fu : Nat) (x1 : List Int) (x2 : List Int) (H1 : K22 fu cp) : J (go Tryz.prog noC cp noI 0 [] d24 fu (fin Tryz.prog [.tmp 4, .tmp 5] [3, 32]) (bodyOf Tryz.f24) (initE 0 [.arr x1.length (lm (ik .i64) x1), .arr x2.length (lm (ik .i64) x2)]) [] []) (ref04_Offset fu x1 x2) e24 := by
 unfold ref04_Offset e24
 conv => arg 1; simp only [bodyOf, Tryz.f24]
 have z0 := d24_at
 exact Wk
theorem ok24 (fu : Nat) (x1 : List Int) (x2 : List Int) (r) (h : ref04_Offset fu x1 x2 = some r) : PureOK Tryz.prog 24 [.arr x1.length (lm (ik .i64) x1), .arr x2.length (lm (ik .i64) x2)] (e24 r) := pureT mixed [(C22 fu).ct] (ids := [22]) rfl (by decide) i24 (C := noC) (ci := fun cp => noI) (fun cp ok => noI_ok) (fun cp H => w24 cp fu x1 x2 (u22 H.1)) h
/-! 74: lattice/latticeref05.Known -/
def d74 : List (Nat × List Nat) := [(0, [2]), (0, []), (0, [0, 3, 4, 5, 6, 7, 8, 9, 10, 11, 12])]
def d74_at := by have h := tabL d74.eq_1; simp only [AllAt, Nat.zero_add, Nat.reduceAdd] at h; exact h
theorem i74 : finfo Tryz.prog 74 d74 = some ⟨bodyOf Tryz.f74, [.tmp 2], [4]⟩ := finfo_at Tryz.func74 rfl (by kernel_rfl) (by kernel_rfl)
def e74 : Bool → AV := fun r => .v (.bool r)
set_option maxHeartbeats 20000000 in
theorem w74 (cp : CallP) (fu : Nat) (x1 : Int)  : J (go Tryz.prog noC cp noI 0 [] d74 fu (fin Tryz.prog [.tmp 2] [4]) (bodyOf Tryz.f74) (initE 0 [.v (.int .i64 x1)]) [] []) (ref05_Known fu x1) e74 := by
 unfold ref05_Known e74
 conv => arg 1; simp only [bodyOf, Tryz.f74]
 have z0 := d74_at
 exact Wk
theorem ok74 (fu : Nat) (x1 : Int) (r) (h : ref05_Known fu x1 = some r) : PureOK Tryz.prog 74 [.v (.int .i64 x1)] (e74 r) := pureT mixed [] (ids := []) rfl (by decide) i74 (C := noC) (ci := fun cp => noI) (fun cp ok => noI_ok) (fun cp H => w74 cp fu x1 ) h
/-! 43: lattice/latticeref05.Check -/
def d43 : List (Nat × List Nat) := [(0, [0, 2]), (0, [3, 22]), (0, [8, 9, 10]), (0, []), (0, []), (0, []), (0, [12, 13, 14, 15, 16, 17]), (0, []), (0, [18]), (0, []), (0, [20]), (0, []), (0, [4]), (0, []), (0, []), (0, []), (0, []), (0, []), (0, [21]), (0, []), (0, [23]), (0, []), (0, [25]), (0, []), (0, [26]), (0, []), (0, [28]), (0, []), (0, [29]), (0, []), (0, [1, 5, 6, 7, 30, 31, 32, 33, 34, 35, 36, 37, 38, 39, 40, 41, 42, 43, 44, 45, 46, 47]), (0, []), (0, []), (0, []), (0, [])]
def d43_at := by have h := tabL d43.eq_1; simp only [AllAt, Nat.zero_add, Nat.reduceAdd] at h; exact h
theorem i43 : finfo Tryz.prog 43 d43 = some ⟨bodyOf Tryz.f43, [.tmp 2], [32]⟩ := finfo_at Tryz.func43 rfl (by kernel_rfl) (by kernel_rfl)
def e43 : Int → AV := fun r => .v (.int .i64 r)
structure K74 (fu : Nat) (cp : CallP) : Prop where
 ap : ∀ {a0 : Int} {r}, ref05_Known fu a0 = some r → cp 74 [.v (.int .i64 a0)] = some (.v (.bool r))
noncomputable def C74 (fu : Nat) : Cm Tryz.prog Int Bool := ⟨74, fun t => [.v (.int .i64 t)], fun t => ref05_Known fu t, e74, fun t b h => ok74 fu t  b h, Zi⟩
theorem u74 {fu : Nat} {cp : CallP} (H : Hit cp (C74 fu).ct) : K74 fu cp := ⟨fun {a0 r} h => (C74 fu).at H a0 r h⟩
def ref05_Check.j1 : LJ 1 30 Unit (Int × Int × Int) := ⟨fun r t e => [(1, er e 1), (5, .v (.int .i64 t.1)), (6, .v (.int .i64 t.2.1)), (7, .v (.int .i64 t.2.2))], fun r t h => [((0, 1, 0), hr h (0, 1, 0))]⟩
set_option maxHeartbeats 20000000 in
open ref05_Check in
theorem w43 (cp : CallP) (fu : Nat) (x1 : T_Tensor) (H1 : K74 fu cp) (H2 : K22 fu cp) : J (go Tryz.prog noC cp noI 0 [] d43 fu (fin Tryz.prog [.tmp 2] [32]) (bodyOf Tryz.f43) (initE 0 [.agg (c_T_Tensor x1)]) [] []) (ref05_Check fu x1) e43 := by
 unfold ref05_Check e43
 conv => arg 1; simp only [bodyOf, Tryz.f43]
 have z0 := d43_at
 exact Wk
theorem ok43 (fu : Nat) (x1 : T_Tensor) (r) (h : ref05_Check fu x1 = some r) : PureOK Tryz.prog 43 [.agg (c_T_Tensor x1)] (e43 r) := pureT mixed [(C74 fu).ct, (C22 fu).ct] (ids := [74, 22]) rfl (by decide) i43 (C := noC) (ci := fun cp => noI) (fun cp ok => noI_ok) (fun cp H => w43 cp fu x1 (u74 H.1) (u22 H.2.1)) h
/-! 44: lattice/latticeref05.New -/
def d44 : List (Nat × List Nat) := [(0, [5]), (0, [6, 29]), (0, [9, 10]), (0, []), (0, [12]), (0, []), (0, [13, 14, 15, 16, 17]), (0, []), (0, [18]), (0, []), (0, [20, 21]), (0, []), (0, [7, 22, 23]), (0, []), (0, [1, 24, 25, 26, 27, 28]), (0, []), (0, [0]), (0, []), (0, [30, 31, 32]), (0, []), (0, [34]), (0, []), (0, [35, 36, 37]), (0, []), (0, [39]), (0, []), (0, [40, 41, 42]), (0, []), (0, [8, 43])]
def d44_at := by have h := tabL d44.eq_1; simp only [AllAt, Nat.zero_add, Nat.reduceAdd] at h; exact h
theorem i44 : finfo Tryz.prog 44 d44 = some ⟨bodyOf Tryz.f44, [.cell 4 28, .tmp 5], [28, 32]⟩ := finfo_at Tryz.func44 rfl (by kernel_rfl) (by kernel_rfl)
def e44 : (T_Tensor × Int) → AV := fun r => .tuple [.agg [.v (.int .i64 r.1.fType), .fresh 1 r.1.fDims.length (lm (ik .i64) r.1.fDims), .fresh 1 r.1.fF.length (lm (ik .u32) r.1.fF), .fresh 1 r.1.fI.length (lm (ik .i64) r.1.fI), .fresh 1 r.1.fB.length (lm (bk) r.1.fB)], .v (.int .i64 r.2)]
set_option maxHeartbeats 20000000 in
theorem w44 (cp : CallP) (fu : Nat) (x1 : Int) (x2 : List Int) (H1 : K74 fu cp) (H2 : K22 fu cp) : J (go Tryz.prog noC cp noI 0 [] d44 fu (fin Tryz.prog [.cell 4 28, .tmp 5] [28, 32]) (bodyOf Tryz.f44) (initE 0 [.v (.int .i64 x1), .arr x2.length (lm (ik .i64) x2)]) [] []) (ref05_New fu x1 x2) e44 := by
 unfold ref05_New e44
 conv => arg 1; simp only [bodyOf, Tryz.f44]
 have z0 := d44_at
 exact Wk
theorem ok44 (fu : Nat) (x1 : Int) (x2 : List Int) (r) (h : ref05_New fu x1 x2 = some r) : PureOK Tryz.prog 44 [.v (.int .i64 x1), .arr x2.length (lm (ik .i64) x2)] (e44 r) := pureT mixed [(C74 fu).ct, (C22 fu).ct] (ids := [74, 22]) rfl (by decide) i44 (C := noC) (ci := fun cp => noI) (fun cp ok => noI_ok) (fun cp H => w44 cp fu x1 x2 (u74 H.1) (u22 H.2.1)) h
/-! 45: lattice/latticeref05.Put -/
def d45 : List (Nat × List Nat) := [(0, [0, 2]), (0, [1, 3, 4, 6, 9]), (0, [8]), (0, []), (9, [10, 11, 12, 13, 14, 15, 16, 17, 18]), (0, []), (0, [20]), (0, []), (9, [21, 22, 23, 24, 25, 26, 27, 28, 29]), (0, []), (0, [31]), (0, []), (9, [32, 33, 34, 35, 36, 37, 38, 39, 40])]
def d45_at := by have h := tabL d45.eq_1; simp only [AllAt, Nat.zero_add, Nat.reduceAdd] at h; exact h
noncomputable def b45 : Code := bodyOf Tryz.f45
theorem go_b45 {C : Cfg} {cp : CallP} {ci : CallI} {lvl : Nat} {prot : List Id} {D : List (Nat × List Nat)} {n : Nat} {K : KK} {e : Env} {h : Heap} {fs : List Fr} : go Tryz.prog C cp ci lvl prot D n K b45 e h fs = go Tryz.prog C cp ci lvl prot D n K (bodyOf Tryz.f45) e h fs := rfl
theorem i45 : finfo Tryz.prog 45 d45 = some ⟨b45, [], []⟩ := finfo_at Tryz.func45 rfl (by kernel_rfl) (by kernel_rfl)
/-! 25: lattice/latticeref05.Pick -/
def d25 : List (Nat × List Nat) := [(0, [0, 7]), (0, [2, 3, 11, 13, 14]), (0, [15, 16]), (0, []), (0, [17]), (0, []), (0, [19, 20]), (0, []), (0, [8, 21, 22, 23, 24, 25, 26, 27]), (0, []), (0, [28]), (0, []), (0, [30, 31]), (0, []), (0, [1, 10, 12, 32, 33, 34, 35, 36]), (0, []), (0, [37, 38, 39, 40, 41, 42, 43, 44, 45, 46, 47]), (0, []), (0, [48, 49, 50]), (0, []), (0, [52]), (0, []), (0, []), (0, []), (0, [53, 54]), (0, []), (0, [56, 57]), (0, []), (0, [58, 59, 60, 61, 62, 63, 64, 65, 66, 67, 68, 69]), (0, []), (0, [71]), (0, []), (0, [72, 73, 74, 75]), (0, []), (7, [77, 78, 79, 80, 81, 82, 83, 84]), (0, []), (0, [9, 85])]
def d25_at := by have h := tabL d25.eq_1; simp only [AllAt, Nat.zero_add, Nat.reduceAdd] at h; exact h
theorem i25 : finfo Tryz.prog 25 d25 = some ⟨bodyOf Tryz.f25, [.cell 6 28, .tmp 7], [28, 32]⟩ := finfo_at Tryz.func25 rfl (by kernel_rfl) (by kernel_rfl)
def e25 : (T_Tensor × Int) → AV := fun r => .tuple [.agg [.v (.int .i64 r.1.fType), .fresh 1 r.1.fDims.length (lm (ik .i64) r.1.fDims), .fresh 1 r.1.fF.length (lm (ik .u32) r.1.fF), .fresh 1 r.1.fI.length (lm (ik .i64) r.1.fI), .fresh 1 r.1.fB.length (lm (bk) r.1.fB)], .v (.int .i64 r.2)]
set_option maxHeartbeats 20000000 in
theorem w25 (cp : CallP) (fu : Nat) (x1 : T_Tensor) (x2 : List Int) (x3 : List Int) (H43_0 : ∀ (a0 : T_Tensor) r, ref05_Check fu a0 = some r → cp 43 [.agg (c_T_Tensor a0)] = some (.v (.int .i64 r))) (H44_0 : ∀ (a0 : Int) (a1 : List Int) r, ref05_New fu a0 a1 = some r → cp 44 [.v (.int .i64 a0), .arr a1.length (lm (ik .i64) a1)] = some (.tuple [.agg [.v (.int .i64 r.1.fType), .fresh 1 r.1.fDims.length (lm (ik .i64) r.1.fDims), .fresh 1 r.1.fF.length (lm (ik .u32) r.1.fF), .fresh 1 r.1.fI.length (lm (ik .i64) r.1.fI), .fresh 1 r.1.fB.length (lm (bk) r.1.fB)], .v (.int .i64 r.2)])) (H22_0 : ∀ (a0 : List Int) r, ref04_Size fu a0 = some r → cp 22 [.arr a0.length (lm (ik .i64) a0)] = some (.tuple [.v (.int .i64 r.1), .v (.int .i64 r.2)])) : J (go Tryz.prog (inlC [45]) cp (ciE Tryz.prog (inlC [45]) cp noI fu 45 d45 ⟨b45, [], []⟩ noI) 0 [] d25 fu (fin Tryz.prog [.cell 6 28, .tmp 7] [28, 32]) (bodyOf Tryz.f25) (initE 0 [.agg (c_T_Tensor x1), .arr x2.length (lm (ik .i64) x2), .arr x3.length (lm (ik .i64) x3)]) [] []) (ref05_Pick fu x1 x2 x3) e25 := by
 unfold ref05_Pick e25
 refine J.bind fun x4 h1 => ?_
 have e_h1 := H43_0 _ _ h1
 try simp only [NN, NT, LN, simprocAttr, DT] at e_h1
 conv => arg 1; simp (disch := first | exact Zd | fail) only [bodyOf, Tryz.f25, ZZ, d25_at, simprocAttr, RI, RIk, initE, e_h1]
 refine J.eq go_seq ?_
 conv => arg 1; simp (disch := first | exact Zd | fail) only [ZZ, d25_at, simprocAttr, RI, RIk, initE, e_h1]
 refine J.ite (fun h2 => ?_) (fun h2 => ?_)
 ·have h2' := decide_eq_true h2
  conv => arg 1; simp (disch := first | exact Zd | fail) only [ZZ, d25_at, simprocAttr, RI, RIk, initE, e_h1, h2']
  refine J.eq ret_seq ?_
  refine J.bind fun x5 h3 => ?_
  have e_h3 := H44_0 _ _ _ h3
  try simp only [NN, NT, LN, simprocAttr, DT] at e_h3
  conv => arg 1; simp (disch := first | exact Zd | fail) only [ZZ, d25_at, simprocAttr, RI, RIk, initE, e_h1, h2', e_h3]
  refine J.eq go_seq ?_
  conv => arg 1; simp (disch := first | exact Zd | fail) only [ZZ, d25_at, simprocAttr, RI, RIk, initE, e_h1, h2', e_h3]
  refine J.ite (fun h4 => ?_) (fun h4 => ?_)
  ·have h4' := decide_eq_true h4
   conv => arg 1; simp (disch := first | exact Zd | fail) only [ZZ, d25_at, simprocAttr, RI, RIk, initE, e_h1, h2', e_h3, h4']
   refine J.eq ret_seq ?_
   refine J.bind fun x6 h5 => ?_
   have e_h5 := H22_0 _ _ h5
   try simp only [NN, NT, LN, simprocAttr, DT] at e_h5
   conv => arg 1; simp (disch := first | exact Zd | fail) only [ZZ, d25_at, simprocAttr, RI, RIk, initE, e_h1, h2', e_h3, h4', e_h5]
   refine J.eq go_seq ?_
   conv => arg 1; simp (disch := first | exact Zd | fail) only [ZZ, d25_at, simprocAttr, RI, RIk, initE, e_h1, h2', e_h3, h4', e_h5]
   refine J.ite (fun h6 => ?_) (fun h6 => ?_)
   ·have h6' := decide_eq_true h6
    conv => arg 1; simp (disch := first | exact Zd | fail) only [ZZ, d25_at, simprocAttr, RI, RIk, initE, e_h1, h2', e_h3, h4', e_h5, h6']
    refine J.eq ret_seq ?_
    refine J.eq go_seq ?_
    conv => arg 1; simp (disch := first | exact Zd | fail) only [ZZ, d25_at, simprocAttr, RI, RIk, initE, e_h1, h2', e_h3, h4', e_h5, h6']
    unfold ref05_Pick.W1
    refine J.loop (fun (s : (List Int) × (List Int) × (List Bool) × Int) => ([(2, .arr x3.length (lm (ik .i64) x3)), (3, .ptr (0, 3, 0) 0 0), (6, .ptr (0, 6, 0) 0 0), (9, .ptr (0, 9, 0) 0 0), (11, .v (.int .i64 x6.1)), (13, .v (.int .i64 (wk .i64 ((wk .i64 ((x1.fF.length : Int) + (x1.fI.length : Int))) + (x1.fB.length : Int))))), (14, .v (.int .i64 s.2.2.2))], [((0, 3, 0), .bx true ([.v (.int .i64 x1.fType), .arr x1.fDims.length (lm (ik .i64) x1.fDims), .arr x1.fF.length (lm (ik .u32) x1.fF), .arr x1.fI.length (lm (ik .i64) x1.fI), .arr x1.fB.length (lm (bk) x1.fB)])), ((0, 6, 0), .bx true ([.v (.int .i64 0), .v (.slice none 0 0), .v (.slice none 0 0), .v (.slice none 0 0), .v (.slice none 0 0)])), ((0, 25, 0), .sl true true 1 x5.1.fDims.length (lm (ik .i64) x5.1.fDims)), ((0, 25, 1), .sl true true 1 s.1.length (lm (ik .u32) s.1)), ((0, 25, 2), .sl true true 1 s.2.1.length (lm (ik .i64) s.2.1)), ((0, 25, 3), .sl true true 1 s.2.2.1.length (lm (bk) s.2.2.1)), ((0, 9, 0), .bx true ([.v (.int .i64 x5.1.fType), .own (0, 25, 0) 0 x5.1.fDims.length x5.1.fDims.length, .own (0, 25, 1) 0 s.1.length s.1.length, .own (0, 25, 2) 0 s.2.1.length s.2.1.length, .own (0, 25, 3) 0 s.2.2.1.length s.2.2.1.length]))])) (fun next s => ref05_Pick.L1 fu x1 x3 x5 x6 (fun x15 x16 x17 x18 => next (x15, x16, x17, x18)) s.1 s.2.1 s.2.2.1 s.2.2.2) (s0 := (x5.1.fF, x5.1.fI, x5.1.fB, 0)) ?_ ?_ ?_
    ·exact Ze
    ·exact Zh
    rintro next k1 hn1 ⟨x15, x16, x17, x18⟩
    let nx1 : (List Int) → (List Int) → (List Bool) → Int → Option (T_Tensor × Int) := (fun x15 x16 x17 x18 => next (x15, x16, x17, x18))
    show J _ (ref05_Pick.L1 fu x1 x3 x5 x6 nx1 x15 x16 x17 x18) _
    unfold ref05_Pick.L1
    refine J.eq go_seq ?_
    conv => arg 1; simp (disch := first | exact Zd | fail) only [ZZ, d25_at, simprocAttr, go_b45, bodyOf, Tryz.f45, d45_at, RI, RIk, initE, e_h1, h2', e_h3, h4', e_h5, h6']
    refine J.ite (fun h7 => ?_) (fun h7 => ?_)
    ·have h7' := decide_eq_true h7
     have h7'' : decide (x6.1 ≤ x18) = false := decide_eq_false (by omega)
     conv => arg 1; simp (disch := first | exact Zd | fail) only [ZZ, d25_at, simprocAttr, go_b45, bodyOf, Tryz.f45, d45_at, RI, RIk, initE, e_h1, h2', e_h3, h4', e_h5, h6', h7'', h7']
     refine J.eq ret_seq ?_
     refine J.eq go_seq ?_
     conv => arg 1; simp (disch := first | exact Zd | fail) only [ZZ, d25_at, simprocAttr, go_b45, bodyOf, Tryz.f45, d45_at, RI, RIk, initE, e_h1, h2', e_h3, h4', e_h5, h6', h7'', h7']
     refine J.joinS (fun (t : Unit) => ([(2, .arr x3.length (lm (ik .i64) x3)), (3, .ptr (0, 3, 0) 0 0), (6, .ptr (0, 6, 0) 0 0), (9, .ptr (0, 9, 0) 0 0), (11, .v (.int .i64 x6.1)), (13, .v (.int .i64 (wk .i64 ((wk .i64 ((x1.fF.length : Int) + (x1.fI.length : Int))) + (x1.fB.length : Int))))), (14, .v (.int .i64 x18))], [((0, 3, 0), .bx true ([.v (.int .i64 x1.fType), .arr x1.fDims.length (lm (ik .i64) x1.fDims), .arr x1.fF.length (lm (ik .u32) x1.fF), .arr x1.fI.length (lm (ik .i64) x1.fI), .arr x1.fB.length (lm (bk) x1.fB)])), ((0, 6, 0), .bx true ([.v (.int .i64 0), .v (.slice none 0 0), .v (.slice none 0 0), .v (.slice none 0 0), .v (.slice none 0 0)])), ((0, 25, 0), .sl true true 1 x5.1.fDims.length (lm (ik .i64) x5.1.fDims)), ((0, 25, 1), .sl true true 1 x15.length (lm (ik .u32) x15)), ((0, 25, 2), .sl true true 1 x16.length (lm (ik .i64) x16)), ((0, 25, 3), .sl true true 1 x17.length (lm (bk) x17)), ((0, 9, 0), .bx true ([.v (.int .i64 x5.1.fType), .own (0, 25, 0) 0 x5.1.fDims.length x5.1.fDims.length, .own (0, 25, 1) 0 x15.length x15.length, .own (0, 25, 2) 0 x16.length x16.length, .own (0, 25, 3) 0 x17.length x17.length]))])) (fun t => ref05_Pick.k1 fu nx1 x1 x3 x5 x15 x16 x17 x18) ?_ (fun hj1 => ?_)
     ·rintro ⟨⟩
      show J _ (ref05_Pick.k1 fu nx1 x1 x3 x5 x15 x16 x17 x18) _
      unfold ref05_Pick.k1
      refine J.at fun x27 h8 h9 h10 => ?_
      conv => arg 1; simp (disch := first | exact Zd | fail) only [ZZ, d25_at, simprocAttr, go_b45, bodyOf, Tryz.f45, d45_at, RI, RIk, initE, e_h1, h2', e_h3, h4', e_h5, h6', h7'', h7', lm_ik h10]
      refine J.ite (fun h11 => ?_) (fun h11 => ?_)
      ·have h11' := decide_eq_true h11
       have h11'' : decide (x27 < 0) = false := decide_eq_false (by omega)
       conv => arg 1; simp (disch := first | exact Zd | fail) only [ZZ, d25_at, simprocAttr, bodyOf, Tryz.f45, d45_at, RI, RIk, initE, e_h1, h2', e_h3, h4', e_h5, h6', h7'', h7', lm_ik h10, h11'', h11']
       refine J.callK (fun (t : (List Int) × (List Int) × (List Bool)) => (.tuple [], [((0, 3, 0), .bx true ([.v (.int .i64 x1.fType), .arr x1.fDims.length (lm (ik .i64) x1.fDims), .arr x1.fF.length (lm (ik .u32) x1.fF), .arr x1.fI.length (lm (ik .i64) x1.fI), .arr x1.fB.length (lm (bk) x1.fB)])), ((0, 6, 0), .bx true ([.v (.int .i64 0), .v (.slice none 0 0), .v (.slice none 0 0), .v (.slice none 0 0), .v (.slice none 0 0)])), ((0, 25, 0), .sl true true 1 x5.1.fDims.length (lm (ik .i64) x5.1.fDims)), ((0, 25, 1), .sl true true 1 x15.length (lm (ik .u32) t.1)), ((0, 25, 2), .sl true true 1 x16.length (lm (ik .i64) t.2.1)), ((0, 25, 3), .sl true true 1 x17.length (lm (bk) t.2.2)), ((0, 9, 0), .bx true ([.v (.int .i64 x5.1.fType), .own (0, 25, 0) 0 x5.1.fDims.length x5.1.fDims.length, .own (0, 25, 1) 0 x15.length x15.length, .own (0, 25, 2) 0 x16.length x16.length, .own (0, 25, 3) 0 x17.length x17.length]))])) (fun t => ref05_Pick.c2 fu nx1 x15 x16 x17 x18 t.1 t.2.1 t.2.2) ?_ (fun hj2 => ?_)
       ·rintro ⟨x28, x29, x30⟩
        show J _ (ref05_Pick.c2 fu nx1 x15 x16 x17 x18 x28 x29 x30) _
        unfold ref05_Pick.c2
        refine J.chk fun h12 => ?_
        refine J.chk fun h13 => ?_
        refine J.chk fun h14 => ?_
        conv => arg 1; simp (disch := first | exact Zd | fail) only [ZZ, d25_at, simprocAttr, go_b45, bodyOf, Tryz.f45, d45_at, RI, RIk, initE, e_h1, h2', e_h3, h4', e_h5, h6', h7'', h7', lm_ik h10, h11'', h11', h12, h13, h14]
        refine J.eq ret_seq ?_
        conv => arg 1; simp (disch := first | exact Zd | fail) only [ZZ, d25_at, simprocAttr, go_b45, bodyOf, Tryz.f45, d45_at, RI, RIk, initE, e_h1, h2', e_h3, h4', e_h5, h6', h7'', h7', lm_ik h10, h11'', h11', h12, h13, h14]
        refine J.next (s := (x28, x29, x30, wk .i64 (x18 + 1))) hn1 ?_ ?_
        ·exact Ze
        ·exact Zh
       ·refine J.hd jc_at ?_
        refine J.eq go_b45 ?_
        conv => arg 1; simp (disch := first | exact Zd | fail) only [ZZ, d25_at, simprocAttr, go_b45, bodyOf, Tryz.f45, d45_at, RI, initE, e_h1, h2', e_h3, h4', e_h5, h6', h7'', h7', lm_ik h10, h11'', h11']
        refine J.ite (fun h15 => ?_) (fun h15 => ?_)
        ·have h15' := decide_eq_true h15
         refine J.at fun x31 h16 h17 h18 => ?_
         refine J.chk fun h19 => ?_
         conv => arg 1; simp (disch := first | exact Zd | fail) only [ZZ, d25_at, simprocAttr, go_b45, bodyOf, Tryz.f45, d45_at, RI, initE, e_h1, h2', e_h3, h4', e_h5, h6', h7'', h7', lm_ik h10, h11'', h11', h15', lm_ik h18]
         refine J.knormal (t := (x15.set x18.toNat x31, x16, x17)) hj2 ?_
         simp (disch := first | exact Zd | fail) only [ZZ, d25_at, simprocAttr, go_b45, bodyOf, Tryz.f45, d45_at, RI, initE, e_h1, h2', e_h3, h4', e_h5, h6', h7'', h7', lm_ik h10, h11'', h11', h15', lm_ik h18, kinV_at, kinVB_at, LN, NN, NT]
        ·have h15' := decide_eq_false h15
         conv => arg 1; simp (disch := first | exact Zd | fail) only [ZZ, d25_at, simprocAttr, go_b45, bodyOf, Tryz.f45, d45_at, RI, initE, e_h1, h2', e_h3, h4', e_h5, h6', h7'', h7', lm_ik h10, h11'', h11', h15']
         refine J.ite (fun h20 => ?_) (fun h20 => ?_)
         ·have h20' := decide_eq_true h20
          refine J.at fun x32 h21 h22 h23 => ?_
          refine J.chk fun h24 => ?_
          conv => arg 1; simp (disch := first | exact Zd | fail) only [ZZ, d25_at, simprocAttr, go_b45, bodyOf, Tryz.f45, d45_at, RI, initE, e_h1, h2', e_h3, h4', e_h5, h6', h7'', h7', lm_ik h10, h11'', h11', h15', h20', lm_ik h23]
          refine J.knormal (t := (x15, x16.set x18.toNat x32, x17)) hj2 ?_
          simp (disch := first | exact Zd | fail) only [ZZ, d25_at, simprocAttr, go_b45, bodyOf, Tryz.f45, d45_at, RI, initE, e_h1, h2', e_h3, h4', e_h5, h6', h7'', h7', lm_ik h10, h11'', h11', h15', h20', lm_ik h23, kinV_at, kinVB_at, LN, NN, NT]
         ·have h20' := decide_eq_false h20
          refine J.at fun x33 h25 h26 h27 => ?_
          refine J.chk fun h28 => ?_
          conv => arg 1; simp (disch := first | exact Zd | fail) only [ZZ, d25_at, simprocAttr, go_b45, bodyOf, Tryz.f45, d45_at, RI, initE, e_h1, h2', e_h3, h4', e_h5, h6', h7'', h7', lm_ik h10, h11'', h11', h15', h20', lm_bk h27]
          refine J.knormal (t := (x15, x16, x17.set x18.toNat x33)) hj2 ?_
          simp (disch := first | exact Zd | fail) only [ZZ, d25_at, simprocAttr, go_b45, bodyOf, Tryz.f45, d45_at, RI, initE, e_h1, h2', e_h3, h4', e_h5, h6', h7'', h7', lm_ik h10, h11'', h11', h15', h20', lm_bk h27, kinV_at, kinVB_at, LN, NN, NT]
      ·have h11' := decide_eq_false h11
       have h11'' : decide (x27 < 0) = true := decide_eq_true (by omega)
       conv => arg 1; simp (disch := first | exact Zd | fail) only [ZZ, d25_at, simprocAttr, go_b45, bodyOf, Tryz.f45, d45_at, RI, RIk, initE, e_h1, h2', e_h3, h4', e_h5, h6', h7'', h7', lm_ik h10, h11'', h11']
       refine J.eq ret_seq ?_
       conv => arg 1; simp (disch := first | exact Zd | fail) only [ZZ, d25_at, simprocAttr, go_b45, bodyOf, Tryz.f45, d45_at, RI, RIk, initE, e_h1, h2', e_h3, h4', e_h5, h6', h7'', h7', lm_ik h10, h11'', h11']
       refine J.next (s := (x15, x16, x17, wk .i64 (x18 + 1))) hn1 ?_ ?_
       ·exact Ze
       ·exact Zh
     ·refine J.hd jn_at ?_
      refine J.eq go_seq ?_
      refine J.at fun x34 h29 h30 h31 => ?_
      conv => arg 1; simp (disch := first | exact Zd | fail) only [ZZ, d25_at, simprocAttr, go_b45, bodyOf, Tryz.f45, d45_at, RI, RIk, initE, e_h1, h2', e_h3, h4', e_h5, h6', h7'', h7', lm_ik h31]
      refine J.ite (fun h32 => ?_) (fun h32 => ?_)
      ·have h32' := decide_eq_true h32
       have h32'' : decide ((-1) ≤ x34) = false := decide_eq_false (by omega)
       conv => arg 1; simp (disch := first | exact Zd | fail) only [ZZ, d25_at, simprocAttr, go_b45, bodyOf, Tryz.f45, d45_at, RI, RIk, initE, e_h1, h2', e_h3, h4', e_h5, h6', h7'', h7', lm_ik h31, h32'', h32']
       refine J.eq ret_seq ?_
       refine J.some ?_
       simp (maxSteps := 20000000) (disch := first | exact Zd | fail) only [ZZ, d25_at, simprocAttr, go_b45, bodyOf, Tryz.f45, d45_at, RI, RIk, initE, e_h1, h2', e_h3, h4', e_h5, h6', h7'', h7', lm_ik h31, h32'', h32', FN]
      ·have h32' := decide_eq_false h32
       have h32'' : decide ((-1) ≤ x34) = true := decide_eq_true (by omega)
       conv => arg 1; simp (disch := first | exact Zd | fail) only [ZZ, d25_at, simprocAttr, go_b45, bodyOf, Tryz.f45, d45_at, RI, RIk, initE, e_h1, h2', e_h3, h4', e_h5, h6', h7'', h7', lm_ik h31, h32'', h32']
       refine J.eq ret_seq ?_
       conv => arg 1; simp (disch := first | exact Zd | fail) only [ZZ, d25_at, simprocAttr, go_b45, bodyOf, Tryz.f45, d45_at, RI, RIk, initE, e_h1, h2', e_h3, h4', e_h5, h6', h7'', h7', lm_ik h31, h32'', h32']
       refine J.ite (fun h33 => ?_) (fun h33 => ?_)
       ·have h33' := decide_eq_true h33
        have h33'' : decide (x34 < (wk .i64 ((wk .i64 ((x1.fF.length : Int) + (x1.fI.length : Int))) + (x1.fB.length : Int)))) = false := decide_eq_false (by omega)
        refine J.some ?_
        simp (maxSteps := 20000000) (disch := first | exact Zd | fail) only [ZZ, d25_at, simprocAttr, go_b45, bodyOf, Tryz.f45, d45_at, RI, RIk, initE, e_h1, h2', e_h3, h4', e_h5, h6', h7'', h7', lm_ik h31, h32'', h32', h33'', h33', FN]
       ·have h33' := decide_eq_false h33
        have h33'' : decide (x34 < (wk .i64 ((wk .i64 ((x1.fF.length : Int) + (x1.fI.length : Int))) + (x1.fB.length : Int)))) = true := decide_eq_true (by omega)
        conv => arg 1; simp (disch := first | exact Zd | fail) only [ZZ, d25_at, simprocAttr, go_b45, bodyOf, Tryz.f45, d45_at, RI, RIk, initE, e_h1, h2', e_h3, h4', e_h5, h6', h7'', h7', lm_ik h31, h32'', h32', h33'', h33']
        refine J.jmp (t := ()) hj1 ?_ ?_
        ·exact Ze
        ·exact Zh
    ·have h7' := decide_eq_false h7
     have h7'' : decide (x6.1 ≤ x18) = true := decide_eq_true (by omega)
     conv => arg 1; simp (disch := first | exact Zd | fail) only [ZZ, d25_at, simprocAttr, go_b45, bodyOf, Tryz.f45, d45_at, RI, RIk, initE, e_h1, h2', e_h3, h4', e_h5, h6', h7'', h7']
     refine J.eq ret_seq ?_
     refine J.some ?_
     simp (maxSteps := 20000000) (disch := first | exact Zd | fail) only [ZZ, d25_at, simprocAttr, go_b45, bodyOf, Tryz.f45, d45_at, RI, RIk, initE, e_h1, h2', e_h3, h4', e_h5, h6', h7'', h7', FN]
   ·have h6' := decide_eq_false h6
    refine J.some ?_
    simp (maxSteps := 20000000) (disch := first | exact Zd | fail) only [ZZ, d25_at, simprocAttr, go_b45, bodyOf, Tryz.f45, d45_at, RI, RIk, initE, e_h1, h2', e_h3, h4', e_h5, h6', FN]
  ·have h4' := decide_eq_false h4
   refine J.some ?_
   simp (maxSteps := 20000000) (disch := first | exact Zd | fail) only [ZZ, d25_at, simprocAttr, go_b45, bodyOf, Tryz.f45, d45_at, RI, RIk, initE, e_h1, h2', e_h3, h4', FN]
 ·have h2' := decide_eq_false h2
  refine J.some ?_
  simp (maxSteps := 20000000) (disch := first | exact Zd | fail) only [ZZ, d25_at, simprocAttr, go_b45, bodyOf, Tryz.f45, d45_at, RI, RIk, initE, e_h1, h2', FN]
noncomputable def t25 (fu : Nat) : CallP := orE 43 (mkC (fun (t : T_Tensor) => ([.agg (c_T_Tensor t)] : List AV)) (fun t => ref05_Check fu t) e43) (orE 44 (mkC (fun (t : Int × (List Int)) => ([.v (.int .i64 t.1), .arr t.2.length (lm (ik .i64) t.2)] : List AV)) (fun t => ref05_New fu t.1 t.2) e44) (orE 22 (mkC (fun (t : List Int) => ([.arr t.length (lm (ik .i64) t)] : List AV)) (fun t => ref04_Size fu t) e22) (noP)))
theorem t25_ok (fu : Nat) : CpOK Tryz.prog (t25 fu ) := orE_ok (orE_ok (orE_ok (noP_ok) (mkC_ok (fun t b h => ok22 fu t  b h))) (mkC_ok (fun t b h => ok44 fu t.1 t.2  b h))) (mkC_ok (fun t b h => ok43 fu t  b h))
theorem ok25 (fu : Nat) (x1 : T_Tensor) (x2 : List Int) (x3 : List Int) (r) (h : ref05_Pick fu x1 x2 x3 = some r) : PureOK Tryz.prog 25 [.agg (c_T_Tensor x1), .arr x2.length (lm (ik .i64) x2), .arr x3.length (lm (ik .i64) x3)] (e25 r) :=
  pure_J mixed (cp := t25 fu ) (t25_ok fu  ) (ciE_ok mixed (t25_ok fu  ) noI_ok i45 noI_ok) i25 (w25 _ fu x1 x2 x3  (fun a0 r h => orE_hit (mkC_at (a := a0) (by intro a b h; first | (exact rfl) | (simp only [INJ, IJ] at h; first | exact h | (simp_all [Prod.ext_iff]) )) h)) (fun a0 a1 r h => orE_miss (by decide) (orE_hit (mkC_at (a := (a0, a1)) (by intro a b h; first | (exact rfl) | (simp only [INJ, IJ] at h; first | exact h | (simp_all [Prod.ext_iff]) )) h))) (fun a0 r h => orE_miss (by decide) (orE_miss (by decide) (orE_hit (mkC_at (a := a0) (by intro a b h; first | (exact rfl) | (simp only [INJ, IJ] at h; first | exact h | (simp_all [Prod.ext_iff]) )) h))))) h
/-! 10: lattice/latticelaw15.half -/
def d10 : List (Nat × List Nat) := [(0, [0]), (0, [1, 6, 9]), (19, [16, 17, 18, 19, 20, 21, 22, 23, 24, 25, 26, 27, 28, 29, 30, 31, 32, 33]), (0, []), (0, [7, 34, 35, 36, 37, 38]), (0, []), (0, [1000008]), (0, []), (0, []), (0, []), (0, [39, 40]), (0, []), (0, [42, 43]), (0, []), (0, [11, 44, 45, 46, 47, 48, 49]), (0, []), (0, []), (0, []), (9, [51, 52, 53, 54, 55, 56, 57, 58, 59]), (0, []), (0, [10, 13, 60, 61, 62, 63, 64, 65, 66]), (0, []), (0, [12, 67, 68, 69, 70]), (0, []), (0, [2, 5, 8, 15, 71, 72, 73, 74, 75, 76, 77]), (0, []), (0, [14, 78])]
def d10_at := by have h := tabL d10.eq_1; simp only [AllAt, Nat.zero_add, Nat.reduceAdd] at h; exact h
theorem i10 : finfo Tryz.prog 10 d10 = some ⟨bodyOf Tryz.f10, [.cell 4 28], [28]⟩ := finfo_at Tryz.func10 rfl (by kernel_rfl) (by kernel_rfl)
def e10 : T_Tensor → AV := fun r => .agg [.v (.int .i64 r.fType), .arr r.fDims.length (lm (ik .i64) r.fDims), .arr r.fF.length (lm (ik .u32) r.fF), .arr r.fI.length (lm (ik .i64) r.fI), .arr r.fB.length (lm (bk) r.fB)]
structure K23 (fu : Nat) (cp : CallP) : Prop where
 ap : ∀ {a0 : List Int} {a1 : Int} {r}, ref04_Index fu a0 a1 = some r → cp 23 [.arr a0.length (lm (ik .i64) a0), .v (.int .i64 a1)] = some (.tuple [.fresh 1 r.1.length (lm (ik .i64) r.1), .v (.int .i64 r.2)])
noncomputable def C23 (fu : Nat) : Cm Tryz.prog ((List Int) × Int) ((List Int) × Int) := ⟨23, fun t => [.arr t.1.length (lm (ik .i64) t.1), .v (.int .i64 t.2)], fun t => ref04_Index fu t.1 t.2, e23, fun t b h => ok23 fu t.1 t.2  b h, Zi⟩
theorem u23 {fu : Nat} {cp : CallP} (H : Hit cp (C23 fu).ct) : K23 fu cp := ⟨fun {a0 a1 r} h => (C23 fu).at H (a0, a1) r h⟩
structure K24 (fu : Nat) (cp : CallP) : Prop where
 ap : ∀ {a0 : List Int} {a1 : List Int} {r}, ref04_Offset fu a0 a1 = some r → cp 24 [.arr a0.length (lm (ik .i64) a0), .arr a1.length (lm (ik .i64) a1)] = some (.tuple [.v (.int .i64 r.1), .v (.int .i64 r.2)])
noncomputable def C24 (fu : Nat) : Cm Tryz.prog ((List Int) × (List Int)) (Int × Int) := ⟨24, fun t => [.arr t.1.length (lm (ik .i64) t.1), .arr t.2.length (lm (ik .i64) t.2)], fun t => ref04_Offset fu t.1 t.2, e24, fun t b h => ok24 fu t.1 t.2  b h, Zi⟩
theorem u24 {fu : Nat} {cp : CallP} (H : Hit cp (C24 fu).ct) : K24 fu cp := ⟨fun {a0 a1 r} h => (C24 fu).at H (a0, a1) r h⟩
structure K25 (fu : Nat) (cp : CallP) : Prop where
 ap : ∀ {a0 : T_Tensor} {a1 : List Int} {a2 : List Int} {r}, ref05_Pick fu a0 a1 a2 = some r → cp 25 [.agg (c_T_Tensor a0), .arr a1.length (lm (ik .i64) a1), .arr a2.length (lm (ik .i64) a2)] = some (.tuple [.agg [.v (.int .i64 r.1.fType), .fresh 1 r.1.fDims.length (lm (ik .i64) r.1.fDims), .fresh 1 r.1.fF.length (lm (ik .u32) r.1.fF), .fresh 1 r.1.fI.length (lm (ik .i64) r.1.fI), .fresh 1 r.1.fB.length (lm (bk) r.1.fB)], .v (.int .i64 r.2)])
noncomputable def C25 (fu : Nat) : Cm Tryz.prog (T_Tensor × (List Int) × (List Int)) (T_Tensor × Int) := ⟨25, fun t => [.agg (c_T_Tensor t.1), .arr t.2.1.length (lm (ik .i64) t.2.1), .arr t.2.2.length (lm (ik .i64) t.2.2)], fun t => ref05_Pick fu t.1 t.2.1 t.2.2, e25, fun t b h => ok25 fu t.1 t.2.1 t.2.2  b h, Zi⟩
theorem u25 {fu : Nat} {cp : CallP} (H : Hit cp (C25 fu).ct) : K25 fu cp := ⟨fun {a0 a1 a2 r} h => (C25 fu).at H (a0, a1, a2) r h⟩
def law15_half.j2 : LJ 2 20 Unit ((List Int) × Bool) := ⟨fun r t e => [(1, .v (.bool t.2)), (2, er e 2), (4, er e 4), (5, er e 5), (6, er e 6), (8, er e 8), (9, er e 9), (10, .own (0, 47, 0) 0 t.1.length t.1.length)], fun r t h => [((0, 2, 0), hr h (0, 2, 0)), ((0, 4, 0), hr h (0, 4, 0)), ((0, 33, 0), hr h (0, 33, 0)), ((0, 8, 77), hr h (0, 8, 77)), ((0, 47, 0), .sl true true 1 t.1.length (lm (ik .i64) t.1))]⟩
def law15_half.m1 : LJ 1 10 Unit ((List Int) × (List Int) × Bool × Int) := ⟨fun r s e => [(1, .v (.bool s.2.2.1)), (2, er e 2), (4, er e 4), (5, .own (0, 33, 0) 0 s.1.length s.1.length), (6, er e 6), (8, .own (0, 8, 77) 0 s.2.1.length s.2.1.length), (9, .v (.int .i64 s.2.2.2))], fun r s h => [((0, 2, 0), hr h (0, 2, 0)), ((0, 4, 0), hr h (0, 4, 0)), ((0, 33, 0), .sl true true 1 s.1.length (lm (ik .i64) s.1)), ((0, 8, 77), .sl true true 1 s.2.1.length (lm (ik .i64) s.2.1))]⟩
def law15_half.j1 : LJ 1 24 Unit ((List Int) × (List Int)) := ⟨fun r t e => [(2, er e 2), (4, er e 4), (5, .own (0, 33, 0) 0 t.1.length t.1.length), (8, .own (0, 8, 77) 0 t.2.length t.2.length)], fun r t h => [((0, 2, 0), hr h (0, 2, 0)), ((0, 4, 0), hr h (0, 4, 0)), ((0, 33, 0), .sl true true 1 t.1.length (lm (ik .i64) t.1)), ((0, 8, 77), .sl true true 1 t.2.length (lm (ik .i64) t.2))]⟩
set_option maxHeartbeats 20000000 in
open law15_half in
theorem w10 (cp : CallP) (fu : Nat) (x1 : T_Tensor) (x2 : Bool) (H1 : K22 fu cp) (H2 : K23 fu cp) (H3 : K24 fu cp) (H4 : K25 fu cp) : J (go Tryz.prog noC cp noI 0 [] d10 fu (finS Tryz.prog [.cell 4 28] [28]) (bodyOf Tryz.f10) (initE 0 [.agg (c_T_Tensor x1), .v (.bool x2)]) [] []) (law15_half fu x1 x2) e10 := by
 unfold law15_half e10
 conv => arg 1; simp only [bodyOf, Tryz.f10]
 have z0 := d10_at
 have z1 := SE
 exact Wk
theorem ok10 (fu : Nat) (x1 : T_Tensor) (x2 : Bool) (r) (h : law15_half fu x1 x2 = some r) : PureOK Tryz.prog 10 [.agg (c_T_Tensor x1), .v (.bool x2)] (e10 r) := pureST mixed [(C22 fu).ct, (C23 fu).ct, (C24 fu).ct, (C25 fu).ct] (ids := [22, 23, 24, 25]) rfl (by decide) i10 (C := noC) (ci := fun cp => noI) (fun cp ok => noI_ok) (fun cp H => w10 cp fu x1 x2 (u22 H.1) (u23 H.2.1) (u24 H.2.2.1) (u25 H.2.2.2.1)) h
/-! 12: lattice/latticeref04.SameInts -/
open Aw (d12)
def d12_at := by have h := tabL Aw.d12.eq_1; simp only [AllAt, Nat.zero_add, Nat.reduceAdd] at h; exact h
theorem i12 : finfo Tryz.prog 12 d12 = some ⟨bodyOf Tryz.f12, [.tmp 4], [4]⟩ := finfo_at Tryz.func12 rfl (by kernel_rfl) (by kernel_rfl)
def e12 : Bool → AV := fun r => .v (.bool r)
def ref04_SameInts.m1 : LJ 1 8 Unit Int := ⟨fun r s e => [(0, er e 0), (1, er e 1), (5, .v (.int .i64 s))], fun r s h => []⟩
set_option maxHeartbeats 20000000 in
open ref04_SameInts in
theorem w12 (cp : CallP) (fu : Nat) (x1 : List Int) (x2 : List Int)  : J (go Tryz.prog noC cp noI 0 [] d12 fu (fin Tryz.prog [.tmp 4] [4]) (bodyOf Tryz.f12) (initE 0 [.arr x1.length (lm (ik .i64) x1), .arr x2.length (lm (ik .i64) x2)]) [] []) (ref04_SameInts fu x1 x2) e12 := by
 unfold ref04_SameInts e12
 conv => arg 1; simp only [bodyOf, Tryz.f12]
 have z0 := d12_at
 exact Wk
theorem ok12 (fu : Nat) (x1 : List Int) (x2 : List Int) (r) (h : ref04_SameInts fu x1 x2 = some r) : PureOK Tryz.prog 12 [.arr x1.length (lm (ik .i64) x1), .arr x2.length (lm (ik .i64) x2)] (e12 r) := pureT mixed [] (ids := []) rfl (by decide) i12 (C := noC) (ci := fun cp => noI) (fun cp ok => noI_ok) (fun cp H => w12 cp fu x1 x2 ) h
/-! 11: lattice/latticeref05.Same -/
def d11 : List (Nat × List Nat) := [(0, [0, 1, 4]), (0, [5]), (0, [8, 9, 10, 11, 12, 13, 14, 15, 16, 17, 18, 19, 20, 21, 22, 23, 24, 25, 26, 27, 28, 29, 30, 31, 32, 33, 34, 35, 36, 37, 38, 39, 40, 41, 42, 43, 44, 45, 46]), (0, []), (0, []), (0, [6]), (0, []), (0, []), (0, [48, 49, 50, 51]), (0, [2, 3, 7]), (0, [53, 54]), (0, []), (11, [55, 56, 57, 58, 59, 60, 61, 62, 63, 64]), (0, []), (0, []), (0, []), (0, []), (0, []), (0, [66, 67, 68, 69]), (0, []), (0, [71, 72]), (0, []), (11, [73, 74, 75, 76, 77, 78, 79, 80, 81, 82]), (0, []), (0, []), (0, []), (0, []), (0, []), (0, [84, 85, 86, 87]), (0, []), (0, [89, 90]), (0, []), (11, [91, 92, 93, 94, 95, 96, 97, 98, 99, 100]), (0, []), (0, []), (0, []), (0, [])]
def d11_at := by have h := tabL d11.eq_1; simp only [AllAt, Nat.zero_add, Nat.reduceAdd] at h; exact h
theorem i11 : finfo Tryz.prog 11 d11 = some ⟨bodyOf Tryz.f11, [.tmp 4], [4]⟩ := finfo_at Tryz.func11 rfl (by kernel_rfl) (by kernel_rfl)
def e11 : Bool → AV := fun r => .v (.bool r)
structure K12 (fu : Nat) (cp : CallP) : Prop where
 ap : ∀ {a0 : List Int} {a1 : List Int} {r}, ref04_SameInts fu a0 a1 = some r → cp 12 [.arr a0.length (lm (ik .i64) a0), .arr a1.length (lm (ik .i64) a1)] = some (.v (.bool r))
noncomputable def C12 (fu : Nat) : Cm Tryz.prog ((List Int) × (List Int)) Bool := ⟨12, fun t => [.arr t.1.length (lm (ik .i64) t.1), .arr t.2.length (lm (ik .i64) t.2)], fun t => ref04_SameInts fu t.1 t.2, e12, fun t b h => ok12 fu t.1 t.2  b h, Zi⟩
theorem u12 {fu : Nat} {cp : CallP} (H : Hit cp (C12 fu).ct) : K12 fu cp := ⟨fun {a0 a1 r} h => (C12 fu).at H (a0, a1) r h⟩
def ref05_Same.m1 : LJ 1 28 Unit Int := ⟨fun r s e => [(2, er e 2), (3, er e 3), (7, .v (.int .i64 s))], fun r s h => [((0, 2, 0), hr h (0, 2, 0)), ((0, 3, 0), hr h (0, 3, 0))]⟩
def ref05_Same.m2 : LJ 2 18 Unit Int := ⟨fun r s e => [(2, er e 2), (3, er e 3), (6, .v (.int .i64 s))], fun r s h => [((0, 2, 0), hr h (0, 2, 0)), ((0, 3, 0), hr h (0, 3, 0))]⟩
def ref05_Same.j3 : LJ 3 26 Unit Unit := ⟨fun r t e => [(2, er e 2), (3, er e 3)], fun r t h => [((0, 2, 0), hr h (0, 2, 0)), ((0, 3, 0), hr h (0, 3, 0))]⟩
def ref05_Same.m3 : LJ 3 8 Unit Int := ⟨fun r s e => [(2, er e 2), (3, er e 3), (5, .v (.int .i64 s))], fun r s h => [((0, 2, 0), hr h (0, 2, 0)), ((0, 3, 0), hr h (0, 3, 0))]⟩
def ref05_Same.j2 : LJ 2 16 Unit Unit := ⟨fun r t e => [(2, er e 2), (3, er e 3)], fun r t h => [((0, 2, 0), hr h (0, 2, 0)), ((0, 3, 0), hr h (0, 3, 0))]⟩
def ref05_Same.j1 : LJ 1 6 Unit Unit := ⟨fun r t e => [(2, er e 2), (3, er e 3)], fun r t h => [((0, 2, 0), hr h (0, 2, 0)), ((0, 3, 0), hr h (0, 3, 0))]⟩
set_option maxHeartbeats 20000000 in
open ref05_Same in
theorem w11 (cp : CallP) (fu : Nat) (x1 : T_Tensor) (x2 : T_Tensor) (H1 : K12 fu cp) : J (go Tryz.prog noC cp noI 0 [] d11 fu (fin Tryz.prog [.tmp 4] [4]) (bodyOf Tryz.f11) (initE 0 [.agg (c_T_Tensor x1), .agg (c_T_Tensor x2)]) [] []) (ref05_Same fu x1 x2) e11 := by
 unfold ref05_Same e11
 conv => arg 1; simp only [bodyOf, Tryz.f11]
 have z0 := d11_at
 exact Wk
theorem ok11 (fu : Nat) (x1 : T_Tensor) (x2 : T_Tensor) (r) (h : ref05_Same fu x1 x2 = some r) : PureOK Tryz.prog 11 [.agg (c_T_Tensor x1), .agg (c_T_Tensor x2)] (e11 r) := pureT mixed [(C12 fu).ct] (ids := [12]) rfl (by decide) i11 (C := noC) (ci := fun cp => noI) (fun cp ok => noI_ok) (fun cp H => w11 cp fu x1 x2 (u12 H.1)) h
/-! 3: lattice/latticelaw15.ConvGroups -/
def d3 : List (Nat × List Nat) := [(0, [0, 1, 2, 8]), (0, []), (0, [17]), (0, []), (0, [18]), (0, []), (0, [19, 20, 21, 22, 23, 24, 25, 26]), (0, []), (0, [11, 27]), (0, []), (0, [29, 30, 31, 32, 33, 34, 35]), (0, []), (0, [36]), (0, []), (0, [37, 38, 39, 40, 41]), (0, []), (0, [42, 43, 44, 45]), (0, []), (20, [46, 47, 48, 49, 50, 51, 52, 53, 54, 55, 56, 57, 58, 59, 60, 61, 62, 63, 64]), (0, []), (0, []), (0, []), (19, [66, 67, 68, 69, 70, 71, 72, 73, 74, 75, 76, 77, 78, 79, 80, 81, 82, 83, 84]), (0, []), (17538019647970835018446693872673966996420990764672, [4, 5, 6, 12, 13, 14, 85, 86, 87, 88, 89, 90, 91, 92, 93, 94]), (0, []), (13, [3, 9, 10, 15, 16, 95, 96, 97, 98, 99, 100, 101, 102, 103, 104, 105, 106])]
def d3_at := by have h := tabL d3.eq_1; simp only [AllAt, Nat.zero_add, Nat.reduceAdd] at h; exact h
theorem i3 : finfo Tryz.prog 3 d3 = some ⟨bodyOf Tryz.f3, [.tmp 8], [4]⟩ := finfo_at Tryz.func3 rfl (by kernel_rfl) (by kernel_rfl)
def e3 : Bool → AV := fun r => .v (.bool r)
noncomputable def C7 : Cm Tryz.prog Unit Bool := ⟨7, fun _ => [], fun _ => some true, fun b => .v (.bool b), fun _ b h => by injection h with h; subst h; exact awake7, fun _ _ _ => rfl⟩
structure K8 (fu : Nat) (cp : CallP) : Prop where
 ap : ∀ {a0 : Int} {a1 : T_Setting} {a2 : List T_Tensor} {r}, conv_Do fu a0 a1 a2 = some r → cp 8 [.v (.int .i64 a0), .agg (c_T_Setting a1), .arr a2.length (fm c_T_Tensor a2)] = some (.tuple [.agg [.v (.int .i64 r.1.fType), .arr r.1.fDims.length (lm (ik .i64) r.1.fDims), .arr r.1.fF.length (lm (ik .u32) r.1.fF), .arr r.1.fI.length (lm (ik .i64) r.1.fI), .arr r.1.fB.length (lm (bk) r.1.fB)], .v (.int .i64 r.2)])
noncomputable def C8 (fu : Nat) : Cm Tryz.prog (Int × T_Setting × (List T_Tensor)) (T_Tensor × Int) := ⟨8, fun t => [.v (.int .i64 t.1), .agg (c_T_Setting t.2.1), .arr t.2.2.length (fm c_T_Tensor t.2.2)], fun t => conv_Do fu t.1 t.2.1 t.2.2, e8, fun t b h => ok8 fu t.1 t.2.1 t.2.2  b h, Zi⟩
theorem u8 {fu : Nat} {cp : CallP} (H : Hit cp (C8 fu).ct) : K8 fu cp := ⟨fun {a0 a1 a2 r} h => (C8 fu).at H (a0, a1, a2) r h⟩
structure K9 (fu : Nat) (cp : CallP) : Prop where
 ap : ∀ {a0 : List Int} {a1 : List Int} {r}, law15_floats fu a0 a1 = some r → cp 9 [.arr a0.length (lm (ik .i64) a0), .arr a1.length (lm (ik .u32) a1)] = some (.agg [.v (.int .i64 r.fType), .arr r.fDims.length (lm (ik .i64) r.fDims), .arr r.fF.length (lm (ik .u32) r.fF), .arr r.fI.length (lm (ik .i64) r.fI), .arr r.fB.length (lm (bk) r.fB)])
noncomputable def C9 (fu : Nat) : Cm Tryz.prog ((List Int) × (List Int)) T_Tensor := ⟨9, fun t => [.arr t.1.length (lm (ik .i64) t.1), .arr t.2.length (lm (ik .u32) t.2)], fun t => law15_floats fu t.1 t.2, e9, fun t b h => ok9 fu t.1 t.2  b h, Zi⟩
theorem u9 {fu : Nat} {cp : CallP} (H : Hit cp (C9 fu).ct) : K9 fu cp := ⟨fun {a0 a1 r} h => (C9 fu).at H (a0, a1) r h⟩
structure K10 (fu : Nat) (cp : CallP) : Prop where
 ap : ∀ {a0 : T_Tensor} {a1 : Bool} {r}, law15_half fu a0 a1 = some r → cp 10 [.agg (c_T_Tensor a0), .v (.bool a1)] = some (.agg [.v (.int .i64 r.fType), .arr r.fDims.length (lm (ik .i64) r.fDims), .arr r.fF.length (lm (ik .u32) r.fF), .arr r.fI.length (lm (ik .i64) r.fI), .arr r.fB.length (lm (bk) r.fB)])
noncomputable def C10 (fu : Nat) : Cm Tryz.prog (T_Tensor × Bool) T_Tensor := ⟨10, fun t => [.agg (c_T_Tensor t.1), .v (.bool t.2)], fun t => law15_half fu t.1 t.2, e10, fun t b h => ok10 fu t.1 t.2  b h, Zi⟩
theorem u10 {fu : Nat} {cp : CallP} (H : Hit cp (C10 fu).ct) : K10 fu cp := ⟨fun {a0 a1 r} h => (C10 fu).at H (a0, a1) r h⟩
structure K11 (fu : Nat) (cp : CallP) : Prop where
 ap : ∀ {a0 : T_Tensor} {a1 : T_Tensor} {r}, ref05_Same fu a0 a1 = some r → cp 11 [.agg (c_T_Tensor a0), .agg (c_T_Tensor a1)] = some (.v (.bool r))
noncomputable def C11 (fu : Nat) : Cm Tryz.prog (T_Tensor × T_Tensor) Bool := ⟨11, fun t => [.agg (c_T_Tensor t.1), .agg (c_T_Tensor t.2)], fun t => ref05_Same fu t.1 t.2, e11, fun t b h => ok11 fu t.1 t.2  b h, Zi⟩
theorem u11 {fu : Nat} {cp : CallP} (H : Hit cp (C11 fu).ct) : K11 fu cp := ⟨fun {a0 a1 r} h => (C11 fu).at H (a0, a1) r h⟩
def law15_ConvGroups.j1 : LJ 1 24 Unit (Int × (List Int) × (List Int) × (List Int) × (List Bool) × Bool) := ⟨fun r t e => [(3, .v (.bool t.2.2.2.2.2)), (4, er e 4), (5, er e 5), (6, er e 6), (9, er e 9), (10, er e 10), (12, er e 12), (13, er e 13), (14, er e 14)], fun r t h => [((0, 4, 0), hr h (0, 4, 0)), ((0, 5, 0), hr h (0, 5, 0)), ((0, 6, 0), hr h (0, 6, 0)), ((0, 10, 0), hr h (0, 10, 0)), ((0, 14, 0), bs (bs (bs (bs (bs (hr h (0, 14, 0)) 0 (.v (.int .i64 t.1))) 1 (.arr t.2.1.length (lm (ik .i64) t.2.1))) 2 (.arr t.2.2.1.length (lm (ik .u32) t.2.2.1))) 3 (.arr t.2.2.2.1.length (lm (ik .i64) t.2.2.2.1))) 4 (.arr t.2.2.2.2.1.length (lm (bk) t.2.2.2.2.1)))]⟩
def law15_ConvGroups.j2 : LJ 2 0 (T_Tensor × Int) Unit := ⟨fun r t e => [(3, er e 3), (4, er e 4), (5, er e 5), (6, er e 6), (8, .v (.bool (decide ((r.1.fF.length : Int) = 0)))), (9, er e 9), (10, er e 10)], fun r t h => [((0, 4, 0), hr h (0, 4, 0)), ((0, 5, 0), hr h (0, 5, 0)), ((0, 6, 0), hr h (0, 6, 0)), ((0, 23, 0), hr h (0, 23, 0)), ((0, 10, 0), hr h (0, 10, 0))]⟩
set_option maxHeartbeats 20000000 in
open law15_ConvGroups in
theorem w3 (cp : CallP) (fu : Nat) (x1 : T_Setting) (x2 : T_Tensor) (x3 : T_Tensor) (x4 : Bool) (H1 : cp 7 [] = some (.v (.bool true))) (H2 : K8 fu cp) (H3 : K9 fu cp) (H4 : K10 fu cp) (H5 : K11 fu cp) : J (go Tryz.prog noCs cp noI 0 [] d3 fu (fin Tryz.prog [.tmp 8] [4]) (bodyOf Tryz.f3) (initE 0 [.agg (c_T_Setting x1), .agg (c_T_Tensor x2), .agg (c_T_Tensor x3), .v (.bool x4)]) [] []) (law15_ConvGroups fu x1 x2 x3 x4) e3 := by
 unfold law15_ConvGroups e3
 conv => arg 1; simp only [bodyOf, Tryz.f3]
 have z0 := d3_at
 have z1 := RL
 have z2 := @aop_callC
 have z3 := @aq_callC
 exact Wk
theorem ok3 (fu : Nat) (x1 : T_Setting) (x2 : T_Tensor) (x3 : T_Tensor) (x4 : Bool) (r) (h : law15_ConvGroups fu x1 x2 x3 x4 = some r) : PureOK Tryz.prog 3 [.agg (c_T_Setting x1), .agg (c_T_Tensor x2), .agg (c_T_Tensor x3), .v (.bool x4)] (e3 r) := pureT mixed [C7.ct, (C8 fu).ct, (C9 fu).ct, (C10 fu).ct, (C11 fu).ct] (ids := [7, 8, 9, 10, 11]) rfl (by decide) i3 (C := noCs) (ci := fun cp => noI) (fun cp ok => noI_ok) (fun cp H => w3 cp fu x1 x2 x3 x4 (C7.at H.1 () true rfl) (u8 H.2.1) (u9 H.2.2.1) (u10 H.2.2.2.1) (u11 H.2.2.2.2.1)) h
end Go.Av
