/- The walks of the plain functions, part 2. Made by a program of mine. Conditions: none. -/
import Derived.Test.YtpbegnnholhkdaaGreatQ5W1
set_option linter.unusedVariables false
set_option linter.unusedSimpArgs false
set_option linter.defProp false
set_option maxRecDepth 20000
open Go Go.Proofs
namespace Go.Av
open Aw (d9 d19 d20 d21 d30 d32 d33 d34 d35 d36 d37 d38 d39 d40 d41 d42 d57 d58 d59 d60 d61 d62 d63 d64 d65 d66 d67 d68 d69 d71 d72 d73 d77 d78 d79 d80 d81 d82 d83 d84 d85 d87 d88 d89 d90 d91 d99 d102 d103 d104 d106 d107 d108 d109 d111 d112 d113 d117 d118 d119 d120 d142 d144 d149 d156)
/-! 8: lattice/conv.Do -/
open Aw (d8)
def d8_at := by have h := tabL Aw.d8.eq_1; simp only [AllAt, Nat.zero_add, Nat.reduceAdd] at h; exact h
theorem i8 : finfo Tryz.prog 8 d8 = some ⟨bodyOf Tryz.f8, [.cell 6 28, .tmp 7], [28, 32]⟩ := finfo_at Tryz.func8 rfl (by kernel_rfl) (by kernel_rfl)
def e8 : (T_Tensor × Int) → AV := fun r => .tuple [.agg [.v (.int .i64 r.1.fType), .arr r.1.fDims.length (lm (ik .i64) r.1.fDims), .arr r.1.fF.length (lm (ik .u32) r.1.fF), .arr r.1.fI.length (lm (ik .i64) r.1.fI), .arr r.1.fB.length (lm (bk) r.1.fB)], .v (.int .i64 r.2)]
structure K34 (fu : Nat) (cp : CallP) : Prop where
 ap : ∀ {a0 : Int} {r}, conv_Has fu a0 = some r → cp 34 [.v (.int .i64 a0)] = some (.v (.bool r))
noncomputable def C34 (fu : Nat) : Cm Tryz.prog Int Bool := ⟨34, fun t => [.v (.int .i64 t)], fun t => conv_Has fu t, e34, fun t b h => ok34 fu t  b h, Zi⟩
theorem u34 {fu : Nat} {cp : CallP} (H : Hit cp (C34 fu).ct) : K34 fu cp := ⟨fun {a0 r} h => (C34 fu).at H a0 r h⟩
structure K36 (fu : Nat) (cp : CallP) : Prop where
 ap : ∀ {a0 : T_Tensor} {r}, tens_Canon fu a0 = some r → cp 36 [.agg (c_T_Tensor a0)] = some (.agg [.v (.int .i64 r.fType), .fresh 1 r.fDims.length (lm (ik .i64) r.fDims), .fresh 1 r.fF.length (lm (ik .u32) r.fF), .fresh 1 r.fI.length (lm (ik .i64) r.fI), .fresh 1 r.fB.length (lm (bk) r.fB)])
noncomputable def C36 (fu : Nat) : Cm Tryz.prog T_Tensor T_Tensor := ⟨36, fun t => [.agg (c_T_Tensor t)], fun t => tens_Canon fu t, e36, fun t b h => ok36 fu t  b h, Zi⟩
theorem u36 {fu : Nat} {cp : CallP} (H : Hit cp (C36 fu).ct) : K36 fu cp := ⟨fun {a0 r} h => (C36 fu).at H a0 r h⟩
structure K38 (fu : Nat) (cp : CallP) : Prop where
 ap : ∀ {a0 : List T_Tensor} {r}, ewise_Vals fu a0 = some r → cp 38 [.arr a0.length (fm c_T_Tensor a0)] = some (.arr r.length (fm c_T_Val r))
noncomputable def C38 (fu : Nat) : Cm Tryz.prog (List T_Tensor) (List T_Val) := ⟨38, fun t => [.arr t.length (fm c_T_Tensor t)], fun t => ewise_Vals fu t, e38, fun t b h => ok38 fu t  b h, Zi⟩
theorem u38 {fu : Nat} {cp : CallP} (H : Hit cp (C38 fu).ct) : K38 fu cp := ⟨fun {a0 r} h => (C38 fu).at H a0 r h⟩
structure K37 (fu : Nat) (cp : CallP) : Prop where
 ap : ∀ {a0 : Int} {a1 : T_Setting} {a2 : List T_Val} {a3 : Int} {r}, infer_Node fu a0 a1 a2 a3 = some r → cp 37 [.v (.int .i64 a0), .agg (c_T_Setting a1), .arr a2.length (fm c_T_Val a2), .v (.int .i64 a3)] = some (.tuple [.arr r.1.length (fm c_T_Val r.1), .v (.int .i64 r.2)])
noncomputable def C37 (fu : Nat) : Cm Tryz.prog (Int × T_Setting × (List T_Val) × Int) ((List T_Val) × Int) := ⟨37, fun t => [.v (.int .i64 t.1), .agg (c_T_Setting t.2.1), .arr t.2.2.1.length (fm c_T_Val t.2.2.1), .v (.int .i64 t.2.2.2)], fun t => infer_Node fu t.1 t.2.1 t.2.2.1 t.2.2.2, e37, fun t b h => ok37 fu t.1 t.2.1 t.2.2.1 t.2.2.2  b h, Zi⟩
theorem u37 {fu : Nat} {cp : CallP} (H : Hit cp (C37 fu).ct) : K37 fu cp := ⟨fun {a0 a1 a2 a3 r} h => (C37 fu).at H (a0, a1, a2, a3) r h⟩
structure K32 (fu : Nat) (cp : CallP) : Prop where
 ap : ∀ {a0 : T_Setting} {a1 : Int} {a2 : Int} {a3 : Int} {r}, conv_axisOf fu a0 a1 a2 a3 = some r → cp 32 [.agg (c_T_Setting a0), .v (.int .i64 a1), .v (.int .i64 a2), .v (.int .i64 a3)] = some (.tuple [.agg [.v (.int .i64 r.1.fsize), .v (.int .i64 r.1.fkernel), .v (.int .i64 r.1.fstride), .v (.int .i64 r.1.fdilation), .v (.int .i64 r.1.fahead), .v (.int .i64 r.1.fwindows)], .v (.int .i64 r.2)])
noncomputable def C32 (fu : Nat) : Cm Tryz.prog (T_Setting × Int × Int × Int) (T_conv_axis × Int) := ⟨32, fun t => [.agg (c_T_Setting t.1), .v (.int .i64 t.2.1), .v (.int .i64 t.2.2.1), .v (.int .i64 t.2.2.2)], fun t => conv_axisOf fu t.1 t.2.1 t.2.2.1 t.2.2.2, e32, fun t b h => ok32 fu t.1 t.2.1 t.2.2.1 t.2.2.2  b h, Zi⟩
theorem u32 {fu : Nat} {cp : CallP} (H : Hit cp (C32 fu).ct) : K32 fu cp := ⟨fun {a0 a1 a2 a3 r} h => (C32 fu).at H (a0, a1, a2, a3) r h⟩
structure K39 (fu : Nat) (cp : CallP) : Prop where
 ap : ∀ {a0 : Int} {a1 : List Int} {r}, tens_New fu a0 a1 = some r → cp 39 [.v (.int .i64 a0), .arr a1.length (lm (ik .i64) a1)] = some (.tuple [.agg [.v (.int .i64 r.1.fType), .fresh 1 r.1.fDims.length (lm (ik .i64) r.1.fDims), .fresh 1 r.1.fF.length (lm (ik .u32) r.1.fF), .fresh 1 r.1.fI.length (lm (ik .i64) r.1.fI), .fresh 1 r.1.fB.length (lm (bk) r.1.fB)], .v (.int .i64 r.2)])
noncomputable def C39 (fu : Nat) : Cm Tryz.prog (Int × (List Int)) (T_Tensor × Int) := ⟨39, fun t => [.v (.int .i64 t.1), .arr t.2.length (lm (ik .i64) t.2)], fun t => tens_New fu t.1 t.2, e39, fun t b h => ok39 fu t.1 t.2  b h, Zi⟩
theorem u39 {fu : Nat} {cp : CallP} (H : Hit cp (C39 fu).ct) : K39 fu cp := ⟨fun {a0 a1 r} h => (C39 fu).at H (a0, a1) r h⟩
structure K40 (fu : Nat) (cp : CallP) : Prop where
 ap : ∀ {a0 : List Int} {a1 : Int} {r}, shape_Index fu a0 a1 = some r → cp 40 [.arr a0.length (lm (ik .i64) a0), .v (.int .i64 a1)] = some (.tuple [.fresh 1 r.1.length (lm (ik .i64) r.1), .v (.int .i64 r.2)])
noncomputable def C40 (fu : Nat) : Cm Tryz.prog ((List Int) × Int) ((List Int) × Int) := ⟨40, fun t => [.arr t.1.length (lm (ik .i64) t.1), .v (.int .i64 t.2)], fun t => shape_Index fu t.1 t.2, e40, fun t b h => ok40 fu t.1 t.2  b h, Zi⟩
theorem u40 {fu : Nat} {cp : CallP} (H : Hit cp (C40 fu).ct) : K40 fu cp := ⟨fun {a0 a1 r} h => (C40 fu).at H (a0, a1) r h⟩
structure K21 (fu : Nat) (cp : CallP) : Prop where
 ap : ∀ {a0 : T_conv_work} {a1 : Int} {a2 : Int} {a3 : Int} {a4 : Int} {r}, conv_work_sum fu a0 a1 a2 a3 a4 = some r → cp 21 [.ref (c_T_conv_work a0) 0, .v (.int .i64 a1), .v (.int .i64 a2), .v (.int .i64 a3), .v (.int .i64 a4)] = some (.v (.int .u32 r))
noncomputable def C21 (fu : Nat) : Cm Tryz.prog (T_conv_work × Int × Int × Int × Int) Int := ⟨21, fun t => [.ref (c_T_conv_work t.1) 0, .v (.int .i64 t.2.1), .v (.int .i64 t.2.2.1), .v (.int .i64 t.2.2.2.1), .v (.int .i64 t.2.2.2.2)], fun t => conv_work_sum fu t.1 t.2.1 t.2.2.1 t.2.2.2.1 t.2.2.2.2, e21, fun t b h => ok21 fu t.1 t.2.1 t.2.2.1 t.2.2.2.1 t.2.2.2.2  b h, Zi⟩
theorem u21 {fu : Nat} {cp : CallP} (H : Hit cp (C21 fu).ct) : K21 fu cp := ⟨fun {a0 a1 a2 a3 a4 r} h => (C21 fu).at H (a0, a1, a2, a3, a4) r h⟩
def conv_Do.m1 : LJ 1 6 Unit ((List Int) × Int) := ⟨fun r s e => [(0, er e 0), (1, er e 1), (4, er e 4), (5, er e 5), (20, er e 20), (21, .v (.int .i64 s.2))], fun r s h => [((0, 6, 0), hr h (0, 6, 0)), ((1, 21, 0), hr h (1, 21, 0)), ((1, 8, 114), hr h (1, 8, 114)), ((2, 4, 0), hr h (2, 4, 0)), ((2, 15, 0), hr h (2, 15, 0)), ((2, 15, 1), .sl true true 1 s.1.length (lm (ik .u32) s.1)), ((2, 15, 2), hr h (2, 15, 2)), ((2, 15, 3), hr h (2, 15, 3)), ((2, 5, 0), bs (hr h (2, 5, 0)) 2 (.own (2, 15, 1) 0 s.1.length s.1.length))]⟩
def conv_Do.m2 : LJ 2 10 Unit ((List T_Tensor) × Int) := ⟨fun r s e => [(0, er e 0), (2, er e 2), (4, er e 4), (8, er e 8), (22, er e 22), (23, er e 23), (24, .v (.int .i64 s.2))], fun r s h => [((0, 4, 0), hr h (0, 4, 0)), ((0, 6, 0), hr h (0, 6, 0)), ((1, 4, 0), hr h (1, 4, 0)), ((1, 21, 0), bs (hr h (1, 21, 0)) 36 (.own (1, 8, 114) 0 s.1.length s.1.length)), ((1, 8, 114), .sl true true 5 s.1.length (fm c_T_Tensor s.1))]⟩
def conv_Do.j1 : LJ 1 26 Unit (List T_Tensor) := ⟨fun r t e => [(0, er e 0), (2, er e 2), (4, er e 4), (8, er e 8)], fun r t h => [((0, 4, 0), hr h (0, 4, 0)), ((0, 6, 0), hr h (0, 6, 0)), ((1, 4, 0), hr h (1, 4, 0)), ((1, 21, 0), bs (hr h (1, 21, 0)) 36 (.own (1, 8, 114) 0 t.length t.length)), ((1, 8, 114), .sl true true 5 t.length (fm c_T_Tensor t))]⟩
set_option maxHeartbeats 400000000 in
open conv_Do in
theorem w8 (cp : CallP) (fu : Nat) (x1 : Int) (x2 : T_Setting) (x3 : List T_Tensor) (H1 : K34 fu cp) (H2 : K35 fu cp) (H3 : K36 fu cp) (H4 : K38 fu cp) (H5 : K37 fu cp) (H6 : K32 fu cp) (H7 : K39 fu cp) (H8 : K40 fu cp) (H9 : K21 fu cp) (H10 : K41 fu cp) : J (go Tryz.prog (inlC [19, 20]) cp (ciE Tryz.prog (inlC [19, 20]) cp (ciE Tryz.prog (inlC [19, 20]) cp noI fu 20 d20 ⟨b20, [.cell 4 28], [28]⟩ noI) fu 19 d19 ⟨b19, [.tmp 6, .tmp 7], [49, 32]⟩ (ciE Tryz.prog (inlC [19, 20]) cp noI fu 20 d20 ⟨b20, [.cell 4 28], [28]⟩ noI)) 0 [] d8 fu (finS Tryz.prog [.cell 6 28, .tmp 7] [28, 32]) (bodyOf Tryz.f8) (initE 0 [.v (.int .i64 x1), .agg (c_T_Setting x2), .arr x3.length (fm c_T_Tensor x3)]) [] []) (conv_Do fu x1 x2 x3) e8 := by
 unfold conv_Do e8
 conv => arg 1; simp only [bodyOf, Tryz.f8]
 have z0 := d8_at
 have z1 := SE
 have z2 := RL
 have z3 := d19_at
 have z4 := Tryz.f19.eq_1
 have z5 := @go_b19
 have z6 := d20_at
 have z7 := Tryz.f20.eq_1
 have z8 := @go_b20
 have z9 := RI
 have z10 := RIk
 have z11 := @bodyOf.eq_1
 exact Wk
theorem ok8 (fu : Nat) (x1 : Int) (x2 : T_Setting) (x3 : List T_Tensor) (r) (h : conv_Do fu x1 x2 x3 = some r) : PureOK Tryz.prog 8 [.v (.int .i64 x1), .agg (c_T_Setting x2), .arr x3.length (fm c_T_Tensor x3)] (e8 r) := pureST mixed [(C34 fu).ct, (C35 fu).ct, (C36 fu).ct, (C38 fu).ct, (C37 fu).ct, (C32 fu).ct, (C39 fu).ct, (C40 fu).ct, (C21 fu).ct, (C41 fu).ct] (ids := [34, 35, 36, 38, 37, 32, 39, 40, 21, 41]) rfl (by decide) i8 (C := (inlC [19, 20])) (ci := fun cp => (ciE Tryz.prog (inlC [19, 20]) cp (ciE Tryz.prog (inlC [19, 20]) cp noI fu 20 d20 ⟨b20, [.cell 4 28], [28]⟩ noI) fu 19 d19 ⟨b19, [.tmp 6, .tmp 7], [49, 32]⟩ (ciE Tryz.prog (inlC [19, 20]) cp noI fu 20 d20 ⟨b20, [.cell 4 28], [28]⟩ noI))) (fun cp ok => (ciE_ok mixed ok (ciE_ok mixed ok noI_ok i20 noI_ok) i19 (ciE_ok mixed ok noI_ok i20 noI_ok))) (fun cp H => w8 cp fu x1 x2 x3 (u34 H.1) (u35 H.2.1) (u36 H.2.2.1) (u38 H.2.2.2.1) (u37 H.2.2.2.2.1) (u32 H.2.2.2.2.2.1) (u39 H.2.2.2.2.2.2.1) (u40 H.2.2.2.2.2.2.2.1) (u21 H.2.2.2.2.2.2.2.2.1) (u41 H.2.2.2.2.2.2.2.2.2.1)) h
/-! 47: lattice/latticeref01.Below -/
def d47 : List (Nat × List Nat) := [(0, [2]), (0, []), (0, [0, 3, 4])]
def d47_at := by have h := tabL d47.eq_1; simp only [AllAt, Nat.zero_add, Nat.reduceAdd] at h; exact h
theorem i47 : finfo Tryz.prog 47 d47 = some ⟨bodyOf Tryz.f47, [.tmp 2], [4]⟩ := finfo_at Tryz.func47 rfl (by kernel_rfl) (by kernel_rfl)
def e47 : Bool → AV := fun r => .v (.bool r)
set_option maxHeartbeats 20000000 in
theorem w47 (cp : CallP) (fu : Nat) (x1 : Int)  : J (go Tryz.prog noC cp noI 0 [] d47 fu (fin Tryz.prog [.tmp 2] [4]) (bodyOf Tryz.f47) (initE 0 [.v (.int .u32 x1)]) [] []) (ref01_Below fu x1) e47 := by
 unfold ref01_Below e47
 conv => arg 1; simp only [bodyOf, Tryz.f47]
 have z0 := d47_at
 exact Wk
theorem ok47 (fu : Nat) (x1 : Int) (r) (h : ref01_Below fu x1 = some r) : PureOK Tryz.prog 47 [.v (.int .u32 x1)] (e47 r) := pureT mixed [] (ids := []) rfl (by decide) i47 (C := noC) (ci := fun cp => noI) (fun cp ok => noI_ok) (fun cp H => w47 cp fu x1 ) h
/-! 14: lattice/latticeref01.Abs -/
def d14 : List (Nat × List Nat) := [(0, [2]), (0, []), (0, [0, 3, 4])]
def d14_at := by have h := tabL d14.eq_1; simp only [AllAt, Nat.zero_add, Nat.reduceAdd] at h; exact h
theorem i14 : finfo Tryz.prog 14 d14 = some ⟨bodyOf Tryz.f14, [.tmp 2], [23]⟩ := finfo_at Tryz.func14 rfl (by kernel_rfl) (by kernel_rfl)
def e14 : Int → AV := fun r => .v (.int .u32 r)
set_option maxHeartbeats 20000000 in
theorem w14 (cp : CallP) (fu : Nat) (x1 : Int)  : J (go Tryz.prog noC cp noI 0 [] d14 fu (fin Tryz.prog [.tmp 2] [23]) (bodyOf Tryz.f14) (initE 0 [.v (.int .u32 x1)]) [] []) (ref01_Abs fu x1) e14 := by
 unfold ref01_Abs e14
 conv => arg 1; simp only [bodyOf, Tryz.f14]
 have z0 := d14_at
 exact Wk
theorem ok14 (fu : Nat) (x1 : Int) (r) (h : ref01_Abs fu x1 = some r) : PureOK Tryz.prog 14 [.v (.int .u32 x1)] (e14 r) := pureT mixed [] (ids := []) rfl (by decide) i14 (C := noC) (ci := fun cp => noI) (fun cp ok => noI_ok) (fun cp H => w14 cp fu x1 ) h
/-! 26: lattice/latticeref01.IsNone -/
def d26 : List (Nat × List Nat) := [(0, [2]), (0, []), (0, [0, 3, 4, 5])]
def d26_at := by have h := tabL d26.eq_1; simp only [AllAt, Nat.zero_add, Nat.reduceAdd] at h; exact h
theorem i26 : finfo Tryz.prog 26 d26 = some ⟨bodyOf Tryz.f26, [.tmp 2], [4]⟩ := finfo_at Tryz.func26 rfl (by kernel_rfl) (by kernel_rfl)
def e26 : Bool → AV := fun r => .v (.bool r)
structure K14 (fu : Nat) (cp : CallP) : Prop where
 ap : ∀ {a0 : Int} {r}, ref01_Abs fu a0 = some r → cp 14 [.v (.int .u32 a0)] = some (.v (.int .u32 r))
noncomputable def C14 (fu : Nat) : Cm Tryz.prog Int Int := ⟨14, fun t => [.v (.int .u32 t)], fun t => ref01_Abs fu t, e14, fun t b h => ok14 fu t  b h, Zi⟩
theorem u14 {fu : Nat} {cp : CallP} (H : Hit cp (C14 fu).ct) : K14 fu cp := ⟨fun {a0 r} h => (C14 fu).at H a0 r h⟩
set_option maxHeartbeats 20000000 in
theorem w26 (cp : CallP) (fu : Nat) (x1 : Int) (H1 : K14 fu cp) : J (go Tryz.prog noC cp noI 0 [] d26 fu (fin Tryz.prog [.tmp 2] [4]) (bodyOf Tryz.f26) (initE 0 [.v (.int .u32 x1)]) [] []) (ref01_IsNone fu x1) e26 := by
 unfold ref01_IsNone e26
 conv => arg 1; simp only [bodyOf, Tryz.f26]
 have z0 := d26_at
 exact Wk
theorem ok26 (fu : Nat) (x1 : Int) (r) (h : ref01_IsNone fu x1 = some r) : PureOK Tryz.prog 26 [.v (.int .u32 x1)] (e26 r) := pureT mixed [(C14 fu).ct] (ids := [14]) rfl (by decide) i26 (C := noC) (ci := fun cp => noI) (fun cp ok => noI_ok) (fun cp H => w26 cp fu x1 (u14 H.1)) h
/-! 53: lattice/latticeref01.signed -/
def d53 : List (Nat × List Nat) := [(0, [4]), (0, []), (0, [0]), (0, []), (0, [6, 7]), (0, []), (0, [1, 8])]
def d53_at := by have h := tabL d53.eq_1; simp only [AllAt, Nat.zero_add, Nat.reduceAdd] at h; exact h
theorem i53 : finfo Tryz.prog 53 d53 = some ⟨bodyOf Tryz.f53, [.tmp 4], [23]⟩ := finfo_at Tryz.func53 rfl (by kernel_rfl) (by kernel_rfl)
def e53 : Int → AV := fun r => .v (.int .u32 r)
set_option maxHeartbeats 20000000 in
theorem w53 (cp : CallP) (fu : Nat) (x1 : Bool) (x2 : Int)  : J (go Tryz.prog noC cp noI 0 [] d53 fu (fin Tryz.prog [.tmp 4] [23]) (bodyOf Tryz.f53) (initE 0 [.v (.bool x1), .v (.int .u32 x2)]) [] []) (ref01_signed fu x1 x2) e53 := by
 unfold ref01_signed e53
 conv => arg 1; simp only [bodyOf, Tryz.f53]
 have z0 := d53_at
 exact Wk
theorem ok53 (fu : Nat) (x1 : Bool) (x2 : Int) (r) (h : ref01_signed fu x1 x2 = some r) : PureOK Tryz.prog 53 [.v (.bool x1), .v (.int .u32 x2)] (e53 r) := pureT mixed [] (ids := []) rfl (by decide) i53 (C := noC) (ci := fun cp => noI) (fun cp ok => noI_ok) (fun cp H => w53 cp fu x1 x2 ) h
/-! 76: lattice/latticeref01.trim -/
def d76 : List (Nat × List Nat) := [(0, [2]), (0, []), (0, [4, 5]), (0, []), (0, [6, 7, 8, 9, 10, 11, 12, 13, 14]), (0, []), (0, [16, 17]), (0, []), (0, [0, 3, 18, 19, 20])]
def d76_at := by have h := tabL d76.eq_1; simp only [AllAt, Nat.zero_add, Nat.reduceAdd] at h; exact h
theorem i76 : finfo Tryz.prog 76 d76 = some ⟨bodyOf Tryz.f76, [.tmp 2], [81]⟩ := finfo_at Tryz.func76 rfl (by kernel_rfl) (by kernel_rfl)
def e76 : (List Int) → AV := fun r => .arr r.length (lm (ik .u32) r)
def ref01_trim.m1 : LJ 1 4 Unit Int := ⟨fun r s e => [(0, er e 0), (3, .v (.int .i64 s))], fun r s h => []⟩
set_option maxHeartbeats 20000000 in
open ref01_trim in
theorem w76 (cp : CallP) (fu : Nat) (x1 : List Int)  : J (go Tryz.prog noC cp noI 0 [] d76 fu (fin Tryz.prog [.tmp 2] [81]) (bodyOf Tryz.f76) (initE 0 [.arr x1.length (lm (ik .u32) x1)]) [] []) (ref01_trim fu x1) e76 := by
 unfold ref01_trim e76
 conv => arg 1; simp only [bodyOf, Tryz.f76]
 have z0 := d76_at
 exact Wk
theorem ok76 (fu : Nat) (x1 : List Int) (r) (h : ref01_trim fu x1 = some r) : PureOK Tryz.prog 76 [.arr x1.length (lm (ik .u32) x1)] (e76 r) := pureT mixed [] (ids := []) rfl (by decide) i76 (C := noC) (ci := fun cp => noI) (fun cp ok => noI_ok) (fun cp H => w76 cp fu x1 ) h
/-! 50: lattice/latticeref01.Of -/
def d50 : List (Nat × List Nat) := [(0, [2]), (0, []), (0, [0, 3, 4, 5, 6, 7, 8, 9, 10])]
def d50_at := by have h := tabL d50.eq_1; simp only [AllAt, Nat.zero_add, Nat.reduceAdd] at h; exact h
theorem i50 : finfo Tryz.prog 50 d50 = some ⟨bodyOf Tryz.f50, [.tmp 2], [81]⟩ := finfo_at Tryz.func50 rfl (by kernel_rfl) (by kernel_rfl)
def e50 : (List Int) → AV := fun r => .arr r.length (lm (ik .u32) r)
structure K76 (fu : Nat) (cp : CallP) : Prop where
 ap : ∀ {a0 : List Int} {r}, ref01_trim fu a0 = some r → cp 76 [.arr a0.length (lm (ik .u32) a0)] = some (.arr r.length (lm (ik .u32) r))
noncomputable def C76 (fu : Nat) : Cm Tryz.prog (List Int) (List Int) := ⟨76, fun t => [.arr t.length (lm (ik .u32) t)], fun t => ref01_trim fu t, e76, fun t b h => ok76 fu t  b h, Zi⟩
theorem u76 {fu : Nat} {cp : CallP} (H : Hit cp (C76 fu).ct) : K76 fu cp := ⟨fun {a0 r} h => (C76 fu).at H a0 r h⟩
set_option maxHeartbeats 20000000 in
theorem w50 (cp : CallP) (fu : Nat) (x1 : Int) (H1 : K76 fu cp) : J (go Tryz.prog noC cp noI 0 [] d50 fu (fin Tryz.prog [.tmp 2] [81]) (bodyOf Tryz.f50) (initE 0 [.v (.int .u64 x1)]) [] []) (ref01_Of fu x1) e50 := by
 unfold ref01_Of e50
 conv => arg 1; simp only [bodyOf, Tryz.f50]
 have z0 := d50_at
 exact Wk
theorem ok50 (fu : Nat) (x1 : Int) (r) (h : ref01_Of fu x1 = some r) : PureOK Tryz.prog 50 [.v (.int .u64 x1)] (e50 r) := pureT mixed [(C76 fu).ct] (ids := [76]) rfl (by decide) i50 (C := noC) (ci := fun cp => noI) (fun cp ok => noI_ok) (fun cp H => w50 cp fu x1 (u76 H.1)) h
/-! 55: lattice/latticeref01.Twice -/
def d55 : List (Nat × List Nat) := [(0, [4]), (0, [6]), (0, [1000005]), (0, []), (0, []), (0, [0, 1, 8]), (0, [10, 11, 12]), (0, []), (0, [14, 15]), (0, []), (0, [16, 17, 18]), (0, []), (0, []), (0, []), (0, []), (0, []), (0, [19, 20, 21]), (0, []), (0, [23, 24]), (0, []), (0, [25, 26, 27, 28, 29, 30, 31, 32, 33, 34]), (0, []), (0, [35, 36, 37, 38, 39, 40]), (0, []), (0, [9, 41, 42]), (0, []), (0, [5, 7, 43, 44, 45, 46, 47, 48])]
def d55_at := by have h := tabL d55.eq_1; simp only [AllAt, Nat.zero_add, Nat.reduceAdd] at h; exact h
theorem i55 : finfo Tryz.prog 55 d55 = some ⟨bodyOf Tryz.f55, [.tmp 4], [81]⟩ := finfo_at Tryz.func55 rfl (by kernel_rfl) (by kernel_rfl)
def e55 : (List Int) → AV := fun r => .arr r.length (lm (ik .u32) r)
def ref01_Twice.m1 : LJ 1 16 Unit ((List Int) × Int × Int) := ⟨fun r s e => [(0, er e 0), (1, er e 1), (5, .own (0, 5, 77) 0 s.1.length s.1.length), (7, .v (.int .u64 s.2.1)), (8, .v (.int .i64 s.2.2))], fun r s h => [((0, 5, 77), .sl true true 1 s.1.length (lm (ik .u32) s.1))]⟩
def ref01_Twice.j2 : LJ 2 26 Unit ((List Int) × Int) := ⟨fun r t e => [(5, .own (0, 5, 77) 0 t.1.length t.1.length), (7, .v (.int .u64 t.2))], fun r t h => [((0, 5, 77), .sl true true 1 t.1.length (lm (ik .u32) t.1))]⟩
def ref01_Twice.m2 : LJ 2 6 Unit ((List Int) × Int) := ⟨fun r s e => [(0, er e 0), (1, er e 1), (5, .own (0, 5, 77) 0 s.1.length s.1.length), (6, .v (.int .i64 s.2))], fun r s h => [((0, 5, 77), .sl true true 1 s.1.length (lm (ik .u32) s.1))]⟩
def ref01_Twice.j1 : LJ 1 12 Unit (List Int) := ⟨fun r t e => [(0, er e 0), (1, er e 1), (5, .own (0, 5, 77) 0 t.length t.length)], fun r t h => [((0, 5, 77), .sl true true 1 t.length (lm (ik .u32) t))]⟩
set_option maxHeartbeats 20000000 in
open ref01_Twice in
theorem w55 (cp : CallP) (fu : Nat) (x1 : List Int) (x2 : Int) (H1 : K76 fu cp) : J (go Tryz.prog noC cp noI 0 [] d55 fu (fin Tryz.prog [.tmp 4] [81]) (bodyOf Tryz.f55) (initE 0 [.arr x1.length (lm (ik .u32) x1), .v (.int .i64 x2)]) [] []) (ref01_Twice fu x1 x2) e55 := by
 unfold ref01_Twice e55
 conv => arg 1; simp only [bodyOf, Tryz.f55]
 have z0 := d55_at
 exact Wk
theorem ok55 (fu : Nat) (x1 : List Int) (x2 : Int) (r) (h : ref01_Twice fu x1 x2 = some r) : PureOK Tryz.prog 55 [.arr x1.length (lm (ik .u32) x1), .v (.int .i64 x2)] (e55 r) := pureT mixed [(C76 fu).ct] (ids := [76]) rfl (by decide) i55 (C := noC) (ci := fun cp => noI) (fun cp ok => noI_ok) (fun cp H => w55 cp fu x1 x2 (u76 H.1)) h
/-! 46: lattice/latticeref01.Amount -/
def d46 : List (Nat × List Nat) := [(0, [2]), (0, []), (0, [5, 6, 7]), (0, []), (0, [0, 8, 9, 10]), (0, []), (0, [11]), (0, []), (0, [13, 14]), (0, []), (0, [3, 4, 15, 16, 17, 18, 19, 20])]
def d46_at := by have h := tabL d46.eq_1; simp only [AllAt, Nat.zero_add, Nat.reduceAdd] at h; exact h
theorem i46 : finfo Tryz.prog 46 d46 = some ⟨bodyOf Tryz.f46, [.tmp 2], [81]⟩ := finfo_at Tryz.func46 rfl (by kernel_rfl) (by kernel_rfl)
def e46 : (List Int) → AV := fun r => .arr r.length (lm (ik .u32) r)
structure K50 (fu : Nat) (cp : CallP) : Prop where
 ap : ∀ {a0 : Int} {r}, ref01_Of fu a0 = some r → cp 50 [.v (.int .u64 a0)] = some (.arr r.length (lm (ik .u32) r))
noncomputable def C50 (fu : Nat) : Cm Tryz.prog Int (List Int) := ⟨50, fun t => [.v (.int .u64 t)], fun t => ref01_Of fu t, e50, fun t b h => ok50 fu t  b h, Zi⟩
theorem u50 {fu : Nat} {cp : CallP} (H : Hit cp (C50 fu).ct) : K50 fu cp := ⟨fun {a0 r} h => (C50 fu).at H a0 r h⟩
structure K55 (fu : Nat) (cp : CallP) : Prop where
 ap : ∀ {a0 : List Int} {a1 : Int} {r}, ref01_Twice fu a0 a1 = some r → cp 55 [.arr a0.length (lm (ik .u32) a0), .v (.int .i64 a1)] = some (.arr r.length (lm (ik .u32) r))
noncomputable def C55 (fu : Nat) : Cm Tryz.prog ((List Int) × Int) (List Int) := ⟨55, fun t => [.arr t.1.length (lm (ik .u32) t.1), .v (.int .i64 t.2)], fun t => ref01_Twice fu t.1 t.2, e55, fun t b h => ok55 fu t.1 t.2  b h, Zi⟩
theorem u55 {fu : Nat} {cp : CallP} (H : Hit cp (C55 fu).ct) : K55 fu cp := ⟨fun {a0 a1 r} h => (C55 fu).at H (a0, a1) r h⟩
set_option maxHeartbeats 20000000 in
theorem w46 (cp : CallP) (fu : Nat) (x1 : Int) (H1 : K50 fu cp) (H2 : K55 fu cp) : J (go Tryz.prog noC cp noI 0 [] d46 fu (fin Tryz.prog [.tmp 2] [81]) (bodyOf Tryz.f46) (initE 0 [.v (.int .u32 x1)]) [] []) (ref01_Amount fu x1) e46 := by
 unfold ref01_Amount e46
 conv => arg 1; simp only [bodyOf, Tryz.f46]
 have z0 := d46_at
 exact Wk
theorem ok46 (fu : Nat) (x1 : Int) (r) (h : ref01_Amount fu x1 = some r) : PureOK Tryz.prog 46 [.v (.int .u32 x1)] (e46 r) := pureT mixed [(C50 fu).ct, (C55 fu).ct] (ids := [50, 55]) rfl (by decide) i46 (C := noC) (ci := fun cp => noI) (fun cp ok => noI_ok) (fun cp H => w46 cp fu x1 (u50 H.1) (u55 H.2.1)) h
/-! 54: lattice/latticeref01.Times -/
def d54 : List (Nat × List Nat) := [(0, [4]), (0, [0, 1, 6]), (0, [10, 11, 12, 13, 14, 15]), (0, []), (0, []), (0, [8]), (0, [16, 17, 18]), (0, []), (0, [20, 21]), (0, []), (0, []), (0, []), (0, []), (0, []), (0, [22, 23, 24]), (0, []), (0, [26, 27]), (0, []), (22, [28, 29, 30, 31, 32, 33, 34, 35, 36, 37, 38, 39, 40, 41, 42, 43, 44, 45, 46, 47, 48]), (0, []), (0, [49, 50, 51, 52, 53, 54, 55, 56]), (0, []), (0, [9, 57, 58]), (0, []), (0, [7, 59, 60, 61, 62, 63, 64, 65, 66]), (0, []), (0, [5, 67, 68])]
def d54_at := by have h := tabL d54.eq_1; simp only [AllAt, Nat.zero_add, Nat.reduceAdd] at h; exact h
theorem i54 : finfo Tryz.prog 54 d54 = some ⟨bodyOf Tryz.f54, [.tmp 4], [81]⟩ := finfo_at Tryz.func54 rfl (by kernel_rfl) (by kernel_rfl)
def e54 : (List Int) → AV := fun r => .arr r.length (lm (ik .u32) r)
def ref01_Times.m2 : LJ 2 14 Unit ((List Int) × Int × Int) := ⟨fun r s e => [(0, er e 0), (1, er e 1), (5, .own (0, 15, 0) 0 s.1.length s.1.length), (6, er e 6), (7, .v (.int .u64 s.2.1)), (8, .v (.int .i64 s.2.2))], fun r s h => [((0, 15, 0), .sl true true 1 s.1.length (lm (ik .u32) s.1))]⟩
def ref01_Times.j2 : LJ 2 24 Unit ((List Int) × Int) := ⟨fun r t e => [(0, er e 0), (1, er e 1), (5, .own (0, 15, 0) 0 t.1.length t.1.length), (6, er e 6), (7, .v (.int .u64 t.2))], fun r t h => [((0, 15, 0), .sl true true 1 t.1.length (lm (ik .u32) t.1))]⟩
def ref01_Times.m1 : LJ 1 6 Unit ((List Int) × Int) := ⟨fun r s e => [(0, er e 0), (1, er e 1), (5, .own (0, 15, 0) 0 s.1.length s.1.length), (6, .v (.int .i64 s.2))], fun r s h => [((0, 15, 0), .sl true true 1 s.1.length (lm (ik .u32) s.1))]⟩
def ref01_Times.j1 : LJ 1 26 Unit (List Int) := ⟨fun r t e => [(5, .own (0, 15, 0) 0 t.length t.length)], fun r t h => [((0, 15, 0), .sl true true 1 t.length (lm (ik .u32) t))]⟩
set_option maxHeartbeats 20000000 in
open ref01_Times in
theorem w54 (cp : CallP) (fu : Nat) (x1 : List Int) (x2 : List Int) (H1 : K76 fu cp) : J (go Tryz.prog noC cp noI 0 [] d54 fu (fin Tryz.prog [.tmp 4] [81]) (bodyOf Tryz.f54) (initE 0 [.arr x1.length (lm (ik .u32) x1), .arr x2.length (lm (ik .u32) x2)]) [] []) (ref01_Times fu x1 x2) e54 := by
 unfold ref01_Times e54
 conv => arg 1; simp only [bodyOf, Tryz.f54]
 have z0 := d54_at
 exact Wk
theorem ok54 (fu : Nat) (x1 : List Int) (x2 : List Int) (r) (h : ref01_Times fu x1 x2 = some r) : PureOK Tryz.prog 54 [.arr x1.length (lm (ik .u32) x1), .arr x2.length (lm (ik .u32) x2)] (e54 r) := pureT mixed [(C76 fu).ct] (ids := [76]) rfl (by decide) i54 (C := noC) (ci := fun cp => noI) (fun cp ok => noI_ok) (fun cp H => w54 cp fu x1 x2 (u76 H.1)) h
/-! 51: lattice/latticeref01.Compare -/
def d51 : List (Nat × List Nat) := [(0, [4]), (0, [0, 1, 5]), (0, [6, 7, 8, 9]), (0, []), (0, [11, 12, 13, 14]), (0, []), (0, []), (0, []), (0, []), (0, []), (0, [16, 17, 18]), (0, []), (0, [19]), (0, []), (0, [21, 22]), (0, []), (9, [23, 24, 25, 26, 27, 28, 29, 30]), (0, []), (0, []), (0, []), (9, [32, 33, 34, 35, 36, 37, 38, 39]), (0, []), (0, []), (0, []), (0, [])]
def d51_at := by have h := tabL d51.eq_1; simp only [AllAt, Nat.zero_add, Nat.reduceAdd] at h; exact h
theorem i51 : finfo Tryz.prog 51 d51 = some ⟨bodyOf Tryz.f51, [.tmp 4], [3]⟩ := finfo_at Tryz.func51 rfl (by kernel_rfl) (by kernel_rfl)
def e51 : Int → AV := fun r => .v (.int .i64 r)
def ref01_Compare.m1 : LJ 1 12 Unit Int := ⟨fun r s e => [(0, er e 0), (1, er e 1), (5, .v (.int .i64 s))], fun r s h => []⟩
set_option maxHeartbeats 20000000 in
open ref01_Compare in
theorem w51 (cp : CallP) (fu : Nat) (x1 : List Int) (x2 : List Int)  : J (go Tryz.prog noC cp noI 0 [] d51 fu (fin Tryz.prog [.tmp 4] [3]) (bodyOf Tryz.f51) (initE 0 [.arr x1.length (lm (ik .u32) x1), .arr x2.length (lm (ik .u32) x2)]) [] []) (ref01_Compare fu x1 x2) e51 := by
 unfold ref01_Compare e51
 conv => arg 1; simp only [bodyOf, Tryz.f51]
 have z0 := d51_at
 exact Wk
theorem ok51 (fu : Nat) (x1 : List Int) (x2 : List Int) (r) (h : ref01_Compare fu x1 x2 = some r) : PureOK Tryz.prog 51 [.arr x1.length (lm (ik .u32) x1), .arr x2.length (lm (ik .u32) x2)] (e51 r) := pureT mixed [] (ids := []) rfl (by decide) i51 (C := noC) (ci := fun cp => noI) (fun cp ok => noI_ok) (fun cp H => w51 cp fu x1 x2 ) h
/-! 75: lattice/latticeref01.least -/
def d75 : List (Nat × List Nat) := [(0, [4]), (0, [0, 1, 6]), (0, []), (0, [7]), (0, []), (0, []), (0, [8, 9, 10]), (0, []), (0, [12, 13, 14, 15, 16, 17]), (0, []), (0, [18, 19, 20, 21, 22, 23]), (0, []), (0, [25]), (0, []), (0, [26]), (0, []), (0, [5, 27])]
def d75_at := by have h := tabL d75.eq_1; simp only [AllAt, Nat.zero_add, Nat.reduceAdd] at h; exact h
theorem i75 : finfo Tryz.prog 75 d75 = some ⟨bodyOf Tryz.f75, [.tmp 4], [23]⟩ := finfo_at Tryz.func75 rfl (by kernel_rfl) (by kernel_rfl)
def e75 : Int → AV := fun r => .v (.int .u32 r)
structure K46 (fu : Nat) (cp : CallP) : Prop where
 ap : ∀ {a0 : Int} {r}, ref01_Amount fu a0 = some r → cp 46 [.v (.int .u32 a0)] = some (.arr r.length (lm (ik .u32) r))
noncomputable def C46 (fu : Nat) : Cm Tryz.prog Int (List Int) := ⟨46, fun t => [.v (.int .u32 t)], fun t => ref01_Amount fu t, e46, fun t b h => ok46 fu t  b h, Zi⟩
theorem u46 {fu : Nat} {cp : CallP} (H : Hit cp (C46 fu).ct) : K46 fu cp := ⟨fun {a0 r} h => (C46 fu).at H a0 r h⟩
structure K54 (fu : Nat) (cp : CallP) : Prop where
 ap : ∀ {a0 : List Int} {a1 : List Int} {r}, ref01_Times fu a0 a1 = some r → cp 54 [.arr a0.length (lm (ik .u32) a0), .arr a1.length (lm (ik .u32) a1)] = some (.arr r.length (lm (ik .u32) r))
noncomputable def C54 (fu : Nat) : Cm Tryz.prog ((List Int) × (List Int)) (List Int) := ⟨54, fun t => [.arr t.1.length (lm (ik .u32) t.1), .arr t.2.length (lm (ik .u32) t.2)], fun t => ref01_Times fu t.1 t.2, e54, fun t b h => ok54 fu t.1 t.2  b h, Zi⟩
theorem u54 {fu : Nat} {cp : CallP} (H : Hit cp (C54 fu).ct) : K54 fu cp := ⟨fun {a0 a1 r} h => (C54 fu).at H (a0, a1) r h⟩
structure K51 (fu : Nat) (cp : CallP) : Prop where
 ap : ∀ {a0 : List Int} {a1 : List Int} {r}, ref01_Compare fu a0 a1 = some r → cp 51 [.arr a0.length (lm (ik .u32) a0), .arr a1.length (lm (ik .u32) a1)] = some (.v (.int .i64 r))
noncomputable def C51 (fu : Nat) : Cm Tryz.prog ((List Int) × (List Int)) Int := ⟨51, fun t => [.arr t.1.length (lm (ik .u32) t.1), .arr t.2.length (lm (ik .u32) t.2)], fun t => ref01_Compare fu t.1 t.2, e51, fun t b h => ok51 fu t.1 t.2  b h, Zi⟩
theorem u51 {fu : Nat} {cp : CallP} (H : Hit cp (C51 fu).ct) : K51 fu cp := ⟨fun {a0 a1 r} h => (C51 fu).at H (a0, a1) r h⟩
def ref01_least.m1 : LJ 1 6 Unit (Int × Int) := ⟨fun r s e => [(0, er e 0), (1, er e 1), (5, .v (.int .u32 s.1)), (6, .v (.int .u32 s.2))], fun r s h => []⟩
set_option maxHeartbeats 20000000 in
open ref01_least in
theorem w75 (cp : CallP) (fu : Nat) (x1 : List Int) (x2 : List Int) (H1 : K46 fu cp) (H2 : K54 fu cp) (H3 : K51 fu cp) : J (go Tryz.prog noC cp noI 0 [] d75 fu (fin Tryz.prog [.tmp 4] [23]) (bodyOf Tryz.f75) (initE 0 [.arr x1.length (lm (ik .u32) x1), .arr x2.length (lm (ik .u32) x2)]) [] []) (ref01_least fu x1 x2) e75 := by
 unfold ref01_least e75
 conv => arg 1; simp only [bodyOf, Tryz.f75]
 have z0 := d75_at
 exact Wk
theorem ok75 (fu : Nat) (x1 : List Int) (x2 : List Int) (r) (h : ref01_least fu x1 x2 = some r) : PureOK Tryz.prog 75 [.arr x1.length (lm (ik .u32) x1), .arr x2.length (lm (ik .u32) x2)] (e75 r) := pureT mixed [(C46 fu).ct, (C54 fu).ct, (C51 fu).ct] (ids := [46, 54, 51]) rfl (by decide) i75 (C := noC) (ci := fun cp => noI) (fun cp ok => noI_ok) (fun cp H => w75 cp fu x1 x2 (u46 H.1) (u54 H.2.1) (u51 H.2.2.1)) h
/-! 49: lattice/latticeref01.Plus -/
def d49 : List (Nat × List Nat) := [(0, [4]), (0, [0, 1, 6, 7]), (0, [1000005]), (0, []), (0, []), (0, []), (0, []), (0, []), (0, [9, 10, 11, 12, 13, 14, 15, 16, 17, 18, 19, 20, 21]), (0, []), (0, [23, 24]), (0, []), (0, [25]), (0, []), (0, [26, 27, 28]), (0, []), (0, [30, 31, 32, 33, 34, 35, 36]), (0, []), (0, [37, 38, 39]), (0, []), (0, [41, 42, 43, 44, 45, 46, 47]), (0, []), (0, [48, 49, 50, 51, 52, 53]), (0, []), (0, [8, 54, 55]), (0, []), (0, [5, 56, 57])]
def d49_at := by have h := tabL d49.eq_1; simp only [AllAt, Nat.zero_add, Nat.reduceAdd] at h; exact h
theorem i49 : finfo Tryz.prog 49 d49 = some ⟨bodyOf Tryz.f49, [.tmp 4], [81]⟩ := finfo_at Tryz.func49 rfl (by kernel_rfl) (by kernel_rfl)
def e49 : (List Int) → AV := fun r => .arr r.length (lm (ik .u32) r)
def ref01_Plus.j4 : LJ 4 22 Unit Int := ⟨fun r t e => [(0, er e 0), (1, er e 1), (5, er e 5), (6, er e 6), (7, er e 7), (8, .v (.int .u64 t))], fun r t h => [((0, 5, 77), hr h (0, 5, 77))]⟩
def ref01_Plus.j3 : LJ 3 18 Unit Int := ⟨fun r t e => [(0, er e 0), (1, er e 1), (5, er e 5), (6, er e 6), (7, er e 7), (8, .v (.int .u64 t))], fun r t h => [((0, 5, 77), hr h (0, 5, 77))]⟩
def ref01_Plus.j2 : LJ 2 3 Unit Unit := ⟨fun r t e => [(0, er e 0), (1, er e 1), (5, er e 5), (6, er e 6), (7, er e 7)], fun r t h => [((0, 5, 77), hr h (0, 5, 77))]⟩
def ref01_Plus.m1 : LJ 1 8 Unit ((List Int) × Int × Int) := ⟨fun r s e => [(0, er e 0), (1, er e 1), (5, .own (0, 5, 77) 0 s.1.length s.1.length), (6, .v (.int .u64 s.2.1)), (7, .v (.int .i64 s.2.2))], fun r s h => [((0, 5, 77), .sl true true 1 s.1.length (lm (ik .u32) s.1))]⟩
def ref01_Plus.j1 : LJ 1 26 Unit (List Int) := ⟨fun r t e => [(5, .own (0, 5, 77) 0 t.length t.length)], fun r t h => [((0, 5, 77), .sl true true 1 t.length (lm (ik .u32) t))]⟩
set_option maxHeartbeats 20000000 in
open ref01_Plus in
theorem w49 (cp : CallP) (fu : Nat) (x1 : List Int) (x2 : List Int) (H1 : K76 fu cp) : J (go Tryz.prog noC cp noI 0 [] d49 fu (fin Tryz.prog [.tmp 4] [81]) (bodyOf Tryz.f49) (initE 0 [.arr x1.length (lm (ik .u32) x1), .arr x2.length (lm (ik .u32) x2)]) [] []) (ref01_Plus fu x1 x2) e49 := by
 unfold ref01_Plus e49
 conv => arg 1; simp only [bodyOf, Tryz.f49]
 have z0 := d49_at
 exact Wk
theorem ok49 (fu : Nat) (x1 : List Int) (x2 : List Int) (r) (h : ref01_Plus fu x1 x2 = some r) : PureOK Tryz.prog 49 [.arr x1.length (lm (ik .u32) x1), .arr x2.length (lm (ik .u32) x2)] (e49 r) := pureT mixed [(C76 fu).ct] (ids := [76]) rfl (by decide) i49 (C := noC) (ci := fun cp => noI) (fun cp ok => noI_ok) (fun cp H => w49 cp fu x1 x2 (u76 H.1)) h
/-! 48: lattice/latticeref01.Rounded -/
def d48 : List (Nat × List Nat) := [(0, [8]), (0, []), (0, [15, 16, 17]), (0, []), (0, []), (0, []), (0, []), (0, []), (0, []), (0, []), (0, [19, 20, 21, 22, 23, 24, 25, 26, 27, 28, 29, 30, 31]), (0, []), (0, [0, 1, 32, 33, 34, 35, 36, 37, 38, 39, 40, 41, 42, 43, 44]), (0, []), (0, [45, 46, 47, 48, 49, 50, 51]), (0, []), (0, [52]), (0, []), (0, []), (0, []), (0, [55, 56]), (0, []), (0, [57, 58]), (0, []), (0, [12, 13, 59, 60, 61]), (0, []), (0, [63, 64, 65]), (0, []), (0, [11]), (0, []), (0, [67, 68, 69, 70]), (0, []), (0, [2, 3, 71, 72, 73, 74, 75, 76, 77, 78, 79, 80, 81]), (0, []), (0, [14, 82, 83, 84, 85, 86, 87, 88, 89, 90, 91]), (0, []), (0, [93, 94, 95, 96]), (0, []), (0, [9, 10, 97, 98, 99])]
def d48_at := by have h := tabL d48.eq_1; simp only [AllAt, Nat.zero_add, Nat.reduceAdd] at h; exact h
theorem i48 : finfo Tryz.prog 48 d48 = some ⟨bodyOf Tryz.f48, [.tmp 8], [23]⟩ := finfo_at Tryz.func48 rfl (by kernel_rfl) (by kernel_rfl)
def e48 : Int → AV := fun r => .v (.int .u32 r)
structure K75 (fu : Nat) (cp : CallP) : Prop where
 ap : ∀ {a0 : List Int} {a1 : List Int} {r}, ref01_least fu a0 a1 = some r → cp 75 [.arr a0.length (lm (ik .u32) a0), .arr a1.length (lm (ik .u32) a1)] = some (.v (.int .u32 r))
noncomputable def C75 (fu : Nat) : Cm Tryz.prog ((List Int) × (List Int)) Int := ⟨75, fun t => [.arr t.1.length (lm (ik .u32) t.1), .arr t.2.length (lm (ik .u32) t.2)], fun t => ref01_least fu t.1 t.2, e75, fun t b h => ok75 fu t.1 t.2  b h, Zi⟩
theorem u75 {fu : Nat} {cp : CallP} (H : Hit cp (C75 fu).ct) : K75 fu cp := ⟨fun {a0 a1 r} h => (C75 fu).at H (a0, a1) r h⟩
structure K49 (fu : Nat) (cp : CallP) : Prop where
 ap : ∀ {a0 : List Int} {a1 : List Int} {r}, ref01_Plus fu a0 a1 = some r → cp 49 [.arr a0.length (lm (ik .u32) a0), .arr a1.length (lm (ik .u32) a1)] = some (.arr r.length (lm (ik .u32) r))
noncomputable def C49 (fu : Nat) : Cm Tryz.prog ((List Int) × (List Int)) (List Int) := ⟨49, fun t => [.arr t.1.length (lm (ik .u32) t.1), .arr t.2.length (lm (ik .u32) t.2)], fun t => ref01_Plus fu t.1 t.2, e49, fun t b h => ok49 fu t.1 t.2  b h, Zi⟩
theorem u49 {fu : Nat} {cp : CallP} (H : Hit cp (C49 fu).ct) : K49 fu cp := ⟨fun {a0 a1 r} h => (C49 fu).at H (a0, a1) r h⟩
def ref01_Rounded.j4 : LJ 4 28 Unit Unit := ⟨fun r t e => [(2, er e 2), (3, er e 3), (9, er e 9), (10, er e 10), (11, er e 11)], fun r t h => []⟩
def ref01_Rounded.j3 : LJ 3 14 Unit Bool := ⟨fun r t e => [(2, er e 2), (3, er e 3), (9, er e 9), (10, er e 10), (11, er e 11), (12, .v (.bool t))], fun r t h => []⟩
def ref01_Rounded.j2 : LJ 2 12 Unit (Bool × Bool) := ⟨fun r t e => [(0, er e 0), (1, .v (.bool t.1)), (2, er e 2), (3, er e 3), (9, er e 9), (10, er e 10), (11, .v (.bool t.2))], fun r t h => []⟩
def ref01_Rounded.j1 : LJ 1 10 Unit (Bool × Int) := ⟨fun r t e => [(0, er e 0), (1, .v (.bool t.1)), (2, er e 2), (3, er e 3), (9, er e 9), (10, .v (.int .u32 t.2))], fun r t h => []⟩
set_option maxHeartbeats 20000000 in
open ref01_Rounded in
theorem w48 (cp : CallP) (fu : Nat) (x1 : Int) (x2 : Bool) (x3 : List Int) (x4 : List Int) (H1 : K75 fu cp) (H2 : K46 fu cp) (H3 : K54 fu cp) (H4 : K51 fu cp) (H5 : K49 fu cp) (H6 : K55 fu cp) : J (go Tryz.prog noC cp noI 0 [] d48 fu (fin Tryz.prog [.tmp 8] [23]) (bodyOf Tryz.f48) (initE 0 [.v (.int .i64 x1), .v (.bool x2), .arr x3.length (lm (ik .u32) x3), .arr x4.length (lm (ik .u32) x4)]) [] []) (ref01_Rounded fu x1 x2 x3 x4) e48 := by
 unfold ref01_Rounded e48
 conv => arg 1; simp only [bodyOf, Tryz.f48]
 have z0 := d48_at
 exact Wk
theorem ok48 (fu : Nat) (x1 : Int) (x2 : Bool) (x3 : List Int) (x4 : List Int) (r) (h : ref01_Rounded fu x1 x2 x3 x4 = some r) : PureOK Tryz.prog 48 [.v (.int .i64 x1), .v (.bool x2), .arr x3.length (lm (ik .u32) x3), .arr x4.length (lm (ik .u32) x4)] (e48 r) := pureT mixed [(C75 fu).ct, (C46 fu).ct, (C54 fu).ct, (C51 fu).ct, (C49 fu).ct, (C55 fu).ct] (ids := [75, 46, 54, 51, 49, 55]) rfl (by decide) i48 (C := noC) (ci := fun cp => noI) (fun cp ok => noI_ok) (fun cp H => w48 cp fu x1 x2 x3 x4 (u75 H.1) (u46 H.2.1) (u54 H.2.2.1) (u51 H.2.2.2.1) (u49 H.2.2.2.2.1) (u55 H.2.2.2.2.2.1)) h
/-! 28: lattice/latticeref01.MulBy -/
def d28 : List (Nat × List Nat) := [(0, [6]), (0, []), (0, [8, 9, 10, 11, 12]), (0, []), (0, [14, 15, 16, 17, 18, 19]), (0, []), (0, []), (0, []), (0, [21, 22, 23, 24, 25, 26, 27, 28]), (0, []), (0, [29, 30, 31, 32, 33, 34, 35]), (0, []), (0, []), (0, []), (0, [37, 38]), (0, []), (0, [0, 1, 2, 7, 39, 40, 41, 42, 43, 44, 45, 46, 47, 48, 49, 50])]
def d28_at := by have h := tabL d28.eq_1; simp only [AllAt, Nat.zero_add, Nat.reduceAdd] at h; exact h
theorem i28 : finfo Tryz.prog 28 d28 = some ⟨bodyOf Tryz.f28, [.tmp 6], [23]⟩ := finfo_at Tryz.func28 rfl (by kernel_rfl) (by kernel_rfl)
def e28 : Int → AV := fun r => .v (.int .u32 r)
structure K47 (fu : Nat) (cp : CallP) : Prop where
 ap : ∀ {a0 : Int} {r}, ref01_Below fu a0 = some r → cp 47 [.v (.int .u32 a0)] = some (.v (.bool r))
noncomputable def C47 (fu : Nat) : Cm Tryz.prog Int Bool := ⟨47, fun t => [.v (.int .u32 t)], fun t => ref01_Below fu t, e47, fun t b h => ok47 fu t  b h, Zi⟩
theorem u47 {fu : Nat} {cp : CallP} (H : Hit cp (C47 fu).ct) : K47 fu cp := ⟨fun {a0 r} h => (C47 fu).at H a0 r h⟩
structure K26 (fu : Nat) (cp : CallP) : Prop where
 ap : ∀ {a0 : Int} {r}, ref01_IsNone fu a0 = some r → cp 26 [.v (.int .u32 a0)] = some (.v (.bool r))
noncomputable def C26 (fu : Nat) : Cm Tryz.prog Int Bool := ⟨26, fun t => [.v (.int .u32 t)], fun t => ref01_IsNone fu t, e26, fun t b h => ok26 fu t  b h, Zi⟩
theorem u26 {fu : Nat} {cp : CallP} (H : Hit cp (C26 fu).ct) : K26 fu cp := ⟨fun {a0 r} h => (C26 fu).at H a0 r h⟩
structure K53 (fu : Nat) (cp : CallP) : Prop where
 ap : ∀ {a0 : Bool} {a1 : Int} {r}, ref01_signed fu a0 a1 = some r → cp 53 [.v (.bool a0), .v (.int .u32 a1)] = some (.v (.int .u32 r))
noncomputable def C53 (fu : Nat) : Cm Tryz.prog (Bool × Int) Int := ⟨53, fun t => [.v (.bool t.1), .v (.int .u32 t.2)], fun t => ref01_signed fu t.1 t.2, e53, fun t b h => ok53 fu t.1 t.2  b h, Zi⟩
theorem u53 {fu : Nat} {cp : CallP} (H : Hit cp (C53 fu).ct) : K53 fu cp := ⟨fun {a0 a1 r} h => (C53 fu).at H (a0, a1) r h⟩
structure K48 (fu : Nat) (cp : CallP) : Prop where
 ap : ∀ {a0 : Int} {a1 : Bool} {a2 : List Int} {a3 : List Int} {r}, ref01_Rounded fu a0 a1 a2 a3 = some r → cp 48 [.v (.int .i64 a0), .v (.bool a1), .arr a2.length (lm (ik .u32) a2), .arr a3.length (lm (ik .u32) a3)] = some (.v (.int .u32 r))
noncomputable def C48 (fu : Nat) : Cm Tryz.prog (Int × Bool × (List Int) × (List Int)) Int := ⟨48, fun t => [.v (.int .i64 t.1), .v (.bool t.2.1), .arr t.2.2.1.length (lm (ik .u32) t.2.2.1), .arr t.2.2.2.length (lm (ik .u32) t.2.2.2)], fun t => ref01_Rounded fu t.1 t.2.1 t.2.2.1 t.2.2.2, e48, fun t b h => ok48 fu t.1 t.2.1 t.2.2.1 t.2.2.2  b h, Zi⟩
theorem u48 {fu : Nat} {cp : CallP} (H : Hit cp (C48 fu).ct) : K48 fu cp := ⟨fun {a0 a1 a2 a3 r} h => (C48 fu).at H (a0, a1, a2, a3) r h⟩
def ref01_MulBy.j2 : LJ 2 14 Unit Unit := ⟨fun r t e => [(0, er e 0), (1, er e 1), (2, er e 2), (7, er e 7)], fun r t h => []⟩
def ref01_MulBy.j3 : LJ 3 14 Unit Unit := ⟨fun r t e => [(0, er e 0), (1, er e 1), (2, er e 2), (7, er e 7)], fun r t h => []⟩
def ref01_MulBy.j1 : LJ 1 16 Unit Unit := ⟨fun r t e => [(0, er e 0), (1, er e 1), (2, er e 2), (7, er e 7)], fun r t h => []⟩
set_option maxHeartbeats 20000000 in
open ref01_MulBy in
theorem w28 (cp : CallP) (fu : Nat) (x1 : Int) (x2 : Int) (x3 : Int) (H1 : K47 fu cp) (H2 : K26 fu cp) (H3 : K14 fu cp) (H4 : K53 fu cp) (H5 : K46 fu cp) (H6 : K54 fu cp) (H7 : K50 fu cp) (H8 : K55 fu cp) (H9 : K48 fu cp) : J (go Tryz.prog noC cp noI 0 [] d28 fu (fin Tryz.prog [.tmp 6] [23]) (bodyOf Tryz.f28) (initE 0 [.v (.int .i64 x1), .v (.int .u32 x2), .v (.int .u32 x3)]) [] []) (ref01_MulBy fu x1 x2 x3) e28 := by
 unfold ref01_MulBy e28
 conv => arg 1; simp only [bodyOf, Tryz.f28]
 have z0 := d28_at
 exact Wk
theorem ok28 (fu : Nat) (x1 : Int) (x2 : Int) (x3 : Int) (r) (h : ref01_MulBy fu x1 x2 x3 = some r) : PureOK Tryz.prog 28 [.v (.int .i64 x1), .v (.int .u32 x2), .v (.int .u32 x3)] (e28 r) := pureT mixed [(C47 fu).ct, (C26 fu).ct, (C14 fu).ct, (C53 fu).ct, (C46 fu).ct, (C54 fu).ct, (C50 fu).ct, (C55 fu).ct, (C48 fu).ct] (ids := [47, 26, 14, 53, 46, 54, 50, 55, 48]) rfl (by decide) i28 (C := noC) (ci := fun cp => noI) (fun cp ok => noI_ok) (fun cp H => w28 cp fu x1 x2 x3 (u47 H.1) (u26 H.2.1) (u14 H.2.2.1) (u53 H.2.2.2.1) (u46 H.2.2.2.2.1) (u54 H.2.2.2.2.2.1) (u50 H.2.2.2.2.2.2.1) (u55 H.2.2.2.2.2.2.2.1) (u48 H.2.2.2.2.2.2.2.2.1)) h
/-! 16: lattice/latticeref01.Mul -/
def d16 : List (Nat × List Nat) := [(0, [4]), (0, []), (0, [0, 1, 5, 6, 7])]
def d16_at := by have h := tabL d16.eq_1; simp only [AllAt, Nat.zero_add, Nat.reduceAdd] at h; exact h
theorem i16 : finfo Tryz.prog 16 d16 = some ⟨bodyOf Tryz.f16, [.tmp 4], [23]⟩ := finfo_at Tryz.func16 rfl (by kernel_rfl) (by kernel_rfl)
def e16 : Int → AV := fun r => .v (.int .u32 r)
structure K28 (fu : Nat) (cp : CallP) : Prop where
 ap : ∀ {a0 : Int} {a1 : Int} {a2 : Int} {r}, ref01_MulBy fu a0 a1 a2 = some r → cp 28 [.v (.int .i64 a0), .v (.int .u32 a1), .v (.int .u32 a2)] = some (.v (.int .u32 r))
noncomputable def C28 (fu : Nat) : Cm Tryz.prog (Int × Int × Int) Int := ⟨28, fun t => [.v (.int .i64 t.1), .v (.int .u32 t.2.1), .v (.int .u32 t.2.2)], fun t => ref01_MulBy fu t.1 t.2.1 t.2.2, e28, fun t b h => ok28 fu t.1 t.2.1 t.2.2  b h, Zi⟩
theorem u28 {fu : Nat} {cp : CallP} (H : Hit cp (C28 fu).ct) : K28 fu cp := ⟨fun {a0 a1 a2 r} h => (C28 fu).at H (a0, a1, a2) r h⟩
set_option maxHeartbeats 20000000 in
theorem w16 (cp : CallP) (fu : Nat) (x1 : Int) (x2 : Int) (H1 : K28 fu cp) : J (go Tryz.prog noC cp noI 0 [] d16 fu (fin Tryz.prog [.tmp 4] [23]) (bodyOf Tryz.f16) (initE 0 [.v (.int .u32 x1), .v (.int .u32 x2)]) [] []) (ref01_Mul fu x1 x2) e16 := by
 unfold ref01_Mul e16
 conv => arg 1; simp only [bodyOf, Tryz.f16]
 have z0 := d16_at
 exact Wk
theorem ok16 (fu : Nat) (x1 : Int) (x2 : Int) (r) (h : ref01_Mul fu x1 x2 = some r) : PureOK Tryz.prog 16 [.v (.int .u32 x1), .v (.int .u32 x2)] (e16 r) := pureT mixed [(C28 fu).ct] (ids := [28]) rfl (by decide) i16 (C := noC) (ci := fun cp => noI) (fun cp ok => noI_ok) (fun cp H => w16 cp fu x1 x2 (u28 H.1)) h
/-! 52: lattice/latticeref01.Minus -/
def d52 : List (Nat × List Nat) := [(0, [4]), (0, [0, 1, 6, 7]), (0, [1000005]), (0, []), (0, []), (0, []), (0, []), (0, []), (0, [10, 11, 12]), (0, []), (0, [14, 15]), (0, []), (0, [16]), (0, []), (0, [17, 18, 19]), (0, []), (0, [21, 22, 23, 24, 25, 26, 27]), (0, []), (0, [28, 29, 30, 31, 32]), (0, []), (0, []), (0, []), (0, [33, 34]), (0, []), (0, [36, 37]), (0, []), (0, []), (0, []), (0, [8, 9, 38, 39, 40, 41, 42, 43, 44]), (0, []), (0, [5, 45, 46])]
def d52_at := by have h := tabL d52.eq_1; simp only [AllAt, Nat.zero_add, Nat.reduceAdd] at h; exact h
theorem i52 : finfo Tryz.prog 52 d52 = some ⟨bodyOf Tryz.f52, [.tmp 4], [81]⟩ := finfo_at Tryz.func52 rfl (by kernel_rfl) (by kernel_rfl)
def e52 : (List Int) → AV := fun r => .arr r.length (lm (ik .u32) r)
def ref01_Minus.j3 : LJ 3 28 Unit (Int × Int) := ⟨fun r t e => [(0, er e 0), (1, er e 1), (5, er e 5), (6, .v (.int .u64 t.1)), (7, er e 7), (8, er e 8), (9, .v (.int .u64 t.2))], fun r t h => [((0, 5, 77), hr h (0, 5, 77))]⟩
def ref01_Minus.j2 : LJ 2 18 Unit Int := ⟨fun r t e => [(0, er e 0), (1, er e 1), (5, er e 5), (6, er e 6), (7, er e 7), (8, .v (.int .u64 t))], fun r t h => [((0, 5, 77), hr h (0, 5, 77))]⟩
def ref01_Minus.m1 : LJ 1 8 Unit ((List Int) × Int × Int) := ⟨fun r s e => [(0, er e 0), (1, er e 1), (5, .own (0, 5, 77) 0 s.1.length s.1.length), (6, .v (.int .u64 s.2.1)), (7, .v (.int .i64 s.2.2))], fun r s h => [((0, 5, 77), .sl true true 1 s.1.length (lm (ik .u32) s.1))]⟩
def ref01_Minus.j1 : LJ 1 30 Unit (List Int) := ⟨fun r t e => [(5, .own (0, 5, 77) 0 t.length t.length)], fun r t h => [((0, 5, 77), .sl true true 1 t.length (lm (ik .u32) t))]⟩
set_option maxHeartbeats 20000000 in
open ref01_Minus in
theorem w52 (cp : CallP) (fu : Nat) (x1 : List Int) (x2 : List Int) (H1 : K76 fu cp) : J (go Tryz.prog noC cp noI 0 [] d52 fu (fin Tryz.prog [.tmp 4] [81]) (bodyOf Tryz.f52) (initE 0 [.arr x1.length (lm (ik .u32) x1), .arr x2.length (lm (ik .u32) x2)]) [] []) (ref01_Minus fu x1 x2) e52 := by
 unfold ref01_Minus e52
 conv => arg 1; simp only [bodyOf, Tryz.f52]
 have z0 := d52_at
 exact Wk
theorem ok52 (fu : Nat) (x1 : List Int) (x2 : List Int) (r) (h : ref01_Minus fu x1 x2 = some r) : PureOK Tryz.prog 52 [.arr x1.length (lm (ik .u32) x1), .arr x2.length (lm (ik .u32) x2)] (e52 r) := pureT mixed [(C76 fu).ct] (ids := [76]) rfl (by decide) i52 (C := noC) (ci := fun cp => noI) (fun cp ok => noI_ok) (fun cp H => w52 cp fu x1 x2 (u76 H.1)) h
/-! 27: lattice/latticeref01.AddBy -/
def d27 : List (Nat × List Nat) := [(0, [6]), (0, [1, 2, 7, 8, 68]), (0, [9, 10, 11, 12, 13]), (0, []), (0, []), (0, []), (0, [15, 16, 17, 18, 19, 20, 21]), (0, []), (0, [23, 24, 25, 26, 27, 28, 29, 30, 31]), (0, []), (0, []), (0, []), (0, [33, 34]), (0, []), (0, [36]), (0, []), (0, [37]), (0, []), (0, [38, 39, 40]), (0, []), (0, [41, 42, 43]), (0, []), (0, [44, 45, 46, 47]), (0, []), (0, [49, 50, 51, 52, 53, 54, 55]), (0, []), (0, [57]), (0, []), (0, [58, 59, 60, 61, 62, 63, 64, 65]), (0, []), (0, [66, 67]), (0, []), (0, [70]), (0, []), (0, [71, 72, 73, 74, 75, 76, 77, 78]), (0, []), (0, [80]), (0, []), (0, [81, 82, 83, 84, 85, 86, 87, 88]), (0, []), (0, [0, 89]), (0, []), (0, []), (0, []), (0, [])]
def d27_at := by have h := tabL d27.eq_1; simp only [AllAt, Nat.zero_add, Nat.reduceAdd] at h; exact h
theorem i27 : finfo Tryz.prog 27 d27 = some ⟨bodyOf Tryz.f27, [.tmp 6], [23]⟩ := finfo_at Tryz.func27 rfl (by kernel_rfl) (by kernel_rfl)
def e27 : Int → AV := fun r => .v (.int .u32 r)
structure K52 (fu : Nat) (cp : CallP) : Prop where
 ap : ∀ {a0 : List Int} {a1 : List Int} {r}, ref01_Minus fu a0 a1 = some r → cp 52 [.arr a0.length (lm (ik .u32) a0), .arr a1.length (lm (ik .u32) a1)] = some (.arr r.length (lm (ik .u32) r))
noncomputable def C52 (fu : Nat) : Cm Tryz.prog ((List Int) × (List Int)) (List Int) := ⟨52, fun t => [.arr t.1.length (lm (ik .u32) t.1), .arr t.2.length (lm (ik .u32) t.2)], fun t => ref01_Minus fu t.1 t.2, e52, fun t b h => ok52 fu t.1 t.2  b h, Zi⟩
theorem u52 {fu : Nat} {cp : CallP} (H : Hit cp (C52 fu).ct) : K52 fu cp := ⟨fun {a0 a1 r} h => (C52 fu).at H (a0, a1) r h⟩
def ref01_AddBy.j3 : LJ 3 28 Unit Unit := ⟨fun r t e => [(0, er e 0), (1, er e 1), (2, er e 2), (7, er e 7), (8, er e 8)], fun r t h => []⟩
def ref01_AddBy.j4 : LJ 4 12 Unit Unit := ⟨fun r t e => [(0, er e 0), (1, er e 1), (2, er e 2)], fun r t h => []⟩
def ref01_AddBy.j5 : LJ 5 12 Unit Unit := ⟨fun r t e => [(0, er e 0), (1, er e 1), (2, er e 2)], fun r t h => []⟩
def ref01_AddBy.j2 : LJ 2 18 Unit Unit := ⟨fun r t e => [(0, er e 0), (1, er e 1), (2, er e 2)], fun r t h => []⟩
def ref01_AddBy.j1 : LJ 1 6 Unit Unit := ⟨fun r t e => [(0, er e 0), (1, er e 1), (2, er e 2)], fun r t h => []⟩
set_option maxHeartbeats 20000000 in
open ref01_AddBy in
theorem w27 (cp : CallP) (fu : Nat) (x1 : Int) (x2 : Int) (x3 : Int) (H1 : K26 fu cp) (H2 : K14 fu cp) (H3 : K46 fu cp) (H4 : K47 fu cp) (H5 : K49 fu cp) (H6 : K50 fu cp) (H7 : K48 fu cp) (H8 : K51 fu cp) (H9 : K52 fu cp) : J (go Tryz.prog noC cp noI 0 [] d27 fu (fin Tryz.prog [.tmp 6] [23]) (bodyOf Tryz.f27) (initE 0 [.v (.int .i64 x1), .v (.int .u32 x2), .v (.int .u32 x3)]) [] []) (ref01_AddBy fu x1 x2 x3) e27 := by
 unfold ref01_AddBy e27
 conv => arg 1; simp only [bodyOf, Tryz.f27]
 have z0 := d27_at
 exact Wk
theorem ok27 (fu : Nat) (x1 : Int) (x2 : Int) (x3 : Int) (r) (h : ref01_AddBy fu x1 x2 x3 = some r) : PureOK Tryz.prog 27 [.v (.int .i64 x1), .v (.int .u32 x2), .v (.int .u32 x3)] (e27 r) := pureT mixed [(C26 fu).ct, (C14 fu).ct, (C46 fu).ct, (C47 fu).ct, (C49 fu).ct, (C50 fu).ct, (C48 fu).ct, (C51 fu).ct, (C52 fu).ct] (ids := [26, 14, 46, 47, 49, 50, 48, 51, 52]) rfl (by decide) i27 (C := noC) (ci := fun cp => noI) (fun cp ok => noI_ok) (fun cp H => w27 cp fu x1 x2 x3 (u26 H.1) (u14 H.2.1) (u46 H.2.2.1) (u47 H.2.2.2.1) (u49 H.2.2.2.2.1) (u50 H.2.2.2.2.2.1) (u48 H.2.2.2.2.2.2.1) (u51 H.2.2.2.2.2.2.2.1) (u52 H.2.2.2.2.2.2.2.2.1)) h
/-! 15: lattice/latticeref01.Add -/
def d15 : List (Nat × List Nat) := [(0, [4]), (0, []), (0, [0, 1, 5, 6, 7])]
def d15_at := by have h := tabL d15.eq_1; simp only [AllAt, Nat.zero_add, Nat.reduceAdd] at h; exact h
theorem i15 : finfo Tryz.prog 15 d15 = some ⟨bodyOf Tryz.f15, [.tmp 4], [23]⟩ := finfo_at Tryz.func15 rfl (by kernel_rfl) (by kernel_rfl)
def e15 : Int → AV := fun r => .v (.int .u32 r)
structure K27 (fu : Nat) (cp : CallP) : Prop where
 ap : ∀ {a0 : Int} {a1 : Int} {a2 : Int} {r}, ref01_AddBy fu a0 a1 a2 = some r → cp 27 [.v (.int .i64 a0), .v (.int .u32 a1), .v (.int .u32 a2)] = some (.v (.int .u32 r))
noncomputable def C27 (fu : Nat) : Cm Tryz.prog (Int × Int × Int) Int := ⟨27, fun t => [.v (.int .i64 t.1), .v (.int .u32 t.2.1), .v (.int .u32 t.2.2)], fun t => ref01_AddBy fu t.1 t.2.1 t.2.2, e27, fun t b h => ok27 fu t.1 t.2.1 t.2.2  b h, Zi⟩
theorem u27 {fu : Nat} {cp : CallP} (H : Hit cp (C27 fu).ct) : K27 fu cp := ⟨fun {a0 a1 a2 r} h => (C27 fu).at H (a0, a1, a2) r h⟩
set_option maxHeartbeats 20000000 in
theorem w15 (cp : CallP) (fu : Nat) (x1 : Int) (x2 : Int) (H1 : K27 fu cp) : J (go Tryz.prog noC cp noI 0 [] d15 fu (fin Tryz.prog [.tmp 4] [23]) (bodyOf Tryz.f15) (initE 0 [.v (.int .u32 x1), .v (.int .u32 x2)]) [] []) (ref01_Add fu x1 x2) e15 := by
 unfold ref01_Add e15
 conv => arg 1; simp only [bodyOf, Tryz.f15]
 have z0 := d15_at
 exact Wk
theorem ok15 (fu : Nat) (x1 : Int) (x2 : Int) (r) (h : ref01_Add fu x1 x2 = some r) : PureOK Tryz.prog 15 [.v (.int .u32 x1), .v (.int .u32 x2)] (e15 r) := pureT mixed [(C27 fu).ct] (ids := [27]) rfl (by decide) i15 (C := noC) (ci := fun cp => noI) (fun cp ok => noI_ok) (fun cp H => w15 cp fu x1 x2 (u27 H.1)) h
/-! 5: lattice/latticelaw15.ConvDots -/
def d5 : List (Nat × List Nat) := [(0, [4]), (0, [0, 1, 6, 10]), (0, [11]), (0, []), (0, [12, 13, 14, 15, 16]), (0, []), (0, [17, 18, 19, 20, 21]), (0, []), (0, [23]), (0, []), (29230032746618058364707521954439775093867004593280, [24, 25, 26, 27, 28, 29, 30, 31, 32, 33, 34, 35, 36, 37, 38, 39, 40, 41]), (0, []), (0, [8, 42, 43, 44, 45, 46, 47, 48]), (0, []), (0, []), (0, []), (0, []), (0, []), (0, []), (0, []), (0, [50, 51]), (0, []), (0, [53, 54]), (0, []), (12, [55, 56, 57, 58, 59, 60, 61, 62, 63, 64, 65]), (0, []), (0, [5, 7, 9, 66, 67, 68, 69, 70, 71, 72, 73, 74])]
def d5_at := by have h := tabL d5.eq_1; simp only [AllAt, Nat.zero_add, Nat.reduceAdd] at h; exact h
theorem i5 : finfo Tryz.prog 5 d5 = some ⟨bodyOf Tryz.f5, [.tmp 4], [4]⟩ := finfo_at Tryz.func5 rfl (by kernel_rfl) (by kernel_rfl)
def e5 : Bool → AV := fun r => .v (.bool r)
noncomputable def C7 : Cm Tryz.prog Unit Bool := ⟨7, fun _ => [], fun _ => some true, fun b => .v (.bool b), fun _ b h => by injection h with h; subst h; exact awake7, fun _ _ _ => rfl⟩
structure K9 (fu : Nat) (cp : CallP) : Prop where
 ap : ∀ {a0 : List Int} {a1 : List Int} {r}, law15_floats fu a0 a1 = some r → cp 9 [.arr a0.length (lm (ik .i64) a0), .arr a1.length (lm (ik .u32) a1)] = some (.agg [.v (.int .i64 r.fType), .arr r.fDims.length (lm (ik .i64) r.fDims), .arr r.fF.length (lm (ik .u32) r.fF), .arr r.fI.length (lm (ik .i64) r.fI), .arr r.fB.length (lm (bk) r.fB)])
noncomputable def C9 (fu : Nat) : Cm Tryz.prog ((List Int) × (List Int)) T_Tensor := ⟨9, fun t => [.arr t.1.length (lm (ik .i64) t.1), .arr t.2.length (lm (ik .u32) t.2)], fun t => law15_floats fu t.1 t.2, e9, fun t b h => ok9 fu t.1 t.2  b h, Zi⟩
theorem u9 {fu : Nat} {cp : CallP} (H : Hit cp (C9 fu).ct) : K9 fu cp := ⟨fun {a0 a1 r} h => (C9 fu).at H (a0, a1) r h⟩
structure K8 (fu : Nat) (cp : CallP) : Prop where
 ap : ∀ {a0 : Int} {a1 : T_Setting} {a2 : List T_Tensor} {r}, conv_Do fu a0 a1 a2 = some r → cp 8 [.v (.int .i64 a0), .agg (c_T_Setting a1), .arr a2.length (fm c_T_Tensor a2)] = some (.tuple [.agg [.v (.int .i64 r.1.fType), .arr r.1.fDims.length (lm (ik .i64) r.1.fDims), .arr r.1.fF.length (lm (ik .u32) r.1.fF), .arr r.1.fI.length (lm (ik .i64) r.1.fI), .arr r.1.fB.length (lm (bk) r.1.fB)], .v (.int .i64 r.2)])
noncomputable def C8 (fu : Nat) : Cm Tryz.prog (Int × T_Setting × (List T_Tensor)) (T_Tensor × Int) := ⟨8, fun t => [.v (.int .i64 t.1), .agg (c_T_Setting t.2.1), .arr t.2.2.length (fm c_T_Tensor t.2.2)], fun t => conv_Do fu t.1 t.2.1 t.2.2, e8, fun t b h => ok8 fu t.1 t.2.1 t.2.2  b h, Zi⟩
theorem u8 {fu : Nat} {cp : CallP} (H : Hit cp (C8 fu).ct) : K8 fu cp := ⟨fun {a0 a1 a2 r} h => (C8 fu).at H (a0, a1, a2) r h⟩
structure K16 (fu : Nat) (cp : CallP) : Prop where
 ap : ∀ {a0 : Int} {a1 : Int} {r}, ref01_Mul fu a0 a1 = some r → cp 16 [.v (.int .u32 a0), .v (.int .u32 a1)] = some (.v (.int .u32 r))
noncomputable def C16 (fu : Nat) : Cm Tryz.prog (Int × Int) Int := ⟨16, fun t => [.v (.int .u32 t.1), .v (.int .u32 t.2)], fun t => ref01_Mul fu t.1 t.2, e16, fun t b h => ok16 fu t.1 t.2  b h, Zi⟩
theorem u16 {fu : Nat} {cp : CallP} (H : Hit cp (C16 fu).ct) : K16 fu cp := ⟨fun {a0 a1 r} h => (C16 fu).at H (a0, a1) r h⟩
structure K15 (fu : Nat) (cp : CallP) : Prop where
 ap : ∀ {a0 : Int} {a1 : Int} {r}, ref01_Add fu a0 a1 = some r → cp 15 [.v (.int .u32 a0), .v (.int .u32 a1)] = some (.v (.int .u32 r))
noncomputable def C15 (fu : Nat) : Cm Tryz.prog (Int × Int) Int := ⟨15, fun t => [.v (.int .u32 t.1), .v (.int .u32 t.2)], fun t => ref01_Add fu t.1 t.2, e15, fun t b h => ok15 fu t.1 t.2  b h, Zi⟩
theorem u15 {fu : Nat} {cp : CallP} (H : Hit cp (C15 fu).ct) : K15 fu cp := ⟨fun {a0 a1 r} h => (C15 fu).at H (a0, a1) r h⟩
def law15_ConvDots.m1 : LJ 1 20 Unit (Int × Int) := ⟨fun r s e => [(0, er e 0), (1, er e 1), (5, er e 5), (6, er e 6), (7, er e 7), (9, .v (.int .u32 s.1)), (10, .v (.int .i64 s.2))], fun r s h => [((0, 7, 0), hr h (0, 7, 0))]⟩
def law15_ConvDots.j3 : LJ 3 26 Unit Int := ⟨fun r t e => [(5, er e 5), (7, er e 7), (9, .v (.int .u32 t))], fun r t h => [((0, 7, 0), hr h (0, 7, 0))]⟩
def law15_ConvDots.j2 : LJ 2 16 Unit Unit := ⟨fun r t e => [(0, er e 0), (1, er e 1), (5, er e 5), (6, er e 6), (7, er e 7)], fun r t h => [((0, 7, 0), hr h (0, 7, 0))]⟩
def law15_ConvDots.j1 : LJ 1 10 Unit Unit := ⟨fun r t e => [(0, er e 0), (1, er e 1), (5, er e 5), (6, er e 6)], fun r t h => []⟩
set_option maxHeartbeats 20000000 in
open law15_ConvDots in
theorem w5 (cp : CallP) (fu : Nat) (x1 : List Int) (x2 : List Int) (H1 : cp 7 [] = some (.v (.bool true))) (H2 : K9 fu cp) (H3 : K8 fu cp) (H4 : K16 fu cp) (H5 : K15 fu cp) : J (go Tryz.prog noCs cp noI 0 [] d5 fu (fin Tryz.prog [.tmp 4] [4]) (bodyOf Tryz.f5) (initE 0 [.arr x1.length (lm (ik .u32) x1), .arr x2.length (lm (ik .u32) x2)]) [] []) (law15_ConvDots fu x1 x2) e5 := by
 unfold law15_ConvDots e5
 conv => arg 1; simp only [bodyOf, Tryz.f5]
 have z0 := d5_at
 have z1 := RL
 have z2 := @aop_callC
 have z3 := @aq_callC
 exact Wk
theorem ok5 (fu : Nat) (x1 : List Int) (x2 : List Int) (r) (h : law15_ConvDots fu x1 x2 = some r) : PureOK Tryz.prog 5 [.arr x1.length (lm (ik .u32) x1), .arr x2.length (lm (ik .u32) x2)] (e5 r) := pureT mixed [C7.ct, (C9 fu).ct, (C8 fu).ct, (C16 fu).ct, (C15 fu).ct] (ids := [7, 9, 8, 16, 15]) rfl (by decide) i5 (C := noCs) (ci := fun cp => noI) (fun cp ok => noI_ok) (fun cp H => w5 cp fu x1 x2 (C7.at H.1 () true rfl) (u9 H.2.1) (u8 H.2.2.1) (u16 H.2.2.2.1) (u15 H.2.2.2.2.1)) h
end Go.Av
