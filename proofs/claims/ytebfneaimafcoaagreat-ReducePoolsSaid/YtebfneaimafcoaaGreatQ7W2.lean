/- The walks of the plain functions, part 2. Made by a program of mine. Conditions: none. -/
import Derived.Test.YtebfneaimafcoaaGreatQ7W1
set_option linter.unusedVariables false
set_option linter.unusedSimpArgs false
set_option linter.defProp false
set_option maxRecDepth 20000
open Go Go.Proofs
namespace Go.Av
open Aw (d22 d23 d24 d26 d38 d39 d40 d41 d42 d80 d81 d82 d83 d84 d85 d86 d87 d88 d89 d91 d107 d148 d149 d150)
open Aw (d152)
def d152_at := by have h := tabL Aw.d152.eq_1; simp only [AllAt, Nat.zero_add, Nat.reduceAdd] at h; exact h
theorem i152 : finfo Tryz.prog 152 d152 = some ⟨bodyOf Tryz.f152, [.tmp 2], [9]⟩ := finfo_at Tryz.func152 rfl (by kernel_rfl) (by kernel_rfl)
def e152 : ByteArray → AV := fun r => .v (.string r)
def infer_sorts.j5 : LJ 5 210 Unit Unit := ⟨fun r t e => [(3, er e 3), (4, er e 4), (13, er e 13), (18, er e 18), (31, er e 31), (36, er e 36), (45, .v (.bool (decide ((78 : Int) = 51))))], fun r t h => []⟩
def infer_sorts.j4 : LJ 4 170 Unit Unit := ⟨fun r t e => [(3, er e 3), (4, er e 4), (13, er e 13), (18, er e 18), (31, er e 31), (36, .v (.bool (decide ((78 : Int) = 64))))], fun r t h => []⟩
def infer_sorts.j3 : LJ 3 114 Unit Unit := ⟨fun r t e => [(3, er e 3), (4, er e 4), (13, er e 13), (18, .v (.bool (decide ((78 : Int) = 43))))], fun r t h => []⟩
def infer_sorts.j2 : LJ 2 62 Unit Unit := ⟨fun r t e => [(3, er e 3), (4, er e 4), (13, .v (.bool (decide ((78 : Int) = 25))))], fun r t h => []⟩
def infer_sorts.j1 : LJ 1 42 Unit Unit := ⟨fun r t e => [(3, er e 3), (4, .v (.bool (decide ((78 : Int) = 71))))], fun r t h => []⟩
def infer_sorts.j10 : LJ 10 210 Unit Unit := ⟨fun r t e => [(3, er e 3), (4, er e 4), (13, er e 13), (18, er e 18), (31, er e 31), (36, er e 36), (45, .v (.bool (decide ((77 : Int) = 51))))], fun r t h => []⟩
def infer_sorts.j9 : LJ 9 170 Unit Unit := ⟨fun r t e => [(3, er e 3), (4, er e 4), (13, er e 13), (18, er e 18), (31, er e 31), (36, .v (.bool (decide ((77 : Int) = 64))))], fun r t h => []⟩
def infer_sorts.j8 : LJ 8 114 Unit Unit := ⟨fun r t e => [(3, er e 3), (4, er e 4), (13, er e 13), (18, .v (.bool (decide ((77 : Int) = 43))))], fun r t h => []⟩
def infer_sorts.j7 : LJ 7 62 Unit Unit := ⟨fun r t e => [(3, er e 3), (4, er e 4), (13, .v (.bool (decide ((77 : Int) = 25))))], fun r t h => []⟩
def infer_sorts.j6 : LJ 6 42 Unit Unit := ⟨fun r t e => [(3, er e 3), (4, .v (.bool (decide ((77 : Int) = 71))))], fun r t h => []⟩
set_option maxHeartbeats 20000000 in
open infer_sorts in
theorem w152 (cp : CallP) (fu : Nat) (x1 : Int)  : J (go Tryz.prog noC cp noI 0 [] d152 fu (fin Tryz.prog [.tmp 2] [9]) (bodyOf Tryz.f152) (initE 0 [.v (.int .i64 x1)]) [] []) (infer_sorts fu x1) e152 := by
 unfold infer_sorts e152
 have da := d152_at
 conv => arg 1; simp only [bodyOf, Tryz.f152]
 have z0 := d152_at
 exact Wk
theorem ok152 (fu : Nat) (x1 : Int) (r) (h : infer_sorts fu x1 = some r) : PureOK Tryz.prog 152 [.v (.int .i64 x1)] (e152 r) := pureT mixed [] (ids := []) rfl (by decide) i152 (C := noC) (ci := fun cp => noI) (fun cp ok => noI_ok) (fun cp H => w152 cp fu x1 ) h
open Aw (d153)
def d153_at := by have h := tabL Aw.d153.eq_1; simp only [AllAt, Nat.zero_add, Nat.reduceAdd] at h; exact h
theorem i153 : finfo Tryz.prog 153 d153 = some ⟨bodyOf Tryz.f153, [.tmp 6], [4]⟩ := finfo_at Tryz.func153 rfl (by kernel_rfl) (by kernel_rfl)
def e153 : Bool → AV := fun r => .v (.bool r)
def infer_ask_fits.j1 : LJ 1 0 Unit Bool := ⟨fun r t e => [(1, er e 1), (3, er e 3), (6, .v (.bool t)), (7, er e 7), (12, er e 12)], fun r t h => [((0, 3, 0), hr h (0, 3, 0))]⟩
def infer_ask_fits.j2 : LJ 2 0 Unit Bool := ⟨fun r t e => [(1, er e 1), (3, er e 3), (6, .v (.bool t)), (7, er e 7), (12, er e 12)], fun r t h => [((0, 3, 0), hr h (0, 3, 0))]⟩
set_option maxHeartbeats 20000000 in
open infer_ask_fits in
theorem w153 (cp : CallP) (fu : Nat) (x1 : T_infer_ask) (x2 : Int) (x3 : Int) (H1 : K107 fu cp) (H2 : K80 fu cp) : J (go Tryz.prog noC cp noI 0 [] d153 fu (fin Tryz.prog [.tmp 6] [4]) (bodyOf Tryz.f153) (initE 0 [.agg (c_T_infer_ask x1), .v (.int .i64 x2), .v (.int .u8 x3)]) [] []) (infer_ask_fits fu x1 x2 x3) e153 := by
 unfold infer_ask_fits e153
 have da := d153_at
 conv => arg 1; simp only [bodyOf, Tryz.f153]
 have z0 := d153_at
 exact Wk
theorem ok153 (fu : Nat) (x1 : T_infer_ask) (x2 : Int) (x3 : Int) (r) (h : infer_ask_fits fu x1 x2 x3 = some r) : PureOK Tryz.prog 153 [.agg (c_T_infer_ask x1), .v (.int .i64 x2), .v (.int .u8 x3)] (e153 r) := pureT mixed [(C107 fu).ct, (C80 fu).ct] (ids := [107, 80]) rfl (by decide) i153 (C := noC) (ci := fun cp => noI) (fun cp ok => noI_ok) (fun cp H => w153 cp fu x1 x2 x3 (u107 H.1) (u80 H.2.1)) h
open Aw (d92)
def d92_at := by have h := tabL Aw.d92.eq_1; simp only [AllAt, Nat.zero_add, Nat.reduceAdd] at h; exact h
theorem i92 : finfo Tryz.prog 92 d92 = some ⟨bodyOf Tryz.f92, [.tmp 2], [4]⟩ := finfo_at Tryz.func92 rfl (by kernel_rfl) (by kernel_rfl)
def e92 : Bool → AV := fun r => .v (.bool r)
structure K152 (fu : Nat) (cp : CallP) : Prop where
 ap : ∀ {a0 : Int} {r}, infer_sorts fu a0 = some r → cp 152 [.v (.int .i64 a0)] = some (.v (.string r))
noncomputable def C152 (fu : Nat) : Cm Tryz.prog Int ByteArray := ⟨152, fun t => [.v (.int .i64 t)], fun t => infer_sorts fu t, e152, fun t b h => ok152 fu t  b h, Zi⟩
theorem u152 {fu : Nat} {cp : CallP} (H : Hit cp (C152 fu).ct) : K152 fu cp := ⟨fun {a0 r} h => (C152 fu).at H a0 r h⟩
structure K153 (fu : Nat) (cp : CallP) : Prop where
 ap : ∀ {a0 : T_infer_ask} {a1 : Int} {a2 : Int} {r}, infer_ask_fits fu a0 a1 a2 = some r → cp 153 [.agg (c_T_infer_ask a0), .v (.int .i64 a1), .v (.int .u8 a2)] = some (.v (.bool r))
noncomputable def C153 (fu : Nat) : Cm Tryz.prog (T_infer_ask × Int × Int) Bool := ⟨153, fun t => [.agg (c_T_infer_ask t.1), .v (.int .i64 t.2.1), .v (.int .u8 t.2.2)], fun t => infer_ask_fits fu t.1 t.2.1 t.2.2, e153, fun t b h => ok153 fu t.1 t.2.1 t.2.2  b h, Zi⟩
theorem u153 {fu : Nat} {cp : CallP} (H : Hit cp (C153 fu).ct) : K153 fu cp := ⟨fun {a0 a1 a2 r} h => (C153 fu).at H (a0, a1, a2) r h⟩
def infer_ask_typed.m1 : LJ 1 6 Unit Int := ⟨fun r s e => [(1, er e 1), (3, er e 3), (10, er e 10), (11, .v (.int .i64 s))], fun r s h => [((0, 1, 0), hr h (0, 1, 0))]⟩
def infer_ask_typed.j1 : LJ 1 16 Unit Unit := ⟨fun r t e => [(1, er e 1)], fun r t h => [((0, 1, 0), hr h (0, 1, 0))]⟩
def infer_ask_typed.m2 : LJ 2 6 Unit Int := ⟨fun r s e => [(1, er e 1), (3, er e 3), (10, er e 10), (11, .v (.int .i64 s))], fun r s h => [((0, 1, 0), hr h (0, 1, 0))]⟩
def infer_ask_typed.j2 : LJ 2 16 Unit Unit := ⟨fun r t e => [(1, er e 1)], fun r t h => [((0, 1, 0), hr h (0, 1, 0))]⟩
set_option maxHeartbeats 20000000 in
open infer_ask_typed in
theorem w92 (cp : CallP) (fu : Nat) (x1 : T_infer_ask) (H1 : K152 fu cp) (H2 : K91 fu cp) (H3 : K107 fu cp) (H4 : K80 fu cp) (H5 : K153 fu cp) : J (go Tryz.prog noC cp noI 0 [] d92 fu (fin Tryz.prog [.tmp 2] [4]) (bodyOf Tryz.f92) (initE 0 [.agg (c_T_infer_ask x1)]) [] []) (infer_ask_typed fu x1) e92 := by
 unfold infer_ask_typed e92
 have da := d92_at
 conv => arg 1; simp only [bodyOf, Tryz.f92]
 have z0 := d92_at
 exact Wk
theorem ok92 (fu : Nat) (x1 : T_infer_ask) (r) (h : infer_ask_typed fu x1 = some r) : PureOK Tryz.prog 92 [.agg (c_T_infer_ask x1)] (e92 r) := pureT mixed [(C152 fu).ct, (C91 fu).ct, (C107 fu).ct, (C80 fu).ct, (C153 fu).ct] (ids := [152, 91, 107, 80, 153]) rfl (by decide) i92 (C := noC) (ci := fun cp => noI) (fun cp ok => noI_ok) (fun cp H => w92 cp fu x1 (u152 H.1) (u91 H.2.1) (u107 H.2.2.1) (u80 H.2.2.2.1) (u153 H.2.2.2.2.1)) h
open Aw (d95)
def d95_at := by have h := tabL Aw.d95.eq_1; simp only [AllAt, Nat.zero_add, Nat.reduceAdd] at h; exact h
theorem i95 : finfo Tryz.prog 95 d95 = some ⟨bodyOf Tryz.f95, [.tmp 4], [27]⟩ := finfo_at Tryz.func95 rfl (by kernel_rfl) (by kernel_rfl)
def e95 : (List Int) → AV := fun r => .arr r.length (lm (ik .i64) r)
set_option maxHeartbeats 20000000 in
theorem w95 (cp : CallP) (fu : Nat) (x1 : T_infer_ask) (x2 : Int) (H1 : K107 fu cp) : J (go Tryz.prog noC cp noI 0 [] d95 fu (fin Tryz.prog [.tmp 4] [27]) (bodyOf Tryz.f95) (initE 0 [.agg (c_T_infer_ask x1), .v (.int .i64 x2)]) [] []) (infer_ask_dims fu x1 x2) e95 := by
 unfold infer_ask_dims e95
 have da := d95_at
 conv => arg 1; simp only [bodyOf, Tryz.f95]
 have z0 := d95_at
 exact Wk
theorem ok95 (fu : Nat) (x1 : T_infer_ask) (x2 : Int) (r) (h : infer_ask_dims fu x1 x2 = some r) : PureOK Tryz.prog 95 [.agg (c_T_infer_ask x1), .v (.int .i64 x2)] (e95 r) := pureT mixed [(C107 fu).ct] (ids := [107]) rfl (by decide) i95 (C := noC) (ci := fun cp => noI) (fun cp ok => noI_ok) (fun cp H => w95 cp fu x1 x2 (u107 H.1)) h
open Aw (d154)
def d154_at := by have h := tabL Aw.d154.eq_1; simp only [AllAt, Nat.zero_add, Nat.reduceAdd] at h; exact h
theorem i154 : finfo Tryz.prog 154 d154 = some ⟨bodyOf Tryz.f154, [.tmp 2], [3]⟩ := finfo_at Tryz.func154 rfl (by kernel_rfl) (by kernel_rfl)
def e154 : Int → AV := fun r => .v (.int .i64 r)
structure K95 (fu : Nat) (cp : CallP) : Prop where
 ap : ∀ {a0 : T_infer_ask} {a1 : Int} {r}, infer_ask_dims fu a0 a1 = some r → cp 95 [.agg (c_T_infer_ask a0), .v (.int .i64 a1)] = some (.arr r.length (lm (ik .i64) r))
noncomputable def C95 (fu : Nat) : Cm Tryz.prog (T_infer_ask × Int) (List Int) := ⟨95, fun t => [.agg (c_T_infer_ask t.1), .v (.int .i64 t.2)], fun t => infer_ask_dims fu t.1 t.2, e95, fun t b h => ok95 fu t.1 t.2  b h, Zi⟩
theorem u95 {fu : Nat} {cp : CallP} (H : Hit cp (C95 fu).ct) : K95 fu cp := ⟨fun {a0 a1 r} h => (C95 fu).at H (a0, a1) r h⟩
set_option maxHeartbeats 20000000 in
theorem w154 (cp : CallP) (fu : Nat) (x1 : T_infer_ask) (H1 : K95 fu cp) : J (go Tryz.prog noC cp noI 0 [] d154 fu (fin Tryz.prog [.tmp 2] [3]) (bodyOf Tryz.f154) (initE 0 [.agg (c_T_infer_ask x1)]) [] []) (infer_ask_rank fu x1) e154 := by
 unfold infer_ask_rank e154
 have da := d154_at
 conv => arg 1; simp only [bodyOf, Tryz.f154]
 have z0 := d154_at
 exact Wk
theorem ok154 (fu : Nat) (x1 : T_infer_ask) (r) (h : infer_ask_rank fu x1 = some r) : PureOK Tryz.prog 154 [.agg (c_T_infer_ask x1)] (e154 r) := pureT mixed [(C95 fu).ct] (ids := [95]) rfl (by decide) i154 (C := noC) (ci := fun cp => noI) (fun cp ok => noI_ok) (fun cp H => w154 cp fu x1 (u95 H.1)) h
open Aw (d157)
def d157_at := by have h := tabL Aw.d157.eq_1; simp only [AllAt, Nat.zero_add, Nat.reduceAdd] at h; exact h
theorem i157 : finfo Tryz.prog 157 d157 = some ⟨bodyOf Tryz.f157, [.tmp 4], [4]⟩ := finfo_at Tryz.func157 rfl (by kernel_rfl) (by kernel_rfl)
def e157 : Bool → AV := fun r => .v (.bool r)
set_option maxHeartbeats 20000000 in
theorem w157 (cp : CallP) (fu : Nat) (x1 : List Int) (x2 : Int)  : J (go Tryz.prog noC cp noI 0 [] d157 fu (fin Tryz.prog [.tmp 4] [4]) (bodyOf Tryz.f157) (initE 0 [.arr x1.length (lm (ik .i64) x1), .v (.int .i64 x2)]) [] []) (infer_many fu x1 x2) e157 := by
 unfold infer_many e157
 have da := d157_at
 conv => arg 1; simp only [bodyOf, Tryz.f157]
 have z0 := d157_at
 exact Wk
theorem ok157 (fu : Nat) (x1 : List Int) (x2 : Int) (r) (h : infer_many fu x1 x2 = some r) : PureOK Tryz.prog 157 [.arr x1.length (lm (ik .i64) x1), .v (.int .i64 x2)] (e157 r) := pureT mixed [] (ids := []) rfl (by decide) i157 (C := noC) (ci := fun cp => noI) (fun cp ok => noI_ok) (fun cp H => w157 cp fu x1 x2 ) h
open Aw (d158)
def d158_at := by have h := tabL Aw.d158.eq_1; simp only [AllAt, Nat.zero_add, Nat.reduceAdd] at h; exact h
theorem i158 : finfo Tryz.prog 158 d158 = some ⟨bodyOf Tryz.f158, [.tmp 2], [4]⟩ := finfo_at Tryz.func158 rfl (by kernel_rfl) (by kernel_rfl)
def e158 : Bool → AV := fun r => .v (.bool r)
structure K157 (fu : Nat) (cp : CallP) : Prop where
 ap : ∀ {a0 : List Int} {a1 : Int} {r}, infer_many fu a0 a1 = some r → cp 157 [.arr a0.length (lm (ik .i64) a0), .v (.int .i64 a1)] = some (.v (.bool r))
noncomputable def C157 (fu : Nat) : Cm Tryz.prog ((List Int) × Int) Bool := ⟨157, fun t => [.arr t.1.length (lm (ik .i64) t.1), .v (.int .i64 t.2)], fun t => infer_many fu t.1 t.2, e157, fun t b h => ok157 fu t.1 t.2  b h, Zi⟩
theorem u157 {fu : Nat} {cp : CallP} (H : Hit cp (C157 fu).ct) : K157 fu cp := ⟨fun {a0 a1 r} h => (C157 fu).at H (a0, a1) r h⟩
set_option maxHeartbeats 20000000 in
theorem w158 (cp : CallP) (fu : Nat) (x1 : T_infer_ask) (H1 : K157 fu cp) : J (go Tryz.prog noC cp noI 0 [] d158 fu (fin Tryz.prog [.tmp 2] [4]) (bodyOf Tryz.f158) (initE 0 [.agg (c_T_infer_ask x1)]) [] []) (infer_ask_frames fu x1) e158 := by
 unfold infer_ask_frames e158
 have da := d158_at
 conv => arg 1; simp only [bodyOf, Tryz.f158]
 have z0 := d158_at
 exact Wk
theorem ok158 (fu : Nat) (x1 : T_infer_ask) (r) (h : infer_ask_frames fu x1 = some r) : PureOK Tryz.prog 158 [.agg (c_T_infer_ask x1)] (e158 r) := pureT mixed [(C157 fu).ct] (ids := [157]) rfl (by decide) i158 (C := noC) (ci := fun cp => noI) (fun cp ok => noI_ok) (fun cp H => w158 cp fu x1 (u157 H.1)) h
open Aw (d93)
def d93_at := by have h := tabL Aw.d93.eq_1; simp only [AllAt, Nat.zero_add, Nat.reduceAdd] at h; exact h
theorem i93 : finfo Tryz.prog 93 d93 = some ⟨bodyOf Tryz.f93, [.tmp 2], [4]⟩ := finfo_at Tryz.func93 rfl (by kernel_rfl) (by kernel_rfl)
def e93 : Bool → AV := fun r => .v (.bool r)
structure K154 (fu : Nat) (cp : CallP) : Prop where
 ap : ∀ {a0 : T_infer_ask} {r}, infer_ask_rank fu a0 = some r → cp 154 [.agg (c_T_infer_ask a0)] = some (.v (.int .i64 r))
noncomputable def C154 (fu : Nat) : Cm Tryz.prog T_infer_ask Int := ⟨154, fun t => [.agg (c_T_infer_ask t)], fun t => infer_ask_rank fu t, e154, fun t b h => ok154 fu t  b h, Zi⟩
theorem u154 {fu : Nat} {cp : CallP} (H : Hit cp (C154 fu).ct) : K154 fu cp := ⟨fun {a0 r} h => (C154 fu).at H a0 r h⟩
structure K158 (fu : Nat) (cp : CallP) : Prop where
 ap : ∀ {a0 : T_infer_ask} {r}, infer_ask_frames fu a0 = some r → cp 158 [.agg (c_T_infer_ask a0)] = some (.v (.bool r))
noncomputable def C158 (fu : Nat) : Cm Tryz.prog T_infer_ask Bool := ⟨158, fun t => [.agg (c_T_infer_ask t)], fun t => infer_ask_frames fu t, e158, fun t b h => ok158 fu t  b h, Zi⟩
theorem u158 {fu : Nat} {cp : CallP} (H : Hit cp (C158 fu).ct) : K158 fu cp := ⟨fun {a0 r} h => (C158 fu).at H a0 r h⟩
def infer_ask_attributes.j2 : LJ 2 136 Unit Unit := ⟨fun r t e => [(1, er e 1), (3, er e 3), (4, er e 4), (17, er e 17), (58, er e 58), (99, er e 99), (131, .v (.bool (decide ((78 : Int) = 69))))], fun r t h => [((0, 1, 0), hr h (0, 1, 0)), ((0, 3, 0), hr h (0, 3, 0))]⟩
def infer_ask_attributes.j1 : LJ 1 104 Unit Unit := ⟨fun r t e => [(1, er e 1), (3, er e 3), (4, er e 4), (17, er e 17), (58, er e 58), (99, .v (.bool (decide ((78 : Int) = 80))))], fun r t h => [((0, 1, 0), hr h (0, 1, 0)), ((0, 3, 0), hr h (0, 3, 0))]⟩
def infer_ask_attributes.j4 : LJ 4 136 Unit Unit := ⟨fun r t e => [(1, er e 1), (3, er e 3), (4, er e 4), (17, er e 17), (58, er e 58), (99, er e 99), (131, .v (.bool (decide ((77 : Int) = 69))))], fun r t h => [((0, 1, 0), hr h (0, 1, 0)), ((0, 3, 0), hr h (0, 3, 0))]⟩
def infer_ask_attributes.j3 : LJ 3 104 Unit Unit := ⟨fun r t e => [(1, er e 1), (3, er e 3), (4, er e 4), (17, er e 17), (58, er e 58), (99, .v (.bool (decide ((77 : Int) = 80))))], fun r t h => [((0, 1, 0), hr h (0, 1, 0)), ((0, 3, 0), hr h (0, 3, 0))]⟩
set_option maxHeartbeats 20000000 in
open infer_ask_attributes in
theorem w93 (cp : CallP) (fu : Nat) (x1 : T_infer_ask) (H1 : K154 fu cp) (H2 : K158 fu cp) : J (go Tryz.prog noC cp noI 0 [] d93 fu (fin Tryz.prog [.tmp 2] [4]) (bodyOf Tryz.f93) (initE 0 [.agg (c_T_infer_ask x1)]) [] []) (infer_ask_attributes fu x1) e93 := by
 unfold infer_ask_attributes e93
 have da := d93_at
 conv => arg 1; simp only [bodyOf, Tryz.f93]
 have z0 := d93_at
 exact Wk
theorem ok93 (fu : Nat) (x1 : T_infer_ask) (r) (h : infer_ask_attributes fu x1 = some r) : PureOK Tryz.prog 93 [.agg (c_T_infer_ask x1)] (e93 r) := pureT mixed [(C154 fu).ct, (C158 fu).ct] (ids := [154, 158]) rfl (by decide) i93 (C := noC) (ci := fun cp => noI) (fun cp ok => noI_ok) (fun cp H => w93 cp fu x1 (u154 H.1) (u158 H.2.1)) h
def d159 : List (Nat × List Nat) := [(0, [0, 2]), (0, [8, 13]), (0, []), (0, [1, 4, 6]), (0, [7]), (0, []), (0, []), (0, []), (0, [10]), (0, []), (0, []), (0, []), (0, [12]), (0, []), (0, []), (0, []), (0, [14]), (0, []), (0, [15]), (0, []), (0, [16]), (0, []), (0, [17]), (0, []), (0, [18]), (0, []), (0, [19]), (1, []), (0, [20]), (0, []), (0, [21]), (0, []), (0, []), (0, []), (0, [3, 22]), (0, []), (0, [23, 24]), (0, []), (0, [26, 27]), (0, []), (0, [28, 29]), (0, []), (0, [31, 32, 33, 34, 35, 36]), (0, []), (0, [5, 37])]
def d159_at := by have h := tabL d159.eq_1; simp only [AllAt, Nat.zero_add, Nat.reduceAdd] at h; exact h
theorem i159 : finfo Tryz.prog 159 d159 = some ⟨bodyOf Tryz.f159, [.tmp 2], [54]⟩ := finfo_at Tryz.func159 rfl (by kernel_rfl) (by kernel_rfl)
def e159 : (List T_Val) → AV := fun r => .fresh 8 r.length (fm c_T_Val r)
def infer_ask_lists.j1 : LJ 1 6 Unit Unit := ⟨fun r t e => [(1, er e 1), (3, er e 3), (4, er e 4), (8, er e 8), (13, .v (.bool (decide ((78 : Int) = 65))))], fun r t h => [((0, 1, 0), hr h (0, 1, 0))]⟩
def infer_ask_lists.j2 : LJ 2 6 Unit Unit := ⟨fun r t e => [(1, er e 1), (3, er e 3), (4, er e 4), (8, er e 8), (13, .v (.bool (decide ((77 : Int) = 65))))], fun r t h => [((0, 1, 0), hr h (0, 1, 0))]⟩
set_option maxHeartbeats 20000000 in
open infer_ask_lists in
theorem w159 (cp : CallP) (fu : Nat) (x1 : T_infer_ask)  : J (go Tryz.prog noC cp noI 0 [] d159 fu (fin Tryz.prog [.tmp 2] [54]) (bodyOf Tryz.f159) (initE 0 [.agg (c_T_infer_ask x1)]) [] []) (infer_ask_lists fu x1) e159 := by
 unfold infer_ask_lists e159
 have da := d159_at
 conv => arg 1; simp only [bodyOf, Tryz.f159]
 have z0 := d159_at
 exact Wk
theorem ok159 (fu : Nat) (x1 : T_infer_ask) (r) (h : infer_ask_lists fu x1 = some r) : PureOK Tryz.prog 159 [.agg (c_T_infer_ask x1)] (e159 r) := pureT mixed [] (ids := []) rfl (by decide) i159 (C := noC) (ci := fun cp => noI) (fun cp ok => noI_ok) (fun cp H => w159 cp fu x1 ) h
open Aw (d195)
def d195_at := by have h := tabL Aw.d195.eq_1; simp only [AllAt, Nat.zero_add, Nat.reduceAdd] at h; exact h
theorem i195 : finfo Tryz.prog 195 d195 = some ⟨bodyOf Tryz.f195, [.tmp 4], [3]⟩ := finfo_at Tryz.func195 rfl (by kernel_rfl) (by kernel_rfl)
def e195 : Int → AV := fun r => .v (.int .i64 r)
set_option maxHeartbeats 20000000 in
theorem w195 (cp : CallP) (fu : Nat) (x1 : List T_Val) (p1 : T_Val → Option Bool) (fv_p1 : FuncId) (ca_p1 : List AV) (cap_p1 : Capt ca_p1) (hp_p1 : ∀ (y0 : T_Val) r, p1 y0 = some r → cp fv_p1 ((.agg (c_T_Val y0)) :: ca_p1) = some (.v (.bool r))) : J (go Tryz.prog noC cp noI 0 [] d195 fu (fin Tryz.prog [.tmp 4] [3]) (bodyOf Tryz.f195) (initE 0 [.arr x1.length (fm c_T_Val x1), .fn fv_p1 [] ca_p1]) [] []) (slices_IndexFunc_api_Val_api_Val fu x1 p1) e195 := by
 unfold slices_IndexFunc_api_Val_api_Val e195
 have da := d195_at
 have c4_p1 := fun g => (cap_p1.1 g).1; have c3_p1 := fun g => (cap_p1.1 g).2.1; have b4_p1 := fun g => (cap_p1.1 g).2.2.1; have b3_p1 := fun g => (cap_p1.1 g).2.2.2; have nm_p1 := cap_p1.2
 conv => arg 1; simp (disch := first | exact Zd | fail) only [bodyOf, Tryz.f195, ZZ, d195_at, simprocAttr, c4_p1, c3_p1, b4_p1, b3_p1, nm_p1]
 refine J.eq go_seq ?_
 conv => arg 1; simp (disch := first | exact Zd | fail) only [ZZ, d195_at, simprocAttr, c4_p1, c3_p1, b4_p1, b3_p1, nm_p1]
 unfold slices_IndexFunc_api_Val_api_Val.W1
 refine J.loop (fun (s : Int) => ([(0, .arr x1.length (fm c_T_Val x1)), (1, .fn fv_p1 [] ca_p1), (7, .v (.int .i64 (x1.length : Int))), (8, .v (.int .i64 s))], [])) (fun next s => slices_IndexFunc_api_Val_api_Val.L1 fu p1 x1 next s) (s0 := 0) ?_ ?_ ?_
 ·exact Ze
 ·exact Zh
 rintro nx1 k1 hn1 x4
 show J _ (slices_IndexFunc_api_Val_api_Val.L1 fu p1 x1 nx1 x4) _
 unfold slices_IndexFunc_api_Val_api_Val.L1
 conv => arg 1; simp (disch := first | exact Zd | fail) only [ZZ, d195_at, simprocAttr, c4_p1, c3_p1, b4_p1, b3_p1, nm_p1]
 refine J.eq go_seq ?_
 conv => arg 1; simp (disch := first | exact Zd | fail) only [ZZ, d195_at, simprocAttr, c4_p1, c3_p1, b4_p1, b3_p1, nm_p1]
 refine J.ite (fun h1 => ?_) (fun h1 => ?_)
 ·have h1' := decide_eq_true h1
  have h1'' : decide ((x1.length : Int) ≤ x4) = false := decide_eq_false (by omega)
  conv => arg 1; simp (disch := first | exact Zd | fail) only [ZZ, d195_at, simprocAttr, c4_p1, c3_p1, b4_p1, b3_p1, nm_p1, h1'', h1']
  refine J.eq ret_seq ?_
  refine J.eq go_seq ?_
  refine J.at fun x7 h2 h3 h4 => ?_
  refine J.bind fun x8 h5 => ?_
  have e_h5 := hp_p1 _ _ h5
  try simp only [NN, NT, LN, simprocAttr, DT] at e_h5
  conv => arg 1; simp (disch := first | exact Zd | fail) only [ZZ, d195_at, simprocAttr, c4_p1, c3_p1, b4_p1, b3_p1, nm_p1, h1'', h1', fm_cut c_T_Val_len h4, fm_fit c_T_Val_len h4, fm_at c_T_Val_len h4, fm_at0 c_T_Val_len h4, e_h5]
  refine J.ite (fun h6 => ?_) (fun h6 => ?_)
  ·have h6' : x8 = true := h6
   refine J.some ?_
   simp (maxSteps := 20000000) (disch := first | exact Zd | fail) only [ZZ, d195_at, simprocAttr, c4_p1, c3_p1, b4_p1, b3_p1, nm_p1, h1'', h1', fm_cut c_T_Val_len h4, fm_fit c_T_Val_len h4, fm_at c_T_Val_len h4, fm_at0 c_T_Val_len h4, e_h5, h6', FN]
  ·have h6' : x8 = false := Bool.eq_false_iff.2 h6
   conv => arg 1; simp (disch := first | exact Zd | fail) only [ZZ, d195_at, simprocAttr, c4_p1, c3_p1, b4_p1, b3_p1, nm_p1, h1'', h1', fm_cut c_T_Val_len h4, fm_fit c_T_Val_len h4, fm_at c_T_Val_len h4, fm_at0 c_T_Val_len h4, e_h5, h6']
   refine J.eq ret_seq ?_
   conv => arg 1; simp (disch := first | exact Zd | fail) only [ZZ, d195_at, simprocAttr, c4_p1, c3_p1, b4_p1, b3_p1, nm_p1, h1'', h1', fm_cut c_T_Val_len h4, fm_fit c_T_Val_len h4, fm_at c_T_Val_len h4, fm_at0 c_T_Val_len h4, e_h5, h6']
   refine J.next (s := wk .i64 (x4 + 1)) hn1 ?_ ?_
   ·exact Ze
   ·exact Zh
 ·have h1' := decide_eq_false h1
  have h1'' : decide ((x1.length : Int) ≤ x4) = true := decide_eq_true (by omega)
  conv => arg 1; simp (disch := first | exact Zd | fail) only [ZZ, d195_at, simprocAttr, c4_p1, c3_p1, b4_p1, b3_p1, nm_p1, h1'', h1']
  refine J.eq ret_seq ?_
  refine J.some ?_
  simp (maxSteps := 20000000) (disch := first | exact Zd | fail) only [ZZ, d195_at, simprocAttr, c4_p1, c3_p1, b4_p1, b3_p1, nm_p1, h1'', h1', FN]
noncomputable def t195 (fu : Nat) (x1 : List T_Val) (p1 : T_Val → Option Bool) (fv_p1 : FuncId) (ca_p1 : List AV) : CallP := orE fv_p1 (mkC (fun (t : T_Val) => ((.agg (c_T_Val t)) :: ca_p1 : List AV)) (fun t => p1 t) (fun r => .v (.bool r))) (noP)
theorem t195_ok (fu : Nat) (x1 : List T_Val) (p1 : T_Val → Option Bool) (fv_p1 : FuncId) (ca_p1 : List AV) (cap_p1 : Capt ca_p1) (hp_p1 : ∀ (y0 : T_Val) r, p1 y0 = some r → PureOK Tryz.prog fv_p1 ((.agg (c_T_Val y0)) :: ca_p1) (.v (.bool r))) : CpOK Tryz.prog (t195 fu x1 p1 fv_p1 ca_p1) := orE_ok (noP_ok) (mkC_ok (fun t b h => hp_p1 t b h))
theorem ok195 (fu : Nat) (x1 : List T_Val) (p1 : T_Val → Option Bool) (fv_p1 : FuncId) (ca_p1 : List AV) (cap_p1 : Capt ca_p1) (hp_p1 : ∀ (y0 : T_Val) r, p1 y0 = some r → PureOK Tryz.prog fv_p1 ((.agg (c_T_Val y0)) :: ca_p1) (.v (.bool r))) (r) (h : slices_IndexFunc_api_Val_api_Val fu x1 p1 = some r) : PureOK Tryz.prog 195 [.arr x1.length (fm c_T_Val x1), .fn fv_p1 [] ca_p1] (e195 r) :=
  pure_J mixed (cp := t195 fu x1 p1 fv_p1 ca_p1) (t195_ok fu x1 p1 fv_p1 ca_p1 cap_p1 hp_p1) noI_ok i195 (w195 _ fu x1 p1 fv_p1 ca_p1 cap_p1 (fun y0 r h => orE_hit (mkC_at (a := y0) (by intro a b h; first | (exact rfl) | (simp only [INJ, IJ] at h; first | exact h | (simp_all [Prod.ext_iff]) )) h)) ) h
open Aw (d160)
def d160_at := by have h := tabL Aw.d160.eq_1; simp only [AllAt, Nat.zero_add, Nat.reduceAdd] at h; exact h
theorem i160 : finfo Tryz.prog 160 d160 = some ⟨bodyOf Tryz.f160, [.tmp 4], [4]⟩ := finfo_at Tryz.func160 rfl (by kernel_rfl) (by kernel_rfl)
def e160 : Bool → AV := fun r => .v (.bool r)
set_option maxHeartbeats 20000000 in
theorem w160 (cp : CallP) (fu : Nat) (x1 : List T_Val) (p1 : T_Val → Option Bool) (fv_p1 : FuncId) (ca_p1 : List AV) (cap_p1 : Capt ca_p1) (hp_p1 : ∀ (y0 : T_Val) r, p1 y0 = some r → cp fv_p1 ((.agg (c_T_Val y0)) :: ca_p1) = some (.v (.bool r))) (H195_0 : ∀ (a0 : List T_Val) r, slices_IndexFunc_api_Val_api_Val fu a0 p1 = some r → cp 195 [.arr a0.length (fm c_T_Val a0), .fn fv_p1 [] ca_p1] = some (.v (.int .i64 r))) : J (go Tryz.prog noC cp noI 0 [] d160 fu (fin Tryz.prog [.tmp 4] [4]) (bodyOf Tryz.f160) (initE 0 [.arr x1.length (fm c_T_Val x1), .fn fv_p1 [] ca_p1]) [] []) (slices_ContainsFunc_api_Val_api_Val fu x1 p1) e160 := by
 unfold slices_ContainsFunc_api_Val_api_Val e160
 have da := d160_at
 have c4_p1 := fun g => (cap_p1.1 g).1; have c3_p1 := fun g => (cap_p1.1 g).2.1; have b4_p1 := fun g => (cap_p1.1 g).2.2.1; have b3_p1 := fun g => (cap_p1.1 g).2.2.2; have nm_p1 := cap_p1.2
 refine J.bind fun x2 h1 => ?_
 have e_h1 := H195_0 _ _ h1
 try simp only [NN, NT, LN, simprocAttr, DT] at e_h1
 refine J.some ?_
 simp (maxSteps := 20000000) (disch := first | exact Zd | fail) only [bodyOf, Tryz.f160, ZZ, d160_at, simprocAttr, c4_p1, c3_p1, b4_p1, b3_p1, nm_p1, e_h1, FN]
noncomputable def t160 (fu : Nat) (x1 : List T_Val) (p1 : T_Val → Option Bool) (fv_p1 : FuncId) (ca_p1 : List AV) : CallP := orE 195 (mkC (fun (t : List T_Val) => ([.arr t.length (fm c_T_Val t), .fn fv_p1 [] ca_p1] : List AV)) (fun t => slices_IndexFunc_api_Val_api_Val fu t p1) e195) (orE fv_p1 (mkC (fun (t : T_Val) => ((.agg (c_T_Val t)) :: ca_p1 : List AV)) (fun t => p1 t) (fun r => .v (.bool r))) (noP))
theorem t160_ok (fu : Nat) (x1 : List T_Val) (p1 : T_Val → Option Bool) (fv_p1 : FuncId) (ca_p1 : List AV) (cap_p1 : Capt ca_p1) (hp_p1 : ∀ (y0 : T_Val) r, p1 y0 = some r → PureOK Tryz.prog fv_p1 ((.agg (c_T_Val y0)) :: ca_p1) (.v (.bool r))) : CpOK Tryz.prog (t160 fu x1 p1 fv_p1 ca_p1) := orE_ok (orE_ok (noP_ok) (mkC_ok (fun t b h => hp_p1 t b h))) (mkC_ok (fun t b h => ok195 fu t p1 fv_p1 ca_p1 cap_p1 hp_p1 b h))
theorem ok160 (fu : Nat) (x1 : List T_Val) (p1 : T_Val → Option Bool) (fv_p1 : FuncId) (ca_p1 : List AV) (cap_p1 : Capt ca_p1) (hp_p1 : ∀ (y0 : T_Val) r, p1 y0 = some r → PureOK Tryz.prog fv_p1 ((.agg (c_T_Val y0)) :: ca_p1) (.v (.bool r))) (r) (h : slices_ContainsFunc_api_Val_api_Val fu x1 p1 = some r) : PureOK Tryz.prog 160 [.arr x1.length (fm c_T_Val x1), .fn fv_p1 [] ca_p1] (e160 r) :=
  pure_J mixed (cp := t160 fu x1 p1 fv_p1 ca_p1) (t160_ok fu x1 p1 fv_p1 ca_p1 cap_p1 hp_p1) noI_ok i160 (w160 _ fu x1 p1 fv_p1 ca_p1 cap_p1 (fun y0 r h => orE_skip (fun hfv => mkC_none (by intro t h; simp at h)) (orE_hit (mkC_at (a := y0) (by intro a b h; first | (exact rfl) | (simp only [INJ, IJ] at h; first | exact h | (simp_all [Prod.ext_iff]) )) h))) (fun a0 r h => orE_hit (mkC_at (a := a0) (by intro a b h; first | (exact rfl) | (simp only [INJ, IJ] at h; first | exact h | (simp_all [Prod.ext_iff]) )) h))) h
open Aw (d168)
def d168_at := by have h := tabL Aw.d168.eq_1; simp only [AllAt, Nat.zero_add, Nat.reduceAdd] at h; exact h
theorem i168 : finfo Tryz.prog 168 d168 = some ⟨bodyOf Tryz.f168, [.tmp 4], [4]⟩ := finfo_at Tryz.func168 rfl (by kernel_rfl) (by kernel_rfl)
def e168 : Bool → AV := fun r => .v (.bool r)
def slices_Equal_int.m1 : LJ 1 8 Unit Int := ⟨fun r s e => [(0, er e 0), (1, er e 1), (12, er e 12), (13, .v (.int .i64 s))], fun r s h => []⟩
set_option maxHeartbeats 20000000 in
open slices_Equal_int in
theorem w168 (cp : CallP) (fu : Nat) (x1 : List Int) (x2 : List Int)  : J (go Tryz.prog noC cp noI 0 [] d168 fu (fin Tryz.prog [.tmp 4] [4]) (bodyOf Tryz.f168) (initE 0 [.arr x1.length (lm (ik .i64) x1), .arr x2.length (lm (ik .i64) x2)]) [] []) (slices_Equal_int fu x1 x2) e168 := by
 unfold slices_Equal_int e168
 have da := d168_at
 conv => arg 1; simp only [bodyOf, Tryz.f168]
 have z0 := d168_at
 exact Wk
theorem ok168 (fu : Nat) (x1 : List Int) (x2 : List Int) (r) (h : slices_Equal_int fu x1 x2 = some r) : PureOK Tryz.prog 168 [.arr x1.length (lm (ik .i64) x1), .arr x2.length (lm (ik .i64) x2)] (e168 r) := pureT mixed [] (ids := []) rfl (by decide) i168 (C := noC) (ci := fun cp => noI) (fun cp ok => noI_ok) (fun cp H => w168 cp fu x1 x2 ) h
open Aw (d162)
def d162_at := by have h := tabL Aw.d162.eq_1; simp only [AllAt, Nat.zero_add, Nat.reduceAdd] at h; exact h
theorem i162 : finfo Tryz.prog 162 d162 = some ⟨bodyOf Tryz.f162, [.tmp 2], [4]⟩ := finfo_at Tryz.func162 rfl (by kernel_rfl) (by kernel_rfl)
def e162 : Bool → AV := fun r => .v (.bool r)
structure K23 (fu : Nat) (cp : CallP) : Prop where
 ap : ∀ {a0 : T_Tensor} {r}, tens_Check fu a0 = some r → cp 23 [.agg (c_T_Tensor a0)] = some (.v (.int .i64 r))
noncomputable def C23 (fu : Nat) : Cm Tryz.prog T_Tensor Int := ⟨23, fun t => [.agg (c_T_Tensor t)], fun t => tens_Check fu t, e23, fun t b h => ok23 fu t  b h, Zi⟩
theorem u23 {fu : Nat} {cp : CallP} (H : Hit cp (C23 fu).ct) : K23 fu cp := ⟨fun {a0 r} h => (C23 fu).at H a0 r h⟩
structure K168 (fu : Nat) (cp : CallP) : Prop where
 ap : ∀ {a0 : List Int} {a1 : List Int} {r}, slices_Equal_int fu a0 a1 = some r → cp 168 [.arr a0.length (lm (ik .i64) a0), .arr a1.length (lm (ik .i64) a1)] = some (.v (.bool r))
noncomputable def C168 (fu : Nat) : Cm Tryz.prog ((List Int) × (List Int)) Bool := ⟨168, fun t => [.arr t.1.length (lm (ik .i64) t.1), .arr t.2.length (lm (ik .i64) t.2)], fun t => slices_Equal_int fu t.1 t.2, e168, fun t b h => ok168 fu t.1 t.2  b h, Zi⟩
theorem u168 {fu : Nat} {cp : CallP} (H : Hit cp (C168 fu).ct) : K168 fu cp := ⟨fun {a0 a1 r} h => (C168 fu).at H (a0, a1) r h⟩
set_option maxHeartbeats 20000000 in
theorem w162 (cp : CallP) (fu : Nat) (x1 : T_Val) (H1 : K23 fu cp) (H2 : K168 fu cp) : J (go Tryz.prog noC cp noI 0 [] d162 fu (fin Tryz.prog [.tmp 2] [4]) (bodyOf Tryz.f162) (initE 0 [.agg (c_T_Val x1)]) [] []) (infer_held fu x1) e162 := by
 unfold infer_held e162
 have da := d162_at
 conv => arg 1; simp only [bodyOf, Tryz.f162]
 have z0 := d162_at
 exact Wk
theorem ok162 (fu : Nat) (x1 : T_Val) (r) (h : infer_held fu x1 = some r) : PureOK Tryz.prog 162 [.agg (c_T_Val x1)] (e162 r) := pureT mixed [(C23 fu).ct, (C168 fu).ct] (ids := [23, 168]) rfl (by decide) i162 (C := noC) (ci := fun cp => noI) (fun cp ok => noI_ok) (fun cp H => w162 cp fu x1 (u23 H.1) (u168 H.2.1)) h
open Aw (d161)
def d161_at := by have h := tabL Aw.d161.eq_1; simp only [AllAt, Nat.zero_add, Nat.reduceAdd] at h; exact h
theorem i161 : finfo Tryz.prog 161 d161 = some ⟨bodyOf Tryz.f161, [.tmp 2], [4]⟩ := finfo_at Tryz.func161 rfl (by kernel_rfl) (by kernel_rfl)
def e161 : Bool → AV := fun r => .v (.bool r)
structure K162 (fu : Nat) (cp : CallP) : Prop where
 ap : ∀ {a0 : T_Val} {r}, infer_held fu a0 = some r → cp 162 [.agg (c_T_Val a0)] = some (.v (.bool r))
noncomputable def C162 (fu : Nat) : Cm Tryz.prog T_Val Bool := ⟨162, fun t => [.agg (c_T_Val t)], fun t => infer_held fu t, e162, fun t b h => ok162 fu t  b h, Zi⟩
theorem u162 {fu : Nat} {cp : CallP} (H : Hit cp (C162 fu).ct) : K162 fu cp := ⟨fun {a0 r} h => (C162 fu).at H a0 r h⟩
set_option maxHeartbeats 20000000 in
theorem w161 (cp : CallP) (fu : Nat) (x1 : T_Val) (H1 : K162 fu cp) : J (go Tryz.prog noC cp noI 0 [] d161 fu (fin Tryz.prog [.tmp 2] [4]) (bodyOf Tryz.f161) (initE 0 [.agg (c_T_Val x1)]) [] []) (infer_ask_told_1 fu x1) e161 := by
 unfold infer_ask_told_1 e161
 have da := d161_at
 conv => arg 1; simp only [bodyOf, Tryz.f161]
 have z0 := d161_at
 exact Wk
theorem ok161 (fu : Nat) (x1 : T_Val) (r) (h : infer_ask_told_1 fu x1 = some r) : PureOK Tryz.prog 161 [.agg (c_T_Val x1)] (e161 r) := pureT mixed [(C162 fu).ct] (ids := [162]) rfl (by decide) i161 (C := noC) (ci := fun cp => noI) (fun cp ok => noI_ok) (fun cp H => w161 cp fu x1 (u162 H.1)) h
open Aw (d163)
def d163_at := by have h := tabL Aw.d163.eq_1; simp only [AllAt, Nat.zero_add, Nat.reduceAdd] at h; exact h
theorem i163 : finfo Tryz.prog 163 d163 = some ⟨bodyOf Tryz.f163, [.tmp 2], [4]⟩ := finfo_at Tryz.func163 rfl (by kernel_rfl) (by kernel_rfl)
def e163 : Bool → AV := fun r => .v (.bool r)
set_option maxHeartbeats 20000000 in
theorem w163 (cp : CallP) (fu : Nat) (x1 : T_Val)  : J (go Tryz.prog noC cp noI 0 [] d163 fu (fin Tryz.prog [.tmp 2] [4]) (bodyOf Tryz.f163) (initE 0 [.agg (c_T_Val x1)]) [] []) (infer_ask_told_2 fu x1) e163 := by
 unfold infer_ask_told_2 e163
 have da := d163_at
 conv => arg 1; simp only [bodyOf, Tryz.f163]
 have z0 := d163_at
 exact Wk
theorem ok163 (fu : Nat) (x1 : T_Val) (r) (h : infer_ask_told_2 fu x1 = some r) : PureOK Tryz.prog 163 [.agg (c_T_Val x1)] (e163 r) := pureT mixed [] (ids := []) rfl (by decide) i163 (C := noC) (ci := fun cp => noI) (fun cp ok => noI_ok) (fun cp H => w163 cp fu x1 ) h
open Aw (d196)
def d196_at := by have h := tabL Aw.d196.eq_1; simp only [AllAt, Nat.zero_add, Nat.reduceAdd] at h; exact h
theorem i196 : finfo Tryz.prog 196 d196 = some ⟨bodyOf Tryz.f196, [.tmp 4], [3]⟩ := finfo_at Tryz.func196 rfl (by kernel_rfl) (by kernel_rfl)
def e196 : Int → AV := fun r => .v (.int .i64 r)
set_option maxHeartbeats 20000000 in
theorem w196 (cp : CallP) (fu : Nat) (x1 : List Int) (p1 : Int → Option Bool) (fv_p1 : FuncId) (ca_p1 : List AV) (cap_p1 : Capt ca_p1) (hp_p1 : ∀ (y0 : Int) r, p1 y0 = some r → cp fv_p1 ((.v (.int .i64 y0)) :: ca_p1) = some (.v (.bool r))) : J (go Tryz.prog noC cp noI 0 [] d196 fu (fin Tryz.prog [.tmp 4] [3]) (bodyOf Tryz.f196) (initE 0 [.arr x1.length (lm (ik .i64) x1), .fn fv_p1 [] ca_p1]) [] []) (slices_IndexFunc_int64 fu x1 p1) e196 := by
 unfold slices_IndexFunc_int64 e196
 have da := d196_at
 have c4_p1 := fun g => (cap_p1.1 g).1; have c3_p1 := fun g => (cap_p1.1 g).2.1; have b4_p1 := fun g => (cap_p1.1 g).2.2.1; have b3_p1 := fun g => (cap_p1.1 g).2.2.2; have nm_p1 := cap_p1.2
 conv => arg 1; simp (disch := first | exact Zd | fail) only [bodyOf, Tryz.f196, ZZ, d196_at, simprocAttr, c4_p1, c3_p1, b4_p1, b3_p1, nm_p1]
 refine J.eq go_seq ?_
 conv => arg 1; simp (disch := first | exact Zd | fail) only [ZZ, d196_at, simprocAttr, c4_p1, c3_p1, b4_p1, b3_p1, nm_p1]
 unfold slices_IndexFunc_int64.W1
 refine J.loop (fun (s : Int) => ([(0, .arr x1.length (lm (ik .i64) x1)), (1, .fn fv_p1 [] ca_p1), (7, .v (.int .i64 (x1.length : Int))), (8, .v (.int .i64 s))], [])) (fun next s => slices_IndexFunc_int64.L1 fu p1 x1 next s) (s0 := 0) ?_ ?_ ?_
 ·exact Ze
 ·exact Zh
 rintro nx1 k1 hn1 x4
 show J _ (slices_IndexFunc_int64.L1 fu p1 x1 nx1 x4) _
 unfold slices_IndexFunc_int64.L1
 conv => arg 1; simp (disch := first | exact Zd | fail) only [ZZ, d196_at, simprocAttr, c4_p1, c3_p1, b4_p1, b3_p1, nm_p1]
 refine J.eq go_seq ?_
 conv => arg 1; simp (disch := first | exact Zd | fail) only [ZZ, d196_at, simprocAttr, c4_p1, c3_p1, b4_p1, b3_p1, nm_p1]
 refine J.ite (fun h1 => ?_) (fun h1 => ?_)
 ·have h1' := decide_eq_true h1
  have h1'' : decide ((x1.length : Int) ≤ x4) = false := decide_eq_false (by omega)
  conv => arg 1; simp (disch := first | exact Zd | fail) only [ZZ, d196_at, simprocAttr, c4_p1, c3_p1, b4_p1, b3_p1, nm_p1, h1'', h1']
  refine J.eq ret_seq ?_
  refine J.eq go_seq ?_
  refine J.at fun x7 h2 h3 h4 => ?_
  refine J.bind fun x8 h5 => ?_
  have e_h5 := hp_p1 _ _ h5
  try simp only [NN, NT, LN, simprocAttr, DT] at e_h5
  conv => arg 1; simp (disch := first | exact Zd | fail) only [ZZ, d196_at, simprocAttr, c4_p1, c3_p1, b4_p1, b3_p1, nm_p1, h1'', h1', lm_ik h4, e_h5]
  refine J.ite (fun h6 => ?_) (fun h6 => ?_)
  ·have h6' : x8 = true := h6
   refine J.some ?_
   simp (maxSteps := 20000000) (disch := first | exact Zd | fail) only [ZZ, d196_at, simprocAttr, c4_p1, c3_p1, b4_p1, b3_p1, nm_p1, h1'', h1', lm_ik h4, e_h5, h6', FN]
  ·have h6' : x8 = false := Bool.eq_false_iff.2 h6
   conv => arg 1; simp (disch := first | exact Zd | fail) only [ZZ, d196_at, simprocAttr, c4_p1, c3_p1, b4_p1, b3_p1, nm_p1, h1'', h1', lm_ik h4, e_h5, h6']
   refine J.eq ret_seq ?_
   conv => arg 1; simp (disch := first | exact Zd | fail) only [ZZ, d196_at, simprocAttr, c4_p1, c3_p1, b4_p1, b3_p1, nm_p1, h1'', h1', lm_ik h4, e_h5, h6']
   refine J.next (s := wk .i64 (x4 + 1)) hn1 ?_ ?_
   ·exact Ze
   ·exact Zh
 ·have h1' := decide_eq_false h1
  have h1'' : decide ((x1.length : Int) ≤ x4) = true := decide_eq_true (by omega)
  conv => arg 1; simp (disch := first | exact Zd | fail) only [ZZ, d196_at, simprocAttr, c4_p1, c3_p1, b4_p1, b3_p1, nm_p1, h1'', h1']
  refine J.eq ret_seq ?_
  refine J.some ?_
  simp (maxSteps := 20000000) (disch := first | exact Zd | fail) only [ZZ, d196_at, simprocAttr, c4_p1, c3_p1, b4_p1, b3_p1, nm_p1, h1'', h1', FN]
noncomputable def t196 (fu : Nat) (x1 : List Int) (p1 : Int → Option Bool) (fv_p1 : FuncId) (ca_p1 : List AV) : CallP := orE fv_p1 (mkC (fun (t : Int) => ((.v (.int .i64 t)) :: ca_p1 : List AV)) (fun t => p1 t) (fun r => .v (.bool r))) (noP)
theorem t196_ok (fu : Nat) (x1 : List Int) (p1 : Int → Option Bool) (fv_p1 : FuncId) (ca_p1 : List AV) (cap_p1 : Capt ca_p1) (hp_p1 : ∀ (y0 : Int) r, p1 y0 = some r → PureOK Tryz.prog fv_p1 ((.v (.int .i64 y0)) :: ca_p1) (.v (.bool r))) : CpOK Tryz.prog (t196 fu x1 p1 fv_p1 ca_p1) := orE_ok (noP_ok) (mkC_ok (fun t b h => hp_p1 t b h))
theorem ok196 (fu : Nat) (x1 : List Int) (p1 : Int → Option Bool) (fv_p1 : FuncId) (ca_p1 : List AV) (cap_p1 : Capt ca_p1) (hp_p1 : ∀ (y0 : Int) r, p1 y0 = some r → PureOK Tryz.prog fv_p1 ((.v (.int .i64 y0)) :: ca_p1) (.v (.bool r))) (r) (h : slices_IndexFunc_int64 fu x1 p1 = some r) : PureOK Tryz.prog 196 [.arr x1.length (lm (ik .i64) x1), .fn fv_p1 [] ca_p1] (e196 r) :=
  pure_J mixed (cp := t196 fu x1 p1 fv_p1 ca_p1) (t196_ok fu x1 p1 fv_p1 ca_p1 cap_p1 hp_p1) noI_ok i196 (w196 _ fu x1 p1 fv_p1 ca_p1 cap_p1 (fun y0 r h => orE_hit (mkC_at (a := y0) (by intro a b h; first | (exact rfl) | (simp only [INJ, IJ] at h; first | exact h | (simp_all [Prod.ext_iff]) )) h)) ) h
open Aw (d165)
def d165_at := by have h := tabL Aw.d165.eq_1; simp only [AllAt, Nat.zero_add, Nat.reduceAdd] at h; exact h
theorem i165 : finfo Tryz.prog 165 d165 = some ⟨bodyOf Tryz.f165, [.tmp 4], [4]⟩ := finfo_at Tryz.func165 rfl (by kernel_rfl) (by kernel_rfl)
def e165 : Bool → AV := fun r => .v (.bool r)
set_option maxHeartbeats 20000000 in
theorem w165 (cp : CallP) (fu : Nat) (x1 : List Int) (p1 : Int → Option Bool) (fv_p1 : FuncId) (ca_p1 : List AV) (cap_p1 : Capt ca_p1) (hp_p1 : ∀ (y0 : Int) r, p1 y0 = some r → cp fv_p1 ((.v (.int .i64 y0)) :: ca_p1) = some (.v (.bool r))) (H196_0 : ∀ (a0 : List Int) r, slices_IndexFunc_int64 fu a0 p1 = some r → cp 196 [.arr a0.length (lm (ik .i64) a0), .fn fv_p1 [] ca_p1] = some (.v (.int .i64 r))) : J (go Tryz.prog noC cp noI 0 [] d165 fu (fin Tryz.prog [.tmp 4] [4]) (bodyOf Tryz.f165) (initE 0 [.arr x1.length (lm (ik .i64) x1), .fn fv_p1 [] ca_p1]) [] []) (slices_ContainsFunc_int64 fu x1 p1) e165 := by
 unfold slices_ContainsFunc_int64 e165
 have da := d165_at
 have c4_p1 := fun g => (cap_p1.1 g).1; have c3_p1 := fun g => (cap_p1.1 g).2.1; have b4_p1 := fun g => (cap_p1.1 g).2.2.1; have b3_p1 := fun g => (cap_p1.1 g).2.2.2; have nm_p1 := cap_p1.2
 refine J.bind fun x2 h1 => ?_
 have e_h1 := H196_0 _ _ h1
 try simp only [NN, NT, LN, simprocAttr, DT] at e_h1
 refine J.some ?_
 simp (maxSteps := 20000000) (disch := first | exact Zd | fail) only [bodyOf, Tryz.f165, ZZ, d165_at, simprocAttr, c4_p1, c3_p1, b4_p1, b3_p1, nm_p1, e_h1, FN]
noncomputable def t165 (fu : Nat) (x1 : List Int) (p1 : Int → Option Bool) (fv_p1 : FuncId) (ca_p1 : List AV) : CallP := orE 196 (mkC (fun (t : List Int) => ([.arr t.length (lm (ik .i64) t), .fn fv_p1 [] ca_p1] : List AV)) (fun t => slices_IndexFunc_int64 fu t p1) e196) (orE fv_p1 (mkC (fun (t : Int) => ((.v (.int .i64 t)) :: ca_p1 : List AV)) (fun t => p1 t) (fun r => .v (.bool r))) (noP))
theorem t165_ok (fu : Nat) (x1 : List Int) (p1 : Int → Option Bool) (fv_p1 : FuncId) (ca_p1 : List AV) (cap_p1 : Capt ca_p1) (hp_p1 : ∀ (y0 : Int) r, p1 y0 = some r → PureOK Tryz.prog fv_p1 ((.v (.int .i64 y0)) :: ca_p1) (.v (.bool r))) : CpOK Tryz.prog (t165 fu x1 p1 fv_p1 ca_p1) := orE_ok (orE_ok (noP_ok) (mkC_ok (fun t b h => hp_p1 t b h))) (mkC_ok (fun t b h => ok196 fu t p1 fv_p1 ca_p1 cap_p1 hp_p1 b h))
theorem ok165 (fu : Nat) (x1 : List Int) (p1 : Int → Option Bool) (fv_p1 : FuncId) (ca_p1 : List AV) (cap_p1 : Capt ca_p1) (hp_p1 : ∀ (y0 : Int) r, p1 y0 = some r → PureOK Tryz.prog fv_p1 ((.v (.int .i64 y0)) :: ca_p1) (.v (.bool r))) (r) (h : slices_ContainsFunc_int64 fu x1 p1 = some r) : PureOK Tryz.prog 165 [.arr x1.length (lm (ik .i64) x1), .fn fv_p1 [] ca_p1] (e165 r) :=
  pure_J mixed (cp := t165 fu x1 p1 fv_p1 ca_p1) (t165_ok fu x1 p1 fv_p1 ca_p1 cap_p1 hp_p1) noI_ok i165 (w165 _ fu x1 p1 fv_p1 ca_p1 cap_p1 (fun y0 r h => orE_skip (fun hfv => mkC_none (by intro t h; simp at h)) (orE_hit (mkC_at (a := y0) (by intro a b h; first | (exact rfl) | (simp only [INJ, IJ] at h; first | exact h | (simp_all [Prod.ext_iff]) )) h))) (fun a0 r h => orE_hit (mkC_at (a := a0) (by intro a b h; first | (exact rfl) | (simp only [INJ, IJ] at h; first | exact h | (simp_all [Prod.ext_iff]) )) h))) h
open Aw (d166)
def d166_at := by have h := tabL Aw.d166.eq_1; simp only [AllAt, Nat.zero_add, Nat.reduceAdd] at h; exact h
theorem i166 : finfo Tryz.prog 166 d166 = some ⟨bodyOf Tryz.f166, [.tmp 2], [4]⟩ := finfo_at Tryz.func166 rfl (by kernel_rfl) (by kernel_rfl)
def e166 : Bool → AV := fun r => .v (.bool r)
set_option maxHeartbeats 20000000 in
theorem w166 (cp : CallP) (fu : Nat) (x1 : Int)  : J (go Tryz.prog noC cp noI 0 [] d166 fu (fin Tryz.prog [.tmp 2] [4]) (bodyOf Tryz.f166) (initE 0 [.v (.int .i64 x1)]) [] []) (infer_ask_told_3_1 fu x1) e166 := by
 unfold infer_ask_told_3_1 e166
 have da := d166_at
 conv => arg 1; simp only [bodyOf, Tryz.f166]
 have z0 := d166_at
 exact Wk
theorem ok166 (fu : Nat) (x1 : Int) (r) (h : infer_ask_told_3_1 fu x1 = some r) : PureOK Tryz.prog 166 [.v (.int .i64 x1)] (e166 r) := pureT mixed [] (ids := []) rfl (by decide) i166 (C := noC) (ci := fun cp => noI) (fun cp ok => noI_ok) (fun cp H => w166 cp fu x1 ) h
open Aw (d164)
def d164_at := by have h := tabL Aw.d164.eq_1; simp only [AllAt, Nat.zero_add, Nat.reduceAdd] at h; exact h
theorem i164 : finfo Tryz.prog 164 d164 = some ⟨bodyOf Tryz.f164, [.tmp 2], [4]⟩ := finfo_at Tryz.func164 rfl (by kernel_rfl) (by kernel_rfl)
def e164 : Bool → AV := fun r => .v (.bool r)
structure K165 (fu : Nat) (cp : CallP) : Prop where
 ap : ∀ {a0 : List Int} {r}, slices_ContainsFunc_int64 fu a0 (fun y0 => infer_ask_told_3_1 fu y0) = some r → cp 165 [.arr a0.length (lm (ik .i64) a0), .fn 166 [] []] = some (.v (.bool r))
noncomputable def C165 (fu : Nat) : Cm Tryz.prog (List Int) Bool := ⟨165, fun t => [.arr t.length (lm (ik .i64) t), .fn 166 [] []], fun t => slices_ContainsFunc_int64 fu t (fun y0 => infer_ask_told_3_1 fu y0), e165, fun t b h => ok165 fu t (fun y0 => infer_ask_told_3_1 fu y0) 166 [] Capt.nil (fun y0 r h => ok166 fu y0  r h) b h, Zi⟩
theorem u165 {fu : Nat} {cp : CallP} (H : Hit cp (C165 fu).ct) : K165 fu cp := ⟨fun {a0 r} h => (C165 fu).at H a0 r h⟩
set_option maxHeartbeats 20000000 in
theorem w164 (cp : CallP) (fu : Nat) (x1 : T_Val) (H1 : K165 fu cp) : J (go Tryz.prog noC cp noI 0 [] d164 fu (fin Tryz.prog [.tmp 2] [4]) (bodyOf Tryz.f164) (initE 0 [.agg (c_T_Val x1)]) [] []) (infer_ask_told_3 fu x1) e164 := by
 unfold infer_ask_told_3 e164
 have da := d164_at
 conv => arg 1; simp only [bodyOf, Tryz.f164]
 have z0 := d164_at
 exact Wk
theorem ok164 (fu : Nat) (x1 : T_Val) (r) (h : infer_ask_told_3 fu x1 = some r) : PureOK Tryz.prog 164 [.agg (c_T_Val x1)] (e164 r) := pureT mixed [(C165 fu).ct] (ids := [165]) rfl (by decide) i164 (C := noC) (ci := fun cp => noI) (fun cp ok => noI_ok) (fun cp H => w164 cp fu x1 (u165 H.1)) h
open Aw (d94)
def d94_at := by have h := tabL Aw.d94.eq_1; simp only [AllAt, Nat.zero_add, Nat.reduceAdd] at h; exact h
theorem i94 : finfo Tryz.prog 94 d94 = some ⟨bodyOf Tryz.f94, [.tmp 2], [32]⟩ := finfo_at Tryz.func94 rfl (by kernel_rfl) (by kernel_rfl)
def e94 : Int → AV := fun r => .v (.int .i64 r)
set_option maxHeartbeats 20000000 in
theorem w94 (cp : CallP) (fu : Nat) (x1 : T_infer_ask) (H159_0 : ∀ (a0 : T_infer_ask) r, infer_ask_lists fu a0 = some r → cp 159 [.agg (c_T_infer_ask a0)] = some (.fresh 8 r.length (fm c_T_Val r))) (H160_0 : ∀ (a0 : List T_Val) r, slices_ContainsFunc_api_Val_api_Val fu a0 (fun y0 => infer_ask_told_1 fu y0) = some r → cp 160 [.arr a0.length (fm c_T_Val a0), .fn 161 [] []] = some (.v (.bool r))) (H160_1 : ∀ (a0 : List T_Val) r, slices_ContainsFunc_api_Val_api_Val fu a0 (fun y0 => infer_ask_told_2 fu y0) = some r → cp 160 [.arr a0.length (fm c_T_Val a0), .fn 163 [] []] = some (.v (.bool r))) (H160_2 : ∀ (a0 : List T_Val) r, slices_ContainsFunc_api_Val_api_Val fu a0 (fun y0 => infer_ask_told_3 fu y0) = some r → cp 160 [.arr a0.length (fm c_T_Val a0), .fn 164 [] []] = some (.v (.bool r))) : J (go Tryz.prog noC cp noI 0 [] d94 fu (fin Tryz.prog [.tmp 2] [32]) (bodyOf Tryz.f94) (initE 0 [.agg (c_T_infer_ask x1)]) [] []) (infer_ask_told fu x1) e94 := by
 unfold infer_ask_told e94
 have da := d94_at
 refine J.spl (fun h1 => ?_) (fun h1 => ?_)
 ·refine J.bind fun x2 h2 => ?_
  have e_h2 := H159_0 _ _ h2
  try simp only [NN, NT, LN, simprocAttr, DT] at e_h2
  conv => arg 1; simp (disch := first | exact Zd | fail) only [bodyOf, Tryz.f94, ZZ, d94_at, simprocAttr, h1, e_h2]
  refine J.eq go_seq ?_
  refine J.bind fun x3 h3 => ?_
  have e_h3 := H160_0 _ _ h3
  try simp only [NN, NT, LN, simprocAttr, DT] at e_h3
  refine Jc ?_
  refine J.ite (fun h4 => ?_) (fun h4 => ?_)
  ·have h4' : x3 = true := h4
   refine J.some ?_
   exact Js
  ·have h4' : x3 = false := Bool.eq_false_iff.2 h4
   refine J.bind fun x4 h5 => ?_
   have e_h5 := H160_1 _ _ h5
   try simp only [NN, NT, LN, simprocAttr, DT] at e_h5
   refine Jc ?_
   refine J.ite (fun h6 => ?_) (fun h6 => ?_)
   ·have h6' : x4 = true := h6
    refine J.some ?_
    exact Js
   ·have h6' : x4 = false := Bool.eq_false_iff.2 h6
    refine Jc ?_
    refine J.eq go_seq ?_
    refine J.bind fun x5 h7 => ?_
    have e_h7 := H160_2 _ _ h7
    try simp only [NN, NT, LN, simprocAttr, DT] at e_h7
    refine Jc ?_
    refine J.eq ret_seq ?_
    refine Jc ?_
    refine J.ite (fun h8 => ?_) (fun h8 => ?_)
    ·have h8' : x5 = true := h8
     refine J.some ?_
     exact Js
    ·have h8' : x5 = false := Bool.eq_false_iff.2 h8
     refine Jc ?_
     refine J.eq ret_seq ?_
     refine J.some ?_
     exact Js
 ·refine J.chk fun h9 => ?_
  refine J.bind fun x6 h10 => ?_
  have e_h10 := H159_0 _ _ h10
  try simp only [NN, NT, LN, simprocAttr, DT] at e_h10
  conv => arg 1; simp (disch := first | exact Zd | fail) only [bodyOf, Tryz.f94, ZZ, d94_at, simprocAttr, h9, e_h10]
  refine J.eq go_seq ?_
  refine J.bind fun x7 h11 => ?_
  have e_h11 := H160_0 _ _ h11
  try simp only [NN, NT, LN, simprocAttr, DT] at e_h11
  refine Jc ?_
  refine J.ite (fun h12 => ?_) (fun h12 => ?_)
  ·have h12' : x7 = true := h12
   refine J.some ?_
   exact Js
  ·have h12' : x7 = false := Bool.eq_false_iff.2 h12
   refine J.bind fun x8 h13 => ?_
   have e_h13 := H160_1 _ _ h13
   try simp only [NN, NT, LN, simprocAttr, DT] at e_h13
   refine Jc ?_
   refine J.ite (fun h14 => ?_) (fun h14 => ?_)
   ·have h14' : x8 = true := h14
    refine J.some ?_
    exact Js
   ·have h14' : x8 = false := Bool.eq_false_iff.2 h14
    refine Jc ?_
    refine J.eq go_seq ?_
    refine J.bind fun x9 h15 => ?_
    have e_h15 := H160_2 _ _ h15
    try simp only [NN, NT, LN, simprocAttr, DT] at e_h15
    refine Jc ?_
    refine J.eq ret_seq ?_
    refine Jc ?_
    refine J.ite (fun h16 => ?_) (fun h16 => ?_)
    ·have h16' : x9 = true := h16
     refine J.some ?_
     exact Js
    ·have h16' : x9 = false := Bool.eq_false_iff.2 h16
     refine Jc ?_
     refine J.eq ret_seq ?_
     refine J.some ?_
     exact Js
noncomputable def t94 (fu : Nat) : CallP := orE 159 (mkC (fun (t : T_infer_ask) => ([.agg (c_T_infer_ask t)] : List AV)) (fun t => infer_ask_lists fu t) e159) (orE 160 (mkC (fun (t : List T_Val) => ([.arr t.length (fm c_T_Val t), .fn 161 [] []] : List AV)) (fun t => slices_ContainsFunc_api_Val_api_Val fu t (fun y0 => infer_ask_told_1 fu y0)) e160) (orE 160 (mkC (fun (t : List T_Val) => ([.arr t.length (fm c_T_Val t), .fn 163 [] []] : List AV)) (fun t => slices_ContainsFunc_api_Val_api_Val fu t (fun y0 => infer_ask_told_2 fu y0)) e160) (orE 160 (mkC (fun (t : List T_Val) => ([.arr t.length (fm c_T_Val t), .fn 164 [] []] : List AV)) (fun t => slices_ContainsFunc_api_Val_api_Val fu t (fun y0 => infer_ask_told_3 fu y0)) e160) (noP))))
theorem t94_ok (fu : Nat) : CpOK Tryz.prog (t94 fu ) := orE_ok (orE_ok (orE_ok (orE_ok (noP_ok) (mkC_ok (fun t b h => ok160 fu t (fun y0 => infer_ask_told_3 fu y0) 164 [] Capt.nil (fun y0 r h => ok164 fu y0  r h) b h))) (mkC_ok (fun t b h => ok160 fu t (fun y0 => infer_ask_told_2 fu y0) 163 [] Capt.nil (fun y0 r h => ok163 fu y0  r h) b h))) (mkC_ok (fun t b h => ok160 fu t (fun y0 => infer_ask_told_1 fu y0) 161 [] Capt.nil (fun y0 r h => ok161 fu y0  r h) b h))) (mkC_ok (fun t b h => ok159 fu t  b h))
theorem ok94 (fu : Nat) (x1 : T_infer_ask) (r) (h : infer_ask_told fu x1 = some r) : PureOK Tryz.prog 94 [.agg (c_T_infer_ask x1)] (e94 r) :=
  pure_J mixed (cp := t94 fu ) (t94_ok fu  ) noI_ok i94 (w94 _ fu x1  (fun a0 r h => orE_hit (mkC_at (a := a0) (by intro a b h; first | (exact rfl) | (simp only [INJ, IJ] at h; first | exact h | (simp_all [Prod.ext_iff]) )) h)) (fun a0 r h => orE_miss (by decide) (orE_hit (mkC_at (a := a0) (by intro a b h; first | (exact rfl) | (simp only [INJ, IJ] at h; first | exact h | (simp_all [Prod.ext_iff]) )) h))) (fun a0 r h => orE_miss (by decide) (orE_next (mkC_none (by intro t h; simp at h)) (orE_hit (mkC_at (a := a0) (by intro a b h; first | (exact rfl) | (simp only [INJ, IJ] at h; first | exact h | (simp_all [Prod.ext_iff]) )) h)))) (fun a0 r h => orE_miss (by decide) (orE_next (mkC_none (by intro t h; simp at h)) (orE_next (mkC_none (by intro t h; simp at h)) (orE_hit (mkC_at (a := a0) (by intro a b h; first | (exact rfl) | (simp only [INJ, IJ] at h; first | exact h | (simp_all [Prod.ext_iff]) )) h)))))) h
open Aw (d43)
def d43_at := by have h := tabL Aw.d43.eq_1; simp only [AllAt, Nat.zero_add, Nat.reduceAdd] at h; exact h
theorem i43 : finfo Tryz.prog 43 d43 = some ⟨bodyOf Tryz.f43, [.tmp 2], [32]⟩ := finfo_at Tryz.func43 rfl (by kernel_rfl) (by kernel_rfl)
def e43 : Int → AV := fun r => .v (.int .i64 r)
structure K92 (fu : Nat) (cp : CallP) : Prop where
 ap : ∀ {a0 : T_infer_ask} {r}, infer_ask_typed fu a0 = some r → cp 92 [.agg (c_T_infer_ask a0)] = some (.v (.bool r))
noncomputable def C92 (fu : Nat) : Cm Tryz.prog T_infer_ask Bool := ⟨92, fun t => [.agg (c_T_infer_ask t)], fun t => infer_ask_typed fu t, e92, fun t b h => ok92 fu t  b h, Zi⟩
theorem u92 {fu : Nat} {cp : CallP} (H : Hit cp (C92 fu).ct) : K92 fu cp := ⟨fun {a0 r} h => (C92 fu).at H a0 r h⟩
structure K93 (fu : Nat) (cp : CallP) : Prop where
 ap : ∀ {a0 : T_infer_ask} {r}, infer_ask_attributes fu a0 = some r → cp 93 [.agg (c_T_infer_ask a0)] = some (.v (.bool r))
noncomputable def C93 (fu : Nat) : Cm Tryz.prog T_infer_ask Bool := ⟨93, fun t => [.agg (c_T_infer_ask t)], fun t => infer_ask_attributes fu t, e93, fun t b h => ok93 fu t  b h, Zi⟩
theorem u93 {fu : Nat} {cp : CallP} (H : Hit cp (C93 fu).ct) : K93 fu cp := ⟨fun {a0 r} h => (C93 fu).at H a0 r h⟩
structure K94 (fu : Nat) (cp : CallP) : Prop where
 ap : ∀ {a0 : T_infer_ask} {r}, infer_ask_told fu a0 = some r → cp 94 [.agg (c_T_infer_ask a0)] = some (.v (.int .i64 r))
noncomputable def C94 (fu : Nat) : Cm Tryz.prog T_infer_ask Int := ⟨94, fun t => [.agg (c_T_infer_ask t)], fun t => infer_ask_told fu t, e94, fun t b h => ok94 fu t  b h, Zi⟩
theorem u94 {fu : Nat} {cp : CallP} (H : Hit cp (C94 fu).ct) : K94 fu cp := ⟨fun {a0 r} h => (C94 fu).at H a0 r h⟩
def infer_ask_wrong.m1 : LJ 1 4 Unit Int := ⟨fun r s e => [(1, er e 1), (8, er e 8), (9, er e 9), (10, .v (.int .i64 s))], fun r s h => [((0, 1, 0), hr h (0, 1, 0))]⟩
def infer_ask_wrong.j1 : LJ 1 5 Unit Unit := ⟨fun r t e => [(1, er e 1)], fun r t h => [((0, 1, 0), hr h (0, 1, 0))]⟩
def infer_ask_wrong.m2 : LJ 2 4 Unit Int := ⟨fun r s e => [(1, er e 1), (8, er e 8), (9, er e 9), (10, .v (.int .i64 s))], fun r s h => [((0, 1, 0), hr h (0, 1, 0))]⟩
def infer_ask_wrong.j2 : LJ 2 5 Unit Unit := ⟨fun r t e => [(1, er e 1)], fun r t h => [((0, 1, 0), hr h (0, 1, 0))]⟩
set_option maxHeartbeats 20000000 in
open infer_ask_wrong in
theorem w43 (cp : CallP) (fu : Nat) (x1 : T_infer_ask) (H1 : K39 fu cp) (H2 : K91 fu cp) (H3 : K92 fu cp) (H4 : K93 fu cp) (H5 : K94 fu cp) : J (go Tryz.prog noC cp noI 0 [] d43 fu (fin Tryz.prog [.tmp 2] [32]) (bodyOf Tryz.f43) (initE 0 [.agg (c_T_infer_ask x1)]) [] []) (infer_ask_wrong fu x1) e43 := by
 unfold infer_ask_wrong e43
 have da := d43_at
 conv => arg 1; simp only [bodyOf, Tryz.f43]
 have z0 := d43_at
 exact Wk
theorem ok43 (fu : Nat) (x1 : T_infer_ask) (r) (h : infer_ask_wrong fu x1 = some r) : PureOK Tryz.prog 43 [.agg (c_T_infer_ask x1)] (e43 r) := pureT mixed [(C39 fu).ct, (C91 fu).ct, (C92 fu).ct, (C93 fu).ct, (C94 fu).ct] (ids := [39, 91, 92, 93, 94]) rfl (by decide) i43 (C := noC) (ci := fun cp => noI) (fun cp ok => noI_ok) (fun cp H => w43 cp fu x1 (u39 H.1) (u91 H.2.1) (u92 H.2.2.1) (u93 H.2.2.2.1) (u94 H.2.2.2.2.1)) h
def d98 : List (Nat × List Nat) := [(0, [0, 1]), (0, []), (0, [])]
def d98_at := by have h := tabL d98.eq_1; simp only [AllAt, Nat.zero_add, Nat.reduceAdd] at h; exact h
theorem i98 : finfo Tryz.prog 98 d98 = some ⟨bodyOf Tryz.f98, [.tmp 0, .tmp 1], [68, 32]⟩ := finfo_at Tryz.func98 rfl (by kernel_rfl) (by kernel_rfl)
def e98 : ((List (List Int)) × Int) → AV := fun r => .tuple [.arr r.1.length (lm (avl (ik .i64)) r.1), .v (.int .i64 r.2)]
set_option maxHeartbeats 20000000 in
theorem w98 (cp : CallP) (fu : Nat)   : J (go Tryz.prog noC cp noI 0 [] d98 fu (finS Tryz.prog [.tmp 0, .tmp 1] [68, 32]) (bodyOf Tryz.f98) (initE 0 []) [] []) (infer_misfit fu) e98 := by
 unfold infer_misfit e98
 have da := d98_at
 conv => arg 1; simp only [bodyOf, Tryz.f98]
 have z0 := d98_at
 have z1 := SE
 exact Wk
theorem ok98 (fu : Nat)  (r) (h : infer_misfit fu = some r) : PureOK Tryz.prog 98 [] (e98 r) := pureST mixed [] (ids := []) rfl (by decide) i98 (C := noC) (ci := fun cp => noI) (fun cp ok => noI_ok) (fun cp H => w98 cp fu ) h
def e183 : (List Int) → AV := fun r => .fresh 1 r.length (lm (ik .i64) r)
theorem ok183 (fu : Nat) (x1 : List Int) (x2 : Int) (r) (h : slices_Repeat_int fu x1 x2 = some r) : PureOK Tryz.prog 183 [.arr x1.length (lm (ik .i64) x1), .v (.int .i64 x2)] (e183 r) := by
  unfold slices_Repeat_int chk at h
  split at h
  · rename_i hx; injection h with h; subst h
    obtain ⟨rfl, rfl⟩ := hx
    exact Aw.c119_ok 183 [.arr 1 [.v (.int .i64 1)], .v (.int .i64 4)] (.fresh 1 4 [.v (.int .i64 1), .v (.int .i64 1), .v (.int .i64 1), .v (.int .i64 1)]) (by kernel_rfl)
  · cases h
open Aw (d106)
def d106_at := by have h := tabL Aw.d106.eq_1; simp only [AllAt, Nat.zero_add, Nat.reduceAdd] at h; exact h
theorem i106 : finfo Tryz.prog 106 d106 = some ⟨bodyOf Tryz.f106, [.tmp 2, .tmp 3], [68, 32]⟩ := finfo_at Tryz.func106 rfl (by kernel_rfl) (by kernel_rfl)
def e106 : ((List (List Int)) × Int) → AV := fun r => .tuple [.arr r.1.length (lm (avl (ik .i64)) r.1), .v (.int .i64 r.2)]
set_option maxHeartbeats 20000000 in
theorem w106 (cp : CallP) (fu : Nat) (x1 : List Int)  : J (go Tryz.prog noC cp noI 0 [] d106 fu (finS Tryz.prog [.tmp 2, .tmp 3] [68, 32]) (bodyOf Tryz.f106) (initE 0 [.arr x1.length (lm (ik .i64) x1)]) [] []) (infer_one fu x1) e106 := by
 unfold infer_one e106
 have da := d106_at
 conv => arg 1; simp only [bodyOf, Tryz.f106]
 have z0 := d106_at
 have z1 := SE
 exact Wk
theorem ok106 (fu : Nat) (x1 : List Int) (r) (h : infer_one fu x1 = some r) : PureOK Tryz.prog 106 [.arr x1.length (lm (ik .i64) x1)] (e106 r) := pureST mixed [] (ids := []) rfl (by decide) i106 (C := noC) (ci := fun cp => noI) (fun cp ok => noI_ok) (fun cp H => w106 cp fu x1 ) h
open Aw (d60)
def d60_at := by have h := tabL Aw.d60.eq_1; simp only [AllAt, Nat.zero_add, Nat.reduceAdd] at h; exact h
theorem i60 : finfo Tryz.prog 60 d60 = some ⟨bodyOf Tryz.f60, [.tmp 4, .tmp 5], [3, 32]⟩ := finfo_at Tryz.func60 rfl (by kernel_rfl) (by kernel_rfl)
def e60 : (Int × Int) → AV := fun r => .tuple [.v (.int .i64 r.1), .v (.int .i64 r.2)]
set_option maxHeartbeats 20000000 in
theorem w60 (cp : CallP) (fu : Nat) (x1 : Int) (x2 : Int)  : J (go Tryz.prog noC cp noI 0 [] d60 fu (fin Tryz.prog [.tmp 4, .tmp 5] [3, 32]) (bodyOf Tryz.f60) (initE 0 [.v (.int .i64 x1), .v (.int .i64 x2)]) [] []) (shape_Axis fu x1 x2) e60 := by
 unfold shape_Axis e60
 have da := d60_at
 conv => arg 1; simp only [bodyOf, Tryz.f60]
 have z0 := d60_at
 exact Wk
theorem ok60 (fu : Nat) (x1 : Int) (x2 : Int) (r) (h : shape_Axis fu x1 x2 = some r) : PureOK Tryz.prog 60 [.v (.int .i64 x1), .v (.int .i64 x2)] (e60 r) := pureT mixed [] (ids := []) rfl (by decide) i60 (C := noC) (ci := fun cp => noI) (fun cp ok => noI_ok) (fun cp H => w60 cp fu x1 x2 ) h
def d174 : List (Nat × List Nat) := [(0, [0, 2]), (0, []), (11, [1, 4, 5, 6, 7, 8, 9, 10, 11, 12, 13]), (0, []), (0, [3, 14])]
def d174_at := by have h := tabL d174.eq_1; simp only [AllAt, Nat.zero_add, Nat.reduceAdd] at h; exact h
theorem i174 : finfo Tryz.prog 174 d174 = some ⟨bodyOf Tryz.f174, [.tmp 2], [3]⟩ := finfo_at Tryz.func174 rfl (by kernel_rfl) (by kernel_rfl)
def e174 : Int → AV := fun r => .v (.int .i64 r)
structure K60 (fu : Nat) (cp : CallP) : Prop where
 ap : ∀ {a0 : Int} {a1 : Int} {r}, shape_Axis fu a0 a1 = some r → cp 60 [.v (.int .i64 a0), .v (.int .i64 a1)] = some (.tuple [.v (.int .i64 r.1), .v (.int .i64 r.2)])
noncomputable def C60 (fu : Nat) : Cm Tryz.prog (Int × Int) (Int × Int) := ⟨60, fun t => [.v (.int .i64 t.1), .v (.int .i64 t.2)], fun t => shape_Axis fu t.1 t.2, e60, fun t b h => ok60 fu t.1 t.2  b h, Zi⟩
theorem u60 {fu : Nat} {cp : CallP} (H : Hit cp (C60 fu).ct) : K60 fu cp := ⟨fun {a0 a1 r} h => (C60 fu).at H (a0, a1) r h⟩
set_option maxHeartbeats 20000000 in
theorem w174 (cp : CallP) (fu : Nat) (x1 : T_infer_ask) (H1 : K154 fu cp) (H2 : K60 fu cp) : J (go Tryz.prog noC cp noI 0 [] d174 fu (fin Tryz.prog [.tmp 2] [3]) (bodyOf Tryz.f174) (initE 0 [.agg (c_T_infer_ask x1)]) [] []) (infer_ask_axis fu x1) e174 := by
 unfold infer_ask_axis e174
 have da := d174_at
 conv => arg 1; simp only [bodyOf, Tryz.f174]
 have z0 := d174_at
 exact Wk
theorem ok174 (fu : Nat) (x1 : T_infer_ask) (r) (h : infer_ask_axis fu x1 = some r) : PureOK Tryz.prog 174 [.agg (c_T_infer_ask x1)] (e174 r) := pureT mixed [(C154 fu).ct, (C60 fu).ct] (ids := [154, 60]) rfl (by decide) i174 (C := noC) (ci := fun cp => noI) (fun cp ok => noI_ok) (fun cp H => w174 cp fu x1 (u154 H.1) (u60 H.2.1)) h
def d105 : List (Nat × List Nat) := [(0, [0, 2, 3]), (0, [12]), (0, [9, 10]), (0, [6]), (0, [11]), (0, []), (0, [14]), (0, [1, 7, 8]), (0, [15, 16, 17, 18, 19, 20, 21]), (0, []), (0, [23, 24, 25]), (0, []), (0, [26, 27, 28, 29]), (0, []), (0, [30, 31, 32, 33]), (0, []), (0, [5, 34, 35, 36, 37]), (0, []), (0, [39]), (0, []), (0, [40, 41]), (0, []), (0, [43, 44, 45]), (0, []), (0, []), (0, []), (0, [46, 47, 48, 49]), (0, []), (0, [51, 52]), (0, []), (7, [53, 54, 55, 56, 57, 58]), (0, []), (0, [60, 61, 62]), (0, []), (0, [63, 64, 65, 66]), (0, []), (0, [67, 68, 69, 70]), (0, []), (0, [71]), (0, []), (0, [73, 74, 75]), (0, []), (0, []), (0, []), (0, [76, 77, 78, 79]), (0, []), (0, [81, 82]), (0, []), (0, [83, 84, 85, 86, 87, 88, 89, 90, 91, 92]), (0, []), (0, [94, 95, 96]), (0, []), (0, [4, 97, 98, 99, 100])]
def d105_at := by have h := tabL d105.eq_1; simp only [AllAt, Nat.zero_add, Nat.reduceAdd] at h; exact h
theorem i105 : finfo Tryz.prog 105 d105 = some ⟨bodyOf Tryz.f105, [.tmp 2, .tmp 3], [68, 32]⟩ := finfo_at Tryz.func105 rfl (by kernel_rfl) (by kernel_rfl)
def e105 : ((List (List Int)) × Int) → AV := fun r => .tuple [.arr r.1.length (lm (avl (ik .i64)) r.1), .v (.int .i64 r.2)]
structure K98 (fu : Nat) (cp : CallP) : Prop where
 ap : ∀ {r}, infer_misfit fu = some r → cp 98 [] = some (.tuple [.arr r.1.length (lm (avl (ik .i64)) r.1), .v (.int .i64 r.2)])
noncomputable def C98 (fu : Nat) : Cm Tryz.prog Unit ((List (List Int)) × Int) := ⟨98, fun t => [], fun t => infer_misfit fu , e98, fun t b h => ok98 fu   b h, Zi⟩
theorem u98 {fu : Nat} {cp : CallP} (H : Hit cp (C98 fu).ct) : K98 fu cp := ⟨fun { r} h => (C98 fu).at H () r h⟩
structure K84 (fu : Nat) (cp : CallP) : Prop where
 ap : ∀ {a0 : List Int} {a1 : Int} {r}, slices_Contains_int fu a0 a1 = some r → cp 84 [.arr a0.length (lm (ik .i64) a0), .v (.int .i64 a1)] = some (.v (.bool r))
noncomputable def C84 (fu : Nat) : Cm Tryz.prog ((List Int) × Int) Bool := ⟨84, fun t => [.arr t.1.length (lm (ik .i64) t.1), .v (.int .i64 t.2)], fun t => slices_Contains_int fu t.1 t.2, e84, fun t b h => ok84 fu t.1 t.2  b h, Zi⟩
theorem u84 {fu : Nat} {cp : CallP} (H : Hit cp (C84 fu).ct) : K84 fu cp := ⟨fun {a0 a1 r} h => (C84 fu).at H (a0, a1) r h⟩
structure K183 (fu : Nat) (cp : CallP) : Prop where
 ap : ∀ {a0 : List Int} {a1 : Int} {r}, slices_Repeat_int fu a0 a1 = some r → cp 183 [.arr a0.length (lm (ik .i64) a0), .v (.int .i64 a1)] = some (.fresh 1 r.length (lm (ik .i64) r))
noncomputable def C183 (fu : Nat) : Cm Tryz.prog ((List Int) × Int) (List Int) := ⟨183, fun t => [.arr t.1.length (lm (ik .i64) t.1), .v (.int .i64 t.2)], fun t => slices_Repeat_int fu t.1 t.2, e183, fun t b h => ok183 fu t.1 t.2  b h, Zi⟩
theorem u183 {fu : Nat} {cp : CallP} (H : Hit cp (C183 fu).ct) : K183 fu cp := ⟨fun {a0 a1 r} h => (C183 fu).at H (a0, a1) r h⟩
structure K106 (fu : Nat) (cp : CallP) : Prop where
 ap : ∀ {a0 : List Int} {r}, infer_one fu a0 = some r → cp 106 [.arr a0.length (lm (ik .i64) a0)] = some (.tuple [.arr r.1.length (lm (avl (ik .i64)) r.1), .v (.int .i64 r.2)])
noncomputable def C106 (fu : Nat) : Cm Tryz.prog (List Int) ((List (List Int)) × Int) := ⟨106, fun t => [.arr t.length (lm (ik .i64) t)], fun t => infer_one fu t, e106, fun t b h => ok106 fu t  b h, Zi⟩
theorem u106 {fu : Nat} {cp : CallP} (H : Hit cp (C106 fu).ct) : K106 fu cp := ⟨fun {a0 r} h => (C106 fu).at H a0 r h⟩
structure K174 (fu : Nat) (cp : CallP) : Prop where
 ap : ∀ {a0 : T_infer_ask} {r}, infer_ask_axis fu a0 = some r → cp 174 [.agg (c_T_infer_ask a0)] = some (.v (.int .i64 r))
noncomputable def C174 (fu : Nat) : Cm Tryz.prog T_infer_ask Int := ⟨174, fun t => [.agg (c_T_infer_ask t)], fun t => infer_ask_axis fu t, e174, fun t b h => ok174 fu t  b h, Zi⟩
theorem u174 {fu : Nat} {cp : CallP} (H : Hit cp (C174 fu).ct) : K174 fu cp := ⟨fun {a0 r} h => (C174 fu).at H a0 r h⟩
def infer_ask_normal.j1 : LJ 1 12 Unit Unit := ⟨fun r t e => [(1, er e 1), (4, er e 4), (12, er e 12)], fun r t h => [((0, 1, 0), hr h (0, 1, 0))]⟩
def infer_ask_normal.m1 : LJ 1 44 Unit Int := ⟨fun r s e => [(1, er e 1), (4, er e 4), (7, er e 7), (8, .v (.int .i64 s))], fun r s h => [((0, 1, 0), hr h (0, 1, 0))]⟩
def infer_ask_normal.j3 : LJ 3 52 Unit Unit := ⟨fun r t e => [(4, er e 4)], fun r t h => [((0, 1, 0), hr h (0, 1, 0))]⟩
def infer_ask_normal.j2 : LJ 2 36 Unit Unit := ⟨fun r t e => [(1, er e 1), (4, er e 4)], fun r t h => [((0, 1, 0), hr h (0, 1, 0))]⟩
set_option maxHeartbeats 20000000 in
open infer_ask_normal in
theorem w105 (cp : CallP) (fu : Nat) (x1 : T_infer_ask) (H1 : K95 fu cp) (H2 : K98 fu cp) (H3 : K84 fu cp) (H4 : K183 fu cp) (H5 : K106 fu cp) (H6 : K174 fu cp) (H7 : K91 fu cp) (H8 : K168 fu cp) : J (go Tryz.prog noC cp noI 0 [] d105 fu (fin Tryz.prog [.tmp 2, .tmp 3] [68, 32]) (bodyOf Tryz.f105) (initE 0 [.agg (c_T_infer_ask x1)]) [] []) (infer_ask_normal fu x1) e105 := by
 unfold infer_ask_normal e105
 have da := d105_at
 conv => arg 1; simp only [bodyOf, Tryz.f105]
 have z0 := d105_at
 have z1 := RC
 have z2 := fun h x y => @cpB_at Tryz.prog h _ _ 27 x y tv27
 exact Wk
theorem ok105 (fu : Nat) (x1 : T_infer_ask) (r) (h : infer_ask_normal fu x1 = some r) : PureOK Tryz.prog 105 [.agg (c_T_infer_ask x1)] (e105 r) := pureT mixed [(C95 fu).ct, (C98 fu).ct, (C84 fu).ct, (C183 fu).ct, (C106 fu).ct, (C174 fu).ct, (C91 fu).ct, (C168 fu).ct] (ids := [95, 98, 84, 183, 106, 174, 91, 168]) rfl (by decide) i105 (C := noC) (ci := fun cp => noI) (fun cp ok => noI_ok) (fun cp H => w105 cp fu x1 (u95 H.1) (u98 H.2.1) (u84 H.2.2.1) (u183 H.2.2.2.1) (u106 H.2.2.2.2.1) (u174 H.2.2.2.2.2.1) (u91 H.2.2.2.2.2.2.1) (u168 H.2.2.2.2.2.2.2.1)) h
open Aw (d202)
def d202_at := by have h := tabL Aw.d202.eq_1; simp only [AllAt, Nat.zero_add, Nat.reduceAdd] at h; exact h
theorem i202 : finfo Tryz.prog 202 d202 = some ⟨bodyOf Tryz.f202, [.tmp 6], [3]⟩ := finfo_at Tryz.func202 rfl (by kernel_rfl) (by kernel_rfl)
def e202 : Int → AV := fun r => .v (.int .i64 r)
set_option maxHeartbeats 20000000 in
theorem w202 (cp : CallP) (fu : Nat) (x1 : List Int) (x2 : Int) (x3 : Int)  : J (go Tryz.prog noC cp noI 0 [] d202 fu (fin Tryz.prog [.tmp 6] [3]) (bodyOf Tryz.f202) (initE 0 [.arr x1.length (lm (ik .i64) x1), .v (.int .i64 x2), .v (.int .i64 x3)]) [] []) (infer_number fu x1 x2 x3) e202 := by
 unfold infer_number e202
 have da := d202_at
 conv => arg 1; simp only [bodyOf, Tryz.f202]
 have z0 := d202_at
 exact Wk
theorem ok202 (fu : Nat) (x1 : List Int) (x2 : Int) (x3 : Int) (r) (h : infer_number fu x1 x2 x3 = some r) : PureOK Tryz.prog 202 [.arr x1.length (lm (ik .i64) x1), .v (.int .i64 x2), .v (.int .i64 x3)] (e202 r) := pureT mixed [] (ids := []) rfl (by decide) i202 (C := noC) (ci := fun cp => noI) (fun cp ok => noI_ok) (fun cp H => w202 cp fu x1 x2 x3 ) h
open Aw (d206)
def d206_at := by have h := tabL Aw.d206.eq_1; simp only [AllAt, Nat.zero_add, Nat.reduceAdd] at h; exact h
theorem i206 : finfo Tryz.prog 206 d206 = some ⟨bodyOf Tryz.f206, [.tmp 3], [4]⟩ := finfo_at Tryz.func206 rfl (by kernel_rfl) (by kernel_rfl)
def e206 : Bool → AV := fun r => .v (.bool r)
set_option maxHeartbeats 20000000 in
theorem w206 (cp : CallP) (fu : Nat) (x1 : Int) (x2 : Int)  : J (go Tryz.prog noC cp noI 0 [] d206 fu (fin Tryz.prog [.tmp 3] [4]) (bodyOf Tryz.f206) (initE 0 [.v (.int .i64 x1), .ref [.v (.int .i64 x2)] 0]) [] []) (infer_ranged_1 fu x1 x2) e206 := by
 unfold infer_ranged_1 e206
 have da := d206_at
 conv => arg 1; simp only [bodyOf, Tryz.f206]
 have z0 := d206_at
 exact Wk
theorem ok206 (fu : Nat) (x1 : Int) (x2 : Int) (r) (h : infer_ranged_1 fu x1 x2 = some r) : PureOK Tryz.prog 206 [.v (.int .i64 x1), .ref [.v (.int .i64 x2)] 0] (e206 r) := pureT mixed [] (ids := []) rfl (by decide) i206 (C := noC) (ci := fun cp => noI) (fun cp ok => noI_ok) (fun cp H => w206 cp fu x1 x2 ) h
open Aw (d192)
def d192_at := by have h := tabL Aw.d192.eq_1; simp only [AllAt, Nat.zero_add, Nat.reduceAdd] at h; exact h
theorem i192 : finfo Tryz.prog 192 d192 = some ⟨bodyOf Tryz.f192, [.tmp 4], [4]⟩ := finfo_at Tryz.func192 rfl (by kernel_rfl) (by kernel_rfl)
def e192 : Bool → AV := fun r => .v (.bool r)
structure K81 (fu : Nat) (cp : CallP) : Prop where
 ap : ∀ {a0 : List Int} {c1 : Int} {r}, slices_ContainsFunc_int fu a0 (fun y0 => infer_ranged_1 fu y0 c1) = some r → cp 81 [.arr a0.length (lm (ik .i64) a0), .fn 206 [] [.ref [.v (.int .i64 c1)] 0]] = some (.v (.bool r))
noncomputable def C81 (fu : Nat) : Cm Tryz.prog ((List Int) × Int) Bool := ⟨81, fun t => [.arr t.1.length (lm (ik .i64) t.1), .fn 206 [] [.ref [.v (.int .i64 t.2)] 0]], fun t => slices_ContainsFunc_int fu t.1 (fun y0 => infer_ranged_1 fu y0 t.2), e81, fun t b h => ok81 fu t.1 (fun y0 => infer_ranged_1 fu y0 t.2) 206 [.ref [.v (.int .i64 t.2)] 0] (Capt.ref Capt.nil) (fun y0 r h => ok206 fu y0 t.2 r h) b h, Zi⟩
theorem u81 {fu : Nat} {cp : CallP} (H : Hit cp (C81 fu).ct) : K81 fu cp := ⟨fun {a0 c1 r} h => (C81 fu).at H (a0, c1) r h⟩
set_option maxHeartbeats 20000000 in
theorem w192 (cp : CallP) (fu : Nat) (x1 : Int) (x2 : List Int) (H1 : K81 fu cp) : J (go Tryz.prog noC cp noI 0 [] d192 fu (fin Tryz.prog [.tmp 4] [4]) (bodyOf Tryz.f192) (initE 0 [.v (.int .i64 x1), .arr x2.length (lm (ik .i64) x2)]) [] []) (infer_ranged fu x1 x2) e192 := by
 unfold infer_ranged e192
 have da := d192_at
 conv => arg 1; simp only [bodyOf, Tryz.f192]
 have z0 := d192_at
 exact Wk
theorem ok192 (fu : Nat) (x1 : Int) (x2 : List Int) (r) (h : infer_ranged fu x1 x2 = some r) : PureOK Tryz.prog 192 [.v (.int .i64 x1), .arr x2.length (lm (ik .i64) x2)] (e192 r) := pureT mixed [(C81 fu).ct] (ids := [81]) rfl (by decide) i192 (C := noC) (ci := fun cp => noI) (fun cp ok => noI_ok) (fun cp H => w192 cp fu x1 x2 (u81 H.1)) h
open Aw (d122)
def d122_at := by have h := tabL Aw.d122.eq_1; simp only [AllAt, Nat.zero_add, Nat.reduceAdd] at h; exact h
theorem i122 : finfo Tryz.prog 122 d122 = some ⟨bodyOf Tryz.f122, [.tmp 16, .tmp 17, .tmp 18], [3, 3, 32]⟩ := finfo_at Tryz.func122 rfl (by kernel_rfl) (by kernel_rfl)
def e122 : (Int × Int × Int) → AV := fun r => .tuple [.v (.int .i64 r.1), .v (.int .i64 r.2.1), .v (.int .i64 r.2.2)]
structure K192 (fu : Nat) (cp : CallP) : Prop where
 ap : ∀ {a0 : Int} {a1 : List Int} {r}, infer_ranged fu a0 a1 = some r → cp 192 [.v (.int .i64 a0), .arr a1.length (lm (ik .i64) a1)] = some (.v (.bool r))
noncomputable def C192 (fu : Nat) : Cm Tryz.prog (Int × (List Int)) Bool := ⟨192, fun t => [.v (.int .i64 t.1), .arr t.2.length (lm (ik .i64) t.2)], fun t => infer_ranged fu t.1 t.2, e192, fun t b h => ok192 fu t.1 t.2  b h, Zi⟩
theorem u192 {fu : Nat} {cp : CallP} (H : Hit cp (C192 fu).ct) : K192 fu cp := ⟨fun {a0 a1 r} h => (C192 fu).at H (a0, a1) r h⟩
def infer_Window.j2 : LJ 2 32 Unit (Int × Int) := ⟨fun r t e => [(0, er e 0), (2, er e 2), (4, .v (.int .i64 t.1)), (5, .v (.int .i64 t.2)), (7, er e 7), (19, er e 19)], fun r t h => []⟩
def infer_Window.j1 : LJ 1 6 Unit Unit := ⟨fun r t e => [(0, er e 0), (1, er e 1), (2, er e 2), (3, er e 3), (4, er e 4), (5, er e 5), (6, er e 6), (7, er e 7)], fun r t h => []⟩
set_option maxHeartbeats 20000000 in
open infer_Window in
theorem w122 (cp : CallP) (fu : Nat) (x1 : Int) (x2 : Int) (x3 : Int) (x4 : Int) (x5 : Int) (x6 : Int) (x7 : Int) (x8 : Bool) (H1 : K192 fu cp) : J (go Tryz.prog noC cp noI 0 [] d122 fu (fin Tryz.prog [.tmp 16, .tmp 17, .tmp 18] [3, 3, 32]) (bodyOf Tryz.f122) (initE 0 [.v (.int .i64 x1), .v (.int .i64 x2), .v (.int .i64 x3), .v (.int .i64 x4), .v (.int .i64 x5), .v (.int .i64 x6), .v (.int .i64 x7), .v (.bool x8)]) [] []) (infer_Window fu x1 x2 x3 x4 x5 x6 x7 x8) e122 := by
 unfold infer_Window e122
 have da := d122_at
 conv => arg 1; simp only [bodyOf, Tryz.f122]
 have z0 := d122_at
 exact Wk
theorem ok122 (fu : Nat) (x1 : Int) (x2 : Int) (x3 : Int) (x4 : Int) (x5 : Int) (x6 : Int) (x7 : Int) (x8 : Bool) (r) (h : infer_Window fu x1 x2 x3 x4 x5 x6 x7 x8 = some r) : PureOK Tryz.prog 122 [.v (.int .i64 x1), .v (.int .i64 x2), .v (.int .i64 x3), .v (.int .i64 x4), .v (.int .i64 x5), .v (.int .i64 x6), .v (.int .i64 x7), .v (.bool x8)] (e122 r) := pureT mixed [(C192 fu).ct] (ids := [192]) rfl (by decide) i122 (C := noC) (ci := fun cp => noI) (fun cp ok => noI_ok) (fun cp H => w122 cp fu x1 x2 x3 x4 x5 x6 x7 x8 (u192 H.1)) h
open Aw (d182)
def d182_at := by have h := tabL Aw.d182.eq_1; simp only [AllAt, Nat.zero_add, Nat.reduceAdd] at h; exact h
theorem i182 : finfo Tryz.prog 182 d182 = some ⟨bodyOf Tryz.f182, [.tmp 4, .tmp 5], [27, 4]⟩ := finfo_at Tryz.func182 rfl (by kernel_rfl) (by kernel_rfl)
def e182 : ((List Int) × Bool) → AV := fun r => .tuple [.fresh 1 r.1.length (lm (ik .i64) r.1), .v (.bool r.2)]
structure K202 (fu : Nat) (cp : CallP) : Prop where
 ap : ∀ {a0 : List Int} {a1 : Int} {a2 : Int} {r}, infer_number fu a0 a1 a2 = some r → cp 202 [.arr a0.length (lm (ik .i64) a0), .v (.int .i64 a1), .v (.int .i64 a2)] = some (.v (.int .i64 r))
noncomputable def C202 (fu : Nat) : Cm Tryz.prog ((List Int) × Int × Int) Int := ⟨202, fun t => [.arr t.1.length (lm (ik .i64) t.1), .v (.int .i64 t.2.1), .v (.int .i64 t.2.2)], fun t => infer_number fu t.1 t.2.1 t.2.2, e202, fun t b h => ok202 fu t.1 t.2.1 t.2.2  b h, Zi⟩
theorem u202 {fu : Nat} {cp : CallP} (H : Hit cp (C202 fu).ct) : K202 fu cp := ⟨fun {a0 a1 a2 r} h => (C202 fu).at H (a0, a1, a2) r h⟩
structure K122 (fu : Nat) (cp : CallP) : Prop where
 ap : ∀ {a0 : Int} {a1 : Int} {a2 : Int} {a3 : Int} {a4 : Int} {a5 : Int} {a6 : Int} {a7 : Bool} {r}, infer_Window fu a0 a1 a2 a3 a4 a5 a6 a7 = some r → cp 122 [.v (.int .i64 a0), .v (.int .i64 a1), .v (.int .i64 a2), .v (.int .i64 a3), .v (.int .i64 a4), .v (.int .i64 a5), .v (.int .i64 a6), .v (.bool a7)] = some (.tuple [.v (.int .i64 r.1), .v (.int .i64 r.2.1), .v (.int .i64 r.2.2)])
noncomputable def C122 (fu : Nat) : Cm Tryz.prog (Int × Int × Int × Int × Int × Int × Int × Bool) (Int × Int × Int) := ⟨122, fun t => [.v (.int .i64 t.1), .v (.int .i64 t.2.1), .v (.int .i64 t.2.2.1), .v (.int .i64 t.2.2.2.1), .v (.int .i64 t.2.2.2.2.1), .v (.int .i64 t.2.2.2.2.2.1), .v (.int .i64 t.2.2.2.2.2.2.1), .v (.bool t.2.2.2.2.2.2.2)], fun t => infer_Window fu t.1 t.2.1 t.2.2.1 t.2.2.2.1 t.2.2.2.2.1 t.2.2.2.2.2.1 t.2.2.2.2.2.2.1 t.2.2.2.2.2.2.2, e122, fun t b h => ok122 fu t.1 t.2.1 t.2.2.1 t.2.2.2.1 t.2.2.2.2.1 t.2.2.2.2.2.1 t.2.2.2.2.2.2.1 t.2.2.2.2.2.2.2  b h, Zi⟩
theorem u122 {fu : Nat} {cp : CallP} (H : Hit cp (C122 fu).ct) : K122 fu cp := ⟨fun {a0 a1 a2 a3 a4 a5 a6 a7 r} h => (C122 fu).at H (a0, a1, a2, a3, a4, a5, a6, a7) r h⟩
def infer_ask_windows.m1 : LJ 1 8 Unit ((List Int) × Int) := ⟨fun r s e => [(1, er e 1), (2, er e 2), (6, .own (0, 6, 77) 0 s.1.length s.1.length), (7, er e 7), (14, .v (.int .i64 s.2))], fun r s h => [((0, 2, 0), hr h (0, 2, 0)), ((0, 6, 77), .sl true true 1 s.1.length (lm (ik .i64) s.1)), ((0, 7, 0), hr h (0, 7, 0))]⟩
def infer_ask_windows.m2 : LJ 2 8 Unit ((List Int) × Int) := ⟨fun r s e => [(1, er e 1), (2, er e 2), (6, .own (0, 6, 77) 0 s.1.length s.1.length), (7, er e 7), (14, .v (.int .i64 s.2))], fun r s h => [((0, 2, 0), hr h (0, 2, 0)), ((0, 6, 77), .sl true true 1 s.1.length (lm (ik .i64) s.1)), ((0, 7, 0), hr h (0, 7, 0))]⟩
set_option maxHeartbeats 20000000 in
open infer_ask_windows in
theorem w182 (cp : CallP) (fu : Nat) (x1 : T_infer_ask) (x2 : List Int) (H1 : K95 fu cp) (H2 : K202 fu cp) (H3 : K122 fu cp) : J (go Tryz.prog noC cp noI 0 [] d182 fu (fin Tryz.prog [.tmp 4, .tmp 5] [27, 4]) (bodyOf Tryz.f182) (initE 0 [.agg (c_T_infer_ask x1), .arr x2.length (lm (ik .i64) x2)]) [] []) (infer_ask_windows fu x1 x2) e182 := by
 unfold infer_ask_windows e182
 have da := d182_at
 conv => arg 1; simp only [bodyOf, Tryz.f182]
 have z0 := d182_at
 exact Wk
theorem ok182 (fu : Nat) (x1 : T_infer_ask) (x2 : List Int) (r) (h : infer_ask_windows fu x1 x2 = some r) : PureOK Tryz.prog 182 [.agg (c_T_infer_ask x1), .arr x2.length (lm (ik .i64) x2)] (e182 r) := pureT mixed [(C95 fu).ct, (C202 fu).ct, (C122 fu).ct] (ids := [95, 202, 122]) rfl (by decide) i182 (C := noC) (ci := fun cp => noI) (fun cp ok => noI_ok) (fun cp H => w182 cp fu x1 x2 (u95 H.1) (u202 H.2.1) (u122 H.2.2.1)) h
open Aw (d104)
def d104_at := by have h := tabL Aw.d104.eq_1; simp only [AllAt, Nat.zero_add, Nat.reduceAdd] at h; exact h
theorem i104 : finfo Tryz.prog 104 d104 = some ⟨bodyOf Tryz.f104, [.tmp 2, .tmp 3], [68, 32]⟩ := finfo_at Tryz.func104 rfl (by kernel_rfl) (by kernel_rfl)
def e104 : ((List (List Int)) × Int) → AV := fun r => .tuple [.arr r.1.length (lm (avl (ik .i64)) r.1), .v (.int .i64 r.2)]
structure K182 (fu : Nat) (cp : CallP) : Prop where
 ap : ∀ {a0 : T_infer_ask} {a1 : List Int} {r}, infer_ask_windows fu a0 a1 = some r → cp 182 [.agg (c_T_infer_ask a0), .arr a1.length (lm (ik .i64) a1)] = some (.tuple [.fresh 1 r.1.length (lm (ik .i64) r.1), .v (.bool r.2)])
noncomputable def C182 (fu : Nat) : Cm Tryz.prog (T_infer_ask × (List Int)) ((List Int) × Bool) := ⟨182, fun t => [.agg (c_T_infer_ask t.1), .arr t.2.length (lm (ik .i64) t.2)], fun t => infer_ask_windows fu t.1 t.2, e182, fun t b h => ok182 fu t.1 t.2  b h, Zi⟩
theorem u182 {fu : Nat} {cp : CallP} (H : Hit cp (C182 fu).ct) : K182 fu cp := ⟨fun {a0 a1 r} h => (C182 fu).at H (a0, a1) r h⟩
set_option maxHeartbeats 20000000 in
theorem w104 (cp : CallP) (fu : Nat) (x1 : T_infer_ask) (H1 : K95 fu cp) (H2 : K182 fu cp) (H3 : K106 fu cp) (H4 : K98 fu cp) : J (go Tryz.prog noCs cp noI 0 [] d104 fu (finS Tryz.prog [.tmp 2, .tmp 3] [68, 32]) (bodyOf Tryz.f104) (initE 0 [.agg (c_T_infer_ask x1)]) [] []) (infer_ask_pool fu x1) e104 := by
 unfold infer_ask_pool e104
 have da := d104_at
 conv => arg 1; simp only [bodyOf, Tryz.f104]
 have z0 := d104_at
 have z1 := SE
 have z2 := @aop_callC
 have z3 := @aq_callC
 exact Wk
theorem ok104 (fu : Nat) (x1 : T_infer_ask) (r) (h : infer_ask_pool fu x1 = some r) : PureOK Tryz.prog 104 [.agg (c_T_infer_ask x1)] (e104 r) := pureST mixed [(C95 fu).ct, (C182 fu).ct, (C106 fu).ct, (C98 fu).ct] (ids := [95, 182, 106, 98]) rfl (by decide) i104 (C := noCs) (ci := fun cp => noI) (fun cp ok => noI_ok) (fun cp H => w104 cp fu x1 (u95 H.1) (u182 H.2.1) (u106 H.2.2.1) (u98 H.2.2.2.1)) h
open Aw (d44)
def d44_at := by have h := tabL Aw.d44.eq_1; simp only [AllAt, Nat.zero_add, Nat.reduceAdd] at h; exact h
theorem i44 : finfo Tryz.prog 44 d44 = some ⟨bodyOf Tryz.f44, [.tmp 2, .tmp 3], [68, 32]⟩ := finfo_at Tryz.func44 rfl (by kernel_rfl) (by kernel_rfl)
def e44 : ((List (List Int)) × Int) → AV := fun r => .tuple [.arr r.1.length (lm (avl (ik .i64)) r.1), .v (.int .i64 r.2)]
structure K105 (fu : Nat) (cp : CallP) : Prop where
 ap : ∀ {a0 : T_infer_ask} {r}, infer_ask_normal fu a0 = some r → cp 105 [.agg (c_T_infer_ask a0)] = some (.tuple [.arr r.1.length (lm (avl (ik .i64)) r.1), .v (.int .i64 r.2)])
noncomputable def C105 (fu : Nat) : Cm Tryz.prog T_infer_ask ((List (List Int)) × Int) := ⟨105, fun t => [.agg (c_T_infer_ask t)], fun t => infer_ask_normal fu t, e105, fun t b h => ok105 fu t  b h, Zi⟩
theorem u105 {fu : Nat} {cp : CallP} (H : Hit cp (C105 fu).ct) : K105 fu cp := ⟨fun {a0 r} h => (C105 fu).at H a0 r h⟩
structure K104 (fu : Nat) (cp : CallP) : Prop where
 ap : ∀ {a0 : T_infer_ask} {r}, infer_ask_pool fu a0 = some r → cp 104 [.agg (c_T_infer_ask a0)] = some (.tuple [.arr r.1.length (lm (avl (ik .i64)) r.1), .v (.int .i64 r.2)])
noncomputable def C104 (fu : Nat) : Cm Tryz.prog T_infer_ask ((List (List Int)) × Int) := ⟨104, fun t => [.agg (c_T_infer_ask t)], fun t => infer_ask_pool fu t, e104, fun t b h => ok104 fu t  b h, Zi⟩
theorem u104 {fu : Nat} {cp : CallP} (H : Hit cp (C104 fu).ct) : K104 fu cp := ⟨fun {a0 r} h => (C104 fu).at H a0 r h⟩
def infer_ask_shapes.j3 : LJ 3 222 Unit Unit := ⟨fun r t e => [(1, er e 1), (4, er e 4), (9, er e 9), (10, er e 10), (54, er e 54), (78, .v (.bool (decide ((78 : Int) = 71))))], fun r t h => [((0, 1, 0), hr h (0, 1, 0))]⟩
def infer_ask_shapes.j2 : LJ 2 190 Unit Unit := ⟨fun r t e => [(1, er e 1), (4, er e 4), (9, er e 9), (10, er e 10), (54, .v (.bool (decide ((78 : Int) = 64))))], fun r t h => [((0, 1, 0), hr h (0, 1, 0))]⟩
def infer_ask_shapes.j1 : LJ 1 82 Unit Unit := ⟨fun r t e => [(1, er e 1), (4, er e 4), (9, er e 9), (10, .v (.bool (decide ((78 : Int) = 42))))], fun r t h => [((0, 1, 0), hr h (0, 1, 0))]⟩
def infer_ask_shapes.j6 : LJ 6 222 Unit Unit := ⟨fun r t e => [(1, er e 1), (4, er e 4), (9, er e 9), (10, er e 10), (54, er e 54), (78, .v (.bool (decide ((77 : Int) = 71))))], fun r t h => [((0, 1, 0), hr h (0, 1, 0))]⟩
def infer_ask_shapes.j5 : LJ 5 190 Unit Unit := ⟨fun r t e => [(1, er e 1), (4, er e 4), (9, er e 9), (10, er e 10), (54, .v (.bool (decide ((77 : Int) = 64))))], fun r t h => [((0, 1, 0), hr h (0, 1, 0))]⟩
def infer_ask_shapes.j4 : LJ 4 82 Unit Unit := ⟨fun r t e => [(1, er e 1), (4, er e 4), (9, er e 9), (10, .v (.bool (decide ((77 : Int) = 42))))], fun r t h => [((0, 1, 0), hr h (0, 1, 0))]⟩
set_option maxHeartbeats 20000000 in
open infer_ask_shapes in
theorem w44 (cp : CallP) (fu : Nat) (x1 : T_infer_ask) (H1 : K95 fu cp) (H2 : K105 fu cp) (H3 : K104 fu cp) : J (go Tryz.prog noC cp noI 0 [] d44 fu (finS Tryz.prog [.tmp 2, .tmp 3] [68, 32]) (bodyOf Tryz.f44) (initE 0 [.agg (c_T_infer_ask x1)]) [] []) (infer_ask_shapes fu x1) e44 := by
 unfold infer_ask_shapes e44
 have da := d44_at
 conv => arg 1; simp only [bodyOf, Tryz.f44]
 have z0 := d44_at
 have z1 := SE
 exact Wk
theorem ok44 (fu : Nat) (x1 : T_infer_ask) (r) (h : infer_ask_shapes fu x1 = some r) : PureOK Tryz.prog 44 [.agg (c_T_infer_ask x1)] (e44 r) := pureST mixed [(C95 fu).ct, (C105 fu).ct, (C104 fu).ct] (ids := [95, 105, 104]) rfl (by decide) i44 (C := noC) (ci := fun cp => noI) (fun cp ok => noI_ok) (fun cp H => w44 cp fu x1 (u95 H.1) (u105 H.2.1) (u104 H.2.2.1)) h
open Aw (d45)
def d45_at := by have h := tabL Aw.d45.eq_1; simp only [AllAt, Nat.zero_add, Nat.reduceAdd] at h; exact h
theorem i45 : finfo Tryz.prog 45 d45 = some ⟨bodyOf Tryz.f45, [.tmp 2], [3]⟩ := finfo_at Tryz.func45 rfl (by kernel_rfl) (by kernel_rfl)
def e45 : Int → AV := fun r => .v (.int .i64 r)
def infer_ask_out.j3 : LJ 3 74 Unit Unit := ⟨fun r t e => [(1, er e 1), (4, er e 4), (5, er e 5), (17, .v (.bool (decide ((78 : Int) = 71))))], fun r t h => [((0, 1, 0), hr h (0, 1, 0))]⟩
def infer_ask_out.j2 : LJ 2 54 Unit Unit := ⟨fun r t e => [(1, er e 1), (4, er e 4), (5, .v (.bool (decide ((78 : Int) = 41))))], fun r t h => [((0, 1, 0), hr h (0, 1, 0))]⟩
def infer_ask_out.j1 : LJ 1 50 Unit Unit := ⟨fun r t e => [(1, er e 1)], fun r t h => [((0, 1, 0), hr h (0, 1, 0))]⟩
def infer_ask_out.j6 : LJ 6 74 Unit Unit := ⟨fun r t e => [(1, er e 1), (4, er e 4), (5, er e 5), (17, .v (.bool (decide ((77 : Int) = 71))))], fun r t h => [((0, 1, 0), hr h (0, 1, 0))]⟩
def infer_ask_out.j5 : LJ 5 54 Unit Unit := ⟨fun r t e => [(1, er e 1), (4, er e 4), (5, .v (.bool (decide ((77 : Int) = 41))))], fun r t h => [((0, 1, 0), hr h (0, 1, 0))]⟩
def infer_ask_out.j4 : LJ 4 50 Unit Unit := ⟨fun r t e => [(1, er e 1)], fun r t h => [((0, 1, 0), hr h (0, 1, 0))]⟩
set_option maxHeartbeats 20000000 in
open infer_ask_out in
theorem w45 (cp : CallP) (fu : Nat) (x1 : T_infer_ask) (H1 : K107 fu cp) : J (go Tryz.prog noC cp noI 0 [] d45 fu (fin Tryz.prog [.tmp 2] [3]) (bodyOf Tryz.f45) (initE 0 [.agg (c_T_infer_ask x1)]) [] []) (infer_ask_out fu x1) e45 := by
 unfold infer_ask_out e45
 have da := d45_at
 conv => arg 1; simp only [bodyOf, Tryz.f45]
 have z0 := d45_at
 exact Wk
theorem ok45 (fu : Nat) (x1 : T_infer_ask) (r) (h : infer_ask_out fu x1 = some r) : PureOK Tryz.prog 45 [.agg (c_T_infer_ask x1)] (e45 r) := pureT mixed [(C107 fu).ct] (ids := [107]) rfl (by decide) i45 (C := noC) (ci := fun cp => noI) (fun cp ok => noI_ok) (fun cp H => w45 cp fu x1 (u107 H.1)) h
open Aw (d25)
def d25_at := by have h := tabL Aw.d25.eq_1; simp only [AllAt, Nat.zero_add, Nat.reduceAdd] at h; exact h
theorem i25 : finfo Tryz.prog 25 d25 = some ⟨bodyOf Tryz.f25, [.tmp 8, .tmp 9], [54, 32]⟩ := finfo_at Tryz.func25 rfl (by kernel_rfl) (by kernel_rfl)
def e25 : ((List T_Val) × Int) → AV := fun r => .tuple [.arr r.1.length (fm c_T_Val r.1), .v (.int .i64 r.2)]
structure K42 (fu : Nat) (cp : CallP) : Prop where
 ap : ∀ {a0 : T_infer_ask} {r}, infer_ask_complete fu a0 = some r → cp 42 [.agg (c_T_infer_ask a0)] = some (.v (.bool r))
noncomputable def C42 (fu : Nat) : Cm Tryz.prog T_infer_ask Bool := ⟨42, fun t => [.agg (c_T_infer_ask t)], fun t => infer_ask_complete fu t, e42, fun t b h => ok42 fu t  b h, Zi⟩
theorem u42 {fu : Nat} {cp : CallP} (H : Hit cp (C42 fu).ct) : K42 fu cp := ⟨fun {a0 r} h => (C42 fu).at H a0 r h⟩
structure K43 (fu : Nat) (cp : CallP) : Prop where
 ap : ∀ {a0 : T_infer_ask} {r}, infer_ask_wrong fu a0 = some r → cp 43 [.agg (c_T_infer_ask a0)] = some (.v (.int .i64 r))
noncomputable def C43 (fu : Nat) : Cm Tryz.prog T_infer_ask Int := ⟨43, fun t => [.agg (c_T_infer_ask t)], fun t => infer_ask_wrong fu t, e43, fun t b h => ok43 fu t  b h, Zi⟩
theorem u43 {fu : Nat} {cp : CallP} (H : Hit cp (C43 fu).ct) : K43 fu cp := ⟨fun {a0 r} h => (C43 fu).at H a0 r h⟩
structure K44 (fu : Nat) (cp : CallP) : Prop where
 ap : ∀ {a0 : T_infer_ask} {r}, infer_ask_shapes fu a0 = some r → cp 44 [.agg (c_T_infer_ask a0)] = some (.tuple [.arr r.1.length (lm (avl (ik .i64)) r.1), .v (.int .i64 r.2)])
noncomputable def C44 (fu : Nat) : Cm Tryz.prog T_infer_ask ((List (List Int)) × Int) := ⟨44, fun t => [.agg (c_T_infer_ask t)], fun t => infer_ask_shapes fu t, e44, fun t b h => ok44 fu t  b h, Zi⟩
theorem u44 {fu : Nat} {cp : CallP} (H : Hit cp (C44 fu).ct) : K44 fu cp := ⟨fun {a0 r} h => (C44 fu).at H a0 r h⟩
structure K45 (fu : Nat) (cp : CallP) : Prop where
 ap : ∀ {a0 : T_infer_ask} {r}, infer_ask_out fu a0 = some r → cp 45 [.agg (c_T_infer_ask a0)] = some (.v (.int .i64 r))
noncomputable def C45 (fu : Nat) : Cm Tryz.prog T_infer_ask Int := ⟨45, fun t => [.agg (c_T_infer_ask t)], fun t => infer_ask_out fu t, e45, fun t b h => ok45 fu t  b h, Zi⟩
theorem u45 {fu : Nat} {cp : CallP} (H : Hit cp (C45 fu).ct) : K45 fu cp := ⟨fun {a0 r} h => (C45 fu).at H a0 r h⟩
def infer_Node.m1 : LJ 1 24 Unit ((List T_Val) × Int) := ⟨fun r s e => [(10, er e 10), (14, .own (0, 14, 77) 0 s.1.length s.1.length), (40, er e 40), (41, er e 41), (42, .v (.int .i64 s.2))], fun r s h => [((0, 10, 0), hr h (0, 10, 0)), ((0, 14, 77), .sl true true 8 s.1.length (fm c_T_Val s.1))]⟩
def infer_Node.m2 : LJ 2 24 Unit ((List T_Val) × Int) := ⟨fun r s e => [(10, er e 10), (14, .own (0, 14, 77) 0 s.1.length s.1.length), (40, er e 40), (41, er e 41), (42, .v (.int .i64 s.2))], fun r s h => [((0, 10, 0), hr h (0, 10, 0)), ((0, 14, 77), .sl true true 8 s.1.length (fm c_T_Val s.1))]⟩
set_option maxHeartbeats 20000000 in
open infer_Node in
theorem w25 (cp : CallP) (fu : Nat) (x1 : Int) (x2 : T_Setting) (x3 : List T_Val) (x4 : Int) (H1 : K42 fu cp) (H2 : K43 fu cp) (H3 : K44 fu cp) (H4 : K39 fu cp) (H5 : K45 fu cp) (H6 : K46 fu cp) : J (go Tryz.prog noC cp noI 0 [] d25 fu (finS Tryz.prog [.tmp 8, .tmp 9] [54, 32]) (bodyOf Tryz.f25) (initE 0 [.v (.int .i64 x1), .agg (c_T_Setting x2), .arr x3.length (fm c_T_Val x3), .v (.int .i64 x4)]) [] []) (infer_Node fu x1 x2 x3 x4) e25 := by
 unfold infer_Node e25
 have da := d25_at
 conv => arg 1; simp only [bodyOf, Tryz.f25]
 have z0 := d25_at
 have z1 := SE
 exact Wk
theorem ok25 (fu : Nat) (x1 : Int) (x2 : T_Setting) (x3 : List T_Val) (x4 : Int) (r) (h : infer_Node fu x1 x2 x3 x4 = some r) : PureOK Tryz.prog 25 [.v (.int .i64 x1), .agg (c_T_Setting x2), .arr x3.length (fm c_T_Val x3), .v (.int .i64 x4)] (e25 r) := pureST mixed [(C42 fu).ct, (C43 fu).ct, (C44 fu).ct, (C39 fu).ct, (C45 fu).ct, (C46 fu).ct] (ids := [42, 43, 44, 39, 45, 46]) rfl (by decide) i25 (C := noC) (ci := fun cp => noI) (fun cp ok => noI_ok) (fun cp H => w25 cp fu x1 x2 x3 x4 (u42 H.1) (u43 H.2.1) (u44 H.2.2.1) (u39 H.2.2.2.1) (u45 H.2.2.2.2.1) (u46 H.2.2.2.2.2.1)) h
open Aw (d27)
def d27_at := by have h := tabL Aw.d27.eq_1; simp only [AllAt, Nat.zero_add, Nat.reduceAdd] at h; exact h
theorem i27 : finfo Tryz.prog 27 d27 = some ⟨bodyOf Tryz.f27, [.cell 4 31, .tmp 5], [31, 32]⟩ := finfo_at Tryz.func27 rfl (by kernel_rfl) (by kernel_rfl)
def e27 : (T_Tensor × Int) → AV := fun r => .tuple [.agg [.v (.int .i64 r.1.fType), .fresh 1 r.1.fDims.length (lm (ik .i64) r.1.fDims), .fresh 1 r.1.fF.length (lm (ik .u32) r.1.fF), .fresh 1 r.1.fI.length (lm (ik .i64) r.1.fI), .fresh 1 r.1.fB.length (lm (bk) r.1.fB)], .v (.int .i64 r.2)]
set_option maxHeartbeats 20000000 in
theorem w27 (cp : CallP) (fu : Nat) (x1 : Int) (x2 : List Int) (H1 : K38 fu cp) (H2 : K39 fu cp) (H3 : K46 fu cp) : J (go Tryz.prog noC cp noI 0 [] d27 fu (fin Tryz.prog [.cell 4 31, .tmp 5] [31, 32]) (bodyOf Tryz.f27) (initE 0 [.v (.int .i64 x1), .arr x2.length (lm (ik .i64) x2)]) [] []) (tens_New fu x1 x2) e27 := by
 unfold tens_New e27
 have da := d27_at
 conv => arg 1; simp only [bodyOf, Tryz.f27]
 have z0 := d27_at
 exact Wk
theorem ok27 (fu : Nat) (x1 : Int) (x2 : List Int) (r) (h : tens_New fu x1 x2 = some r) : PureOK Tryz.prog 27 [.v (.int .i64 x1), .arr x2.length (lm (ik .i64) x2)] (e27 r) := pureT mixed [(C38 fu).ct, (C39 fu).ct, (C46 fu).ct] (ids := [38, 39, 46]) rfl (by decide) i27 (C := noC) (ci := fun cp => noI) (fun cp ok => noI_ok) (fun cp H => w27 cp fu x1 x2 (u38 H.1) (u39 H.2.1) (u46 H.2.2.1)) h
open Aw (d155)
def d155_at := by have h := tabL Aw.d155.eq_1; simp only [AllAt, Nat.zero_add, Nat.reduceAdd] at h; exact h
theorem i155 : finfo Tryz.prog 155 d155 = some ⟨bodyOf Tryz.f155, [.tmp 4, .tmp 5], [29, 32]⟩ := finfo_at Tryz.func155 rfl (by kernel_rfl) (by kernel_rfl)
def e155 : ((List Bool) × Int) → AV := fun r => .tuple [.fresh 1 r.1.length (lm (bk) r.1), .v (.int .i64 r.2)]
def shape_Axes.m1 : LJ 1 12 Unit ((List Bool) × Bool × Int) := ⟨fun r s e => [(1, er e 1), (6, .own (0, 19, 0) 0 s.1.length s.1.length), (7, .v (.bool s.2.1)), (20, er e 20), (21, er e 21), (22, .v (.int .i64 s.2.2))], fun r s h => [((0, 19, 0), .sl true true 1 s.1.length (lm (bk) s.1))]⟩
def shape_Axes.j2 : LJ 2 28 Unit ((List Bool) × Bool) := ⟨fun r t e => [(6, .own (0, 19, 0) 0 t.1.length t.1.length), (7, .v (.bool t.2))], fun r t h => [((0, 19, 0), .sl true true 1 t.1.length (lm (bk) t.1))]⟩
def shape_Axes.j1 : LJ 1 6 Unit Unit := ⟨fun r t e => [(0, er e 0), (1, er e 1)], fun r t h => []⟩
set_option maxHeartbeats 20000000 in
open shape_Axes in
theorem w155 (cp : CallP) (fu : Nat) (x1 : List Int) (x2 : Int) (H1 : K60 fu cp) : J (go Tryz.prog noC cp noI 0 [] d155 fu (fin Tryz.prog [.tmp 4, .tmp 5] [29, 32]) (bodyOf Tryz.f155) (initE 0 [.arr x1.length (lm (ik .i64) x1), .v (.int .i64 x2)]) [] []) (shape_Axes fu x1 x2) e155 := by
 unfold shape_Axes e155
 have da := d155_at
 conv => arg 1; simp only [bodyOf, Tryz.f155]
 have z0 := d155_at
 exact Wk
theorem ok155 (fu : Nat) (x1 : List Int) (x2 : Int) (r) (h : shape_Axes fu x1 x2 = some r) : PureOK Tryz.prog 155 [.arr x1.length (lm (ik .i64) x1), .v (.int .i64 x2)] (e155 r) := pureT mixed [(C60 fu).ct] (ids := [60]) rfl (by decide) i155 (C := noC) (ci := fun cp => noI) (fun cp ok => noI_ok) (fun cp H => w155 cp fu x1 x2 (u60 H.1)) h
open Aw (d108)
def d108_at := by have h := tabL Aw.d108.eq_1; simp only [AllAt, Nat.zero_add, Nat.reduceAdd] at h; exact h
theorem i108 : finfo Tryz.prog 108 d108 = some ⟨bodyOf Tryz.f108, [.tmp 2], [29]⟩ := finfo_at Tryz.func108 rfl (by kernel_rfl) (by kernel_rfl)
def e108 : (List Bool) → AV := fun r => .fresh 1 r.length (lm (bk) r)
structure K155 (fu : Nat) (cp : CallP) : Prop where
 ap : ∀ {a0 : List Int} {a1 : Int} {r}, shape_Axes fu a0 a1 = some r → cp 155 [.arr a0.length (lm (ik .i64) a0), .v (.int .i64 a1)] = some (.tuple [.fresh 1 r.1.length (lm (bk) r.1), .v (.int .i64 r.2)])
noncomputable def C155 (fu : Nat) : Cm Tryz.prog ((List Int) × Int) ((List Bool) × Int) := ⟨155, fun t => [.arr t.1.length (lm (ik .i64) t.1), .v (.int .i64 t.2)], fun t => shape_Axes fu t.1 t.2, e155, fun t b h => ok155 fu t.1 t.2  b h, Zi⟩
theorem u155 {fu : Nat} {cp : CallP} (H : Hit cp (C155 fu).ct) : K155 fu cp := ⟨fun {a0 a1 r} h => (C155 fu).at H (a0, a1) r h⟩
def reduce_work_over.m1 : LJ 1 40 Unit ((List Bool) × Int) := ⟨fun r s e => [(6, .own (0, 62, 0) 0 s.1.length s.1.length), (84, er e 84), (85, .v (.int .i64 s.2))], fun r s h => [((0, 62, 0), .sl true true 1 s.1.length (lm (bk) s.1))]⟩
def reduce_work_over.m2 : LJ 2 28 Unit ((List Int) × Int) := ⟨fun r s e => [(0, er e 0), (3, .own (0, 3, 77) 0 s.1.length s.1.length), (4, er e 4), (5, .v (.int .i64 s.2)), (23, er e 23), (24, er e 24)], fun r s h => [((0, 3, 77), .sl true true 1 s.1.length (lm (ik .i64) s.1))]⟩
def reduce_work_over.j1 : LJ 1 34 Unit (List Int) := ⟨fun r t e => [(0, er e 0), (3, .own (0, 3, 77) 0 t.length t.length), (4, er e 4)], fun r t h => [((0, 3, 77), .sl true true 1 t.length (lm (ik .i64) t))]⟩
def reduce_work_over.m3 : LJ 3 40 Unit ((List Bool) × Int) := ⟨fun r s e => [(6, .own (0, 62, 0) 0 s.1.length s.1.length), (84, er e 84), (85, .v (.int .i64 s.2))], fun r s h => [((0, 62, 0), .sl true true 1 s.1.length (lm (bk) s.1))]⟩
def reduce_work_over.j2 : LJ 2 34 Unit Unit := ⟨fun r t e => [(0, er e 0), (3, er e 3), (4, er e 4)], fun r t h => []⟩
set_option maxHeartbeats 20000000 in
open reduce_work_over in
theorem w108 (cp : CallP) (fu : Nat) (x1 : T_reduce_work) (H1 : K155 fu cp) : J (go Tryz.prog noC cp noI 0 [] d108 fu (fin Tryz.prog [.tmp 2] [29]) (bodyOf Tryz.f108) (initE 0 [.ref (c_T_reduce_work x1) 0]) [] []) (reduce_work_over fu x1) e108 := by
 unfold reduce_work_over e108
 have da := d108_at
 conv => arg 1; simp only [bodyOf, Tryz.f108]
 have z0 := d108_at
 exact Wk
theorem ok108 (fu : Nat) (x1 : T_reduce_work) (r) (h : reduce_work_over fu x1 = some r) : PureOK Tryz.prog 108 [.ref (c_T_reduce_work x1) 0] (e108 r) := pureT mixed [(C155 fu).ct] (ids := [155]) rfl (by decide) i108 (C := noC) (ci := fun cp => noI) (fun cp ok => noI_ok) (fun cp H => w108 cp fu x1 (u155 H.1)) h
open Aw (d120)
def d120_at := by have h := tabL Aw.d120.eq_1; simp only [AllAt, Nat.zero_add, Nat.reduceAdd] at h; exact h
theorem i120 : finfo Tryz.prog 120 d120 = some ⟨bodyOf Tryz.f120, [.tmp 2], [27]⟩ := finfo_at Tryz.func120 rfl (by kernel_rfl) (by kernel_rfl)
def e120 : (List Int) → AV := fun r => .fresh 1 r.length (lm (ik .i64) r)
def shape_strides.m1 : LJ 1 8 Unit ((List Int) × Int × Int) := ⟨fun r s e => [(0, er e 0), (3, .own (0, 8, 0) 0 s.1.length s.1.length), (4, .v (.int .i64 s.2.1)), (5, .v (.int .i64 s.2.2))], fun r s h => [((0, 8, 0), .sl true true 1 s.1.length (lm (ik .i64) s.1))]⟩
set_option maxHeartbeats 20000000 in
open shape_strides in
theorem w120 (cp : CallP) (fu : Nat) (x1 : List Int)  : J (go Tryz.prog noC cp noI 0 [] d120 fu (fin Tryz.prog [.tmp 2] [27]) (bodyOf Tryz.f120) (initE 0 [.arr x1.length (lm (ik .i64) x1)]) [] []) (shape_strides fu x1) e120 := by
 unfold shape_strides e120
 have da := d120_at
 conv => arg 1; simp only [bodyOf, Tryz.f120]
 have z0 := d120_at
 exact Wk
theorem ok120 (fu : Nat) (x1 : List Int) (r) (h : shape_strides fu x1 = some r) : PureOK Tryz.prog 120 [.arr x1.length (lm (ik .i64) x1)] (e120 r) := pureT mixed [] (ids := []) rfl (by decide) i120 (C := noC) (ci := fun cp => noI) (fun cp ok => noI_ok) (fun cp H => w120 cp fu x1 ) h
open Aw (d54)
def d54_at := by have h := tabL Aw.d54.eq_1; simp only [AllAt, Nat.zero_add, Nat.reduceAdd] at h; exact h
theorem i54 : finfo Tryz.prog 54 d54 = some ⟨bodyOf Tryz.f54, [.tmp 2, .tmp 3], [27, 32]⟩ := finfo_at Tryz.func54 rfl (by kernel_rfl) (by kernel_rfl)
def e54 : ((List Int) × Int) → AV := fun r => .tuple [.fresh 1 r.1.length (lm (ik .i64) r.1), .v (.int .i64 r.2)]
structure K120 (fu : Nat) (cp : CallP) : Prop where
 ap : ∀ {a0 : List Int} {r}, shape_strides fu a0 = some r → cp 120 [.arr a0.length (lm (ik .i64) a0)] = some (.fresh 1 r.length (lm (ik .i64) r))
noncomputable def C120 (fu : Nat) : Cm Tryz.prog (List Int) (List Int) := ⟨120, fun t => [.arr t.length (lm (ik .i64) t)], fun t => shape_strides fu t, e120, fun t b h => ok120 fu t  b h, Zi⟩
theorem u120 {fu : Nat} {cp : CallP} (H : Hit cp (C120 fu).ct) : K120 fu cp := ⟨fun {a0 r} h => (C120 fu).at H a0 r h⟩
set_option maxHeartbeats 20000000 in
theorem w54 (cp : CallP) (fu : Nat) (x1 : List Int) (H1 : K39 fu cp) (H2 : K120 fu cp) : J (go Tryz.prog noC cp noI 0 [] d54 fu (fin Tryz.prog [.tmp 2, .tmp 3] [27, 32]) (bodyOf Tryz.f54) (initE 0 [.arr x1.length (lm (ik .i64) x1)]) [] []) (shape_Strides fu x1) e54 := by
 unfold shape_Strides e54
 have da := d54_at
 conv => arg 1; simp only [bodyOf, Tryz.f54]
 have z0 := d54_at
 exact Wk
theorem ok54 (fu : Nat) (x1 : List Int) (r) (h : shape_Strides fu x1 = some r) : PureOK Tryz.prog 54 [.arr x1.length (lm (ik .i64) x1)] (e54 r) := pureT mixed [(C39 fu).ct, (C120 fu).ct] (ids := [39, 120]) rfl (by decide) i54 (C := noC) (ci := fun cp => noI) (fun cp ok => noI_ok) (fun cp H => w54 cp fu x1 (u39 H.1) (u120 H.2.1)) h
def d109 : List (Nat × List Nat) := [(0, [4]), (0, [1, 13, 14, 15]), (0, [12, 1000000005]), (0, []), (0, [0]), (0, [6, 7, 20, 21, 22]), (0, []), (0, []), (0, [17, 18, 19]), (0, [10, 26, 27]), (0, [1000008]), (0, []), (0, []), (0, []), (0, []), (0, []), (0, [24, 25]), (0, []), (0, []), (0, []), (0, []), (0, []), (0, [29]), (0, []), (0, [11, 30, 31, 32, 33, 34, 35, 36, 37, 38, 39, 40]), (0, []), (0, [41]), (0, []), (0, [42]), (0, []), (0, [8, 43, 1000000005]), (0, []), (0, [44]), (0, []), (0, [5, 45])]
def d109_at := by have h := tabL d109.eq_1; simp only [AllAt, Nat.zero_add, Nat.reduceAdd] at h; exact h
theorem i109 : finfo Tryz.prog 109 d109 = some ⟨bodyOf Tryz.f109, [.tmp 4], [27]⟩ := finfo_at Tryz.func109 rfl (by kernel_rfl) (by kernel_rfl)
def e109 : (List Int) → AV := fun r => .arr r.length (lm (ik .i64) r)
def reduce_places.m3 : LJ 3 20 Unit ((List Int) × Int) := ⟨fun r s e => [(1, er e 1), (5, er e 5), (6, er e 6), (7, er e 7), (8, .own (0, 8, 77) 0 s.1.length s.1.length), (10, er e 10), (13, er e 13), (14, er e 14), (15, er e 15), (20, er e 20), (21, er e 21), (22, er e 22), (26, er e 26), (27, .v (.int .i64 s.2))], fun r s h => [((0, 8, 77), .sl true true 1 s.1.length (lm (ik .i64) s.1))]⟩
def reduce_places.m2 : LJ 2 14 Unit ((List Int) × Int) := ⟨fun r s e => [(1, er e 1), (5, er e 5), (6, er e 6), (7, er e 7), (8, .own (0, 8, 77) 0 s.1.length s.1.length), (13, er e 13), (14, er e 14), (15, er e 15), (20, er e 20), (21, er e 21), (22, .v (.int .i64 s.2))], fun r s h => [((0, 8, 77), .sl true true 1 s.1.length (lm (ik .i64) s.1))]⟩
def reduce_places.m1 : LJ 1 6 Unit ((List Int) × Int) := ⟨fun r s e => [(1, er e 1), (5, .arr s.1.length (lm (ik .i64) s.1)), (13, er e 13), (14, er e 14), (15, .v (.int .i64 s.2))], fun r s h => []⟩
set_option maxHeartbeats 20000000 in
open reduce_places in
theorem w109 (cp : CallP) (fu : Nat) (x1 : List Int) (x2 : List Int)  : J (go Tryz.prog noC cp noI 0 [] d109 fu (fin Tryz.prog [.tmp 4] [27]) (bodyOf Tryz.f109) (initE 0 [.arr x1.length (lm (ik .i64) x1), .arr x2.length (lm (ik .i64) x2)]) [] []) (reduce_places fu x1 x2) e109 := by
 unfold reduce_places e109
 have da := d109_at
 conv => arg 1; simp only [bodyOf, Tryz.f109]
 have z0 := d109_at
 exact Wk
theorem ok109 (fu : Nat) (x1 : List Int) (x2 : List Int) (r) (h : reduce_places fu x1 x2 = some r) : PureOK Tryz.prog 109 [.arr x1.length (lm (ik .i64) x1), .arr x2.length (lm (ik .i64) x2)] (e109 r) := pureT mixed [] (ids := []) rfl (by decide) i109 (C := noC) (ci := fun cp => noI) (fun cp ok => noI_ok) (fun cp H => w109 cp fu x1 x2 ) h
def d49 : List (Nat × List Nat) := [(0, [4]), (0, [0, 8, 9, 10]), (0, [1000005]), (0, []), (0, [1]), (0, []), (0, []), (0, []), (0, [12, 13]), (0, []), (0, [7, 14, 15, 16, 17, 18, 19, 20]), (0, []), (0, [21]), (0, []), (0, [5, 22])]
def d49_at := by have h := tabL d49.eq_1; simp only [AllAt, Nat.zero_add, Nat.reduceAdd] at h; exact h
theorem i49 : finfo Tryz.prog 49 d49 = some ⟨bodyOf Tryz.f49, [.tmp 4], [22]⟩ := finfo_at Tryz.func49 rfl (by kernel_rfl) (by kernel_rfl)
def e49 : (List Int) → AV := fun r => .fresh 1 r.length (lm (ik .u32) r)
def reduce_at_uint32.m1 : LJ 1 6 Unit ((List Int) × Int) := ⟨fun r s e => [(0, er e 0), (5, .own (0, 5, 77) 0 s.1.length s.1.length), (8, er e 8), (9, er e 9), (10, .v (.int .i64 s.2))], fun r s h => [((0, 5, 77), .sl true true 1 s.1.length (lm (ik .u32) s.1))]⟩
set_option maxHeartbeats 20000000 in
open reduce_at_uint32 in
theorem w49 (cp : CallP) (fu : Nat) (x1 : List Int) (x2 : List Int)  : J (go Tryz.prog noC cp noI 0 [] d49 fu (fin Tryz.prog [.tmp 4] [22]) (bodyOf Tryz.f49) (initE 0 [.arr x1.length (lm (ik .u32) x1), .arr x2.length (lm (ik .i64) x2)]) [] []) (reduce_at_uint32 fu x1 x2) e49 := by
 unfold reduce_at_uint32 e49
 have da := d49_at
 conv => arg 1; simp only [bodyOf, Tryz.f49]
 have z0 := d49_at
 exact Wk
theorem ok49 (fu : Nat) (x1 : List Int) (x2 : List Int) (r) (h : reduce_at_uint32 fu x1 x2 = some r) : PureOK Tryz.prog 49 [.arr x1.length (lm (ik .u32) x1), .arr x2.length (lm (ik .i64) x2)] (e49 r) := pureT mixed [] (ids := []) rfl (by decide) i49 (C := noC) (ci := fun cp => noI) (fun cp ok => noI_ok) (fun cp H => w49 cp fu x1 x2 ) h
open Aw (d17)
def d17_at := by have h := tabL Aw.d17.eq_1; simp only [AllAt, Nat.zero_add, Nat.reduceAdd] at h; exact h
theorem i17 : finfo Tryz.prog 17 d17 = some ⟨bodyOf Tryz.f17, [.tmp 6], [24]⟩ := finfo_at Tryz.func17 rfl (by kernel_rfl) (by kernel_rfl)
def e17 : Int → AV := fun r => .v (.int .u32 r)
set_option maxHeartbeats 20000000 in
theorem w17 (cp : CallP) (fu : Nat) (x1 : List Int) (x2 : Int) (p2 : Int → Int → Option Int) (fv_p2 : FuncId) (ca_p2 : List AV) (cap_p2 : Capt ca_p2) (hp_p2 : ∀ (y0 : Int) (y1 : Int) r, p2 y0 y1 = some r → cp fv_p2 ((.v (.int .u32 y0)) :: (.v (.int .u32 y1)) :: ca_p2) = some (.v (.int .u32 r))) : J (go Tryz.prog noC cp noI 0 [] d17 fu (fin Tryz.prog [.tmp 6] [24]) (bodyOf Tryz.f17) (initE 0 [.arr x1.length (lm (ik .u32) x1), .v (.int .u32 x2), .fn fv_p2 [] ca_p2]) [] []) (reduce_fold_uint32 fu x1 x2 p2) e17 := by
 unfold reduce_fold_uint32 e17
 have da := d17_at
 have c4_p2 := fun g => (cap_p2.1 g).1; have c3_p2 := fun g => (cap_p2.1 g).2.1; have b4_p2 := fun g => (cap_p2.1 g).2.2.1; have b3_p2 := fun g => (cap_p2.1 g).2.2.2; have nm_p2 := cap_p2.2
 conv => arg 1; simp (disch := first | exact Zd | fail) only [bodyOf, Tryz.f17, ZZ, d17_at, simprocAttr, c4_p2, c3_p2, b4_p2, b3_p2, nm_p2]
 refine J.eq go_seq ?_
 conv => arg 1; simp (disch := first | exact Zd | fail) only [ZZ, d17_at, simprocAttr, c4_p2, c3_p2, b4_p2, b3_p2, nm_p2]
 unfold reduce_fold_uint32.W1
 refine J.loop (fun (s : Int × Int) => ([(1, .v (.int .u32 s.1)), (2, .fn fv_p2 [] ca_p2), (9, .arr x1.length (lm (ik .u32) x1)), (10, .v (.int .i64 (x1.length : Int))), (11, .v (.int .i64 s.2))], [])) (fun next s => reduce_fold_uint32.L1 fu p2 x1 (fun x5 x6 => next (x5, x6)) s.1 s.2) (s0 := (x2, 0)) ?_ ?_ ?_
 ·exact Ze
 ·exact Zh
 rintro next k1 hn1 ⟨x5, x6⟩
 let nx1 : Int → Int → Option Int := (fun x5 x6 => next (x5, x6))
 show J _ (reduce_fold_uint32.L1 fu p2 x1 nx1 x5 x6) _
 unfold reduce_fold_uint32.L1
 conv => arg 1; simp (disch := first | exact Zd | fail) only [ZZ, d17_at, simprocAttr, c4_p2, c3_p2, b4_p2, b3_p2, nm_p2]
 refine J.eq go_seq ?_
 conv => arg 1; simp (disch := first | exact Zd | fail) only [ZZ, d17_at, simprocAttr, c4_p2, c3_p2, b4_p2, b3_p2, nm_p2]
 refine J.ite (fun h1 => ?_) (fun h1 => ?_)
 ·have h1' := decide_eq_true h1
  have h1'' : decide ((x1.length : Int) ≤ x6) = false := decide_eq_false (by omega)
  conv => arg 1; simp (disch := first | exact Zd | fail) only [ZZ, d17_at, simprocAttr, c4_p2, c3_p2, b4_p2, b3_p2, nm_p2, h1'', h1']
  refine J.eq ret_seq ?_
  refine J.eq go_seq ?_
  refine J.at fun x9 h2 h3 h4 => ?_
  refine J.bind fun x10 h5 => ?_
  have e_h5 := hp_p2 _ _ _ h5
  try simp only [NN, NT, LN, simprocAttr, DT] at e_h5
  conv => arg 1; simp (disch := first | exact Zd | fail) only [ZZ, d17_at, simprocAttr, c4_p2, c3_p2, b4_p2, b3_p2, nm_p2, h1'', h1', lm_ik h4, e_h5]
  refine J.eq ret_seq ?_
  conv => arg 1; simp (disch := first | exact Zd | fail) only [ZZ, d17_at, simprocAttr, c4_p2, c3_p2, b4_p2, b3_p2, nm_p2, h1'', h1', lm_ik h4, e_h5]
  refine J.next (s := (x10, wk .i64 (x6 + 1))) hn1 ?_ ?_
  ·exact Ze
  ·exact Zh
 ·have h1' := decide_eq_false h1
  have h1'' : decide ((x1.length : Int) ≤ x6) = true := decide_eq_true (by omega)
  conv => arg 1; simp (disch := first | exact Zd | fail) only [ZZ, d17_at, simprocAttr, c4_p2, c3_p2, b4_p2, b3_p2, nm_p2, h1'', h1']
  refine J.eq ret_seq ?_
  refine J.some ?_
  simp (maxSteps := 20000000) (disch := first | exact Zd | fail) only [ZZ, d17_at, simprocAttr, c4_p2, c3_p2, b4_p2, b3_p2, nm_p2, h1'', h1', FN]
noncomputable def t17 (fu : Nat) (x1 : List Int) (x2 : Int) (p2 : Int → Int → Option Int) (fv_p2 : FuncId) (ca_p2 : List AV) : CallP := orE fv_p2 (mkC (fun (t : Int × Int) => ((.v (.int .u32 t.1)) :: (.v (.int .u32 t.2)) :: ca_p2 : List AV)) (fun t => p2 t.1 t.2) (fun r => .v (.int .u32 r))) (noP)
theorem t17_ok (fu : Nat) (x1 : List Int) (x2 : Int) (p2 : Int → Int → Option Int) (fv_p2 : FuncId) (ca_p2 : List AV) (nc_p2 : memN [] fv_p2 = false) (cap_p2 : Capt ca_p2) (hp_p2 : ∀ (y0 : Int) (y1 : Int) r, p2 y0 y1 = some r → PureOK Tryz.prog fv_p2 ((.v (.int .u32 y0)) :: (.v (.int .u32 y1)) :: ca_p2) (.v (.int .u32 r))) : CpOK Tryz.prog (t17 fu x1 x2 p2 fv_p2 ca_p2) := orE_ok (noP_ok) (mkC_ok (fun t b h => hp_p2 t.1 t.2 b h))
theorem ok17 (fu : Nat) (x1 : List Int) (x2 : Int) (p2 : Int → Int → Option Int) (fv_p2 : FuncId) (ca_p2 : List AV) (nc_p2 : memN [] fv_p2 = false) (cap_p2 : Capt ca_p2) (hp_p2 : ∀ (y0 : Int) (y1 : Int) r, p2 y0 y1 = some r → PureOK Tryz.prog fv_p2 ((.v (.int .u32 y0)) :: (.v (.int .u32 y1)) :: ca_p2) (.v (.int .u32 r))) (r) (h : reduce_fold_uint32 fu x1 x2 p2 = some r) : PureOK Tryz.prog 17 [.arr x1.length (lm (ik .u32) x1), .v (.int .u32 x2), .fn fv_p2 [] ca_p2] (e17 r) :=
  pure_J mixed (cp := t17 fu x1 x2 p2 fv_p2 ca_p2) (t17_ok fu x1 x2 p2 fv_p2 ca_p2 nc_p2 cap_p2 hp_p2) noI_ok i17 (w17 _ fu x1 x2 p2 fv_p2 ca_p2 cap_p2 (fun y0 y1 r h => orE_hit (mkC_at (a := (y0, y1)) (by intro a b h; first | (exact rfl) | (simp only [INJ, IJ] at h; first | exact h | (simp_all [Prod.ext_iff]) )) h)) ) h
open Aw (d68)
def d68_at := by have h := tabL Aw.d68.eq_1; simp only [AllAt, Nat.zero_add, Nat.reduceAdd] at h; exact h
theorem i68 : finfo Tryz.prog 68 d68 = some ⟨bodyOf Tryz.f68, [.cell 2 91], [91]⟩ := finfo_at Tryz.func68 rfl (by kernel_rfl) (by kernel_rfl)
def e68 : T_soft_number → AV := fun r => .agg [.v (.bool r.fneg), .v (.bool r.fnan), .v (.bool r.finf), .v (.int .i64 r.fexp), .v (.int .u64 r.fsig)]
set_option maxHeartbeats 20000000 in
theorem w68 (cp : CallP) (fu : Nat) (x1 : Int)  : J (go Tryz.prog noC cp noI 0 [] d68 fu (fin Tryz.prog [.cell 2 91] [91]) (bodyOf Tryz.f68) (initE 0 [.v (.int .u32 x1)]) [] []) (soft_open fu x1) e68 := by
 unfold soft_open e68
 have da := d68_at
 conv => arg 1; simp only [bodyOf, Tryz.f68]
 have z0 := d68_at
 exact Wk
theorem ok68 (fu : Nat) (x1 : Int) (r) (h : soft_open fu x1 = some r) : PureOK Tryz.prog 68 [.v (.int .u32 x1)] (e68 r) := pureT mixed [] (ids := []) rfl (by decide) i68 (C := noC) (ci := fun cp => noI) (fun cp ok => noI_ok) (fun cp H => w68 cp fu x1 ) h
open Aw (d139)
def d139_at := by have h := tabL Aw.d139.eq_1; simp only [AllAt, Nat.zero_add, Nat.reduceAdd] at h; exact h
theorem i139 : finfo Tryz.prog 139 d139 = some ⟨bodyOf Tryz.f139, [.tmp 2], [24]⟩ := finfo_at Tryz.func139 rfl (by kernel_rfl) (by kernel_rfl)
def e139 : Int → AV := fun r => .v (.int .u32 r)
set_option maxHeartbeats 20000000 in
theorem w139 (cp : CallP) (fu : Nat) (x1 : Bool)  : J (go Tryz.prog noC cp noI 0 [] d139 fu (fin Tryz.prog [.tmp 2] [24]) (bodyOf Tryz.f139) (initE 0 [.v (.bool x1)]) [] []) (soft_sign fu x1) e139 := by
 unfold soft_sign e139
 have da := d139_at
 conv => arg 1; simp only [bodyOf, Tryz.f139]
 have z0 := d139_at
 exact Wk
theorem ok139 (fu : Nat) (x1 : Bool) (r) (h : soft_sign fu x1 = some r) : PureOK Tryz.prog 139 [.v (.bool x1)] (e139 r) := pureT mixed [] (ids := []) rfl (by decide) i139 (C := noC) (ci := fun cp => noI) (fun cp ok => noI_ok) (fun cp H => w139 cp fu x1 ) h
open Aw (d69)
def d69_at := by have h := tabL Aw.d69.eq_1; simp only [AllAt, Nat.zero_add, Nat.reduceAdd] at h; exact h
theorem i69 : finfo Tryz.prog 69 d69 = some ⟨bodyOf Tryz.f69, [.tmp 2], [24]⟩ := finfo_at Tryz.func69 rfl (by kernel_rfl) (by kernel_rfl)
def e69 : Int → AV := fun r => .v (.int .u32 r)
structure K139 (fu : Nat) (cp : CallP) : Prop where
 ap : ∀ {a0 : Bool} {r}, soft_sign fu a0 = some r → cp 139 [.v (.bool a0)] = some (.v (.int .u32 r))
noncomputable def C139 (fu : Nat) : Cm Tryz.prog Bool Int := ⟨139, fun t => [.v (.bool t)], fun t => soft_sign fu t, e139, fun t b h => ok139 fu t  b h, Zi⟩
theorem u139 {fu : Nat} {cp : CallP} (H : Hit cp (C139 fu).ct) : K139 fu cp := ⟨fun {a0 r} h => (C139 fu).at H a0 r h⟩
set_option maxHeartbeats 20000000 in
theorem w69 (cp : CallP) (fu : Nat) (x1 : Int) (H1 : K139 fu cp) : J (go Tryz.prog noC cp noI 0 [] d69 fu (fin Tryz.prog [.tmp 2] [24]) (bodyOf Tryz.f69) (initE 0 [.v (.int .i64 x1)]) [] []) (soft_nought fu x1) e69 := by
 unfold soft_nought e69
 have da := d69_at
 conv => arg 1; simp only [bodyOf, Tryz.f69]
 have z0 := d69_at
 exact Wk
theorem ok69 (fu : Nat) (x1 : Int) (r) (h : soft_nought fu x1 = some r) : PureOK Tryz.prog 69 [.v (.int .i64 x1)] (e69 r) := pureT mixed [(C139 fu).ct] (ids := [139]) rfl (by decide) i69 (C := noC) (ci := fun cp => noI) (fun cp ok => noI_ok) (fun cp H => w69 cp fu x1 (u139 H.1)) h
open Aw (d140)
def d140_at := by have h := tabL Aw.d140.eq_1; simp only [AllAt, Nat.zero_add, Nat.reduceAdd] at h; exact h
theorem i140 : finfo Tryz.prog 140 d140 = some ⟨bodyOf Tryz.f140, [.tmp 2], [3]⟩ := finfo_at Tryz.func140 rfl (by kernel_rfl) (by kernel_rfl)
def e140 : Int → AV := fun r => .v (.int .i64 r)
def math_bits_Len64.j2 : LJ 2 14 Unit (Int × Int) := ⟨fun r t e => [(0, .v (.int .u64 t.1)), (2, .v (.int .i64 t.2))], fun r t h => []⟩
def math_bits_Len64.j1 : LJ 1 8 Unit (Int × Int) := ⟨fun r t e => [(0, .v (.int .u64 t.1)), (2, .v (.int .i64 t.2))], fun r t h => []⟩
set_option maxHeartbeats 20000000 in
open math_bits_Len64 in
theorem w140 (cp : CallP) (fu : Nat) (x1 : Int)  : J (go Tryz.prog noC cp noI 0 [] d140 fu (fin Tryz.prog [.tmp 2] [3]) (bodyOf Tryz.f140) (initE 0 [.v (.int .u64 x1)]) [] []) (math_bits_Len64 fu x1) e140 := by
 unfold math_bits_Len64 e140
 have da := d140_at
 conv => arg 1; simp only [bodyOf, Tryz.f140]
 have z0 := d140_at
 exact Wk
theorem ok140 (fu : Nat) (x1 : Int) (r) (h : math_bits_Len64 fu x1 = some r) : PureOK Tryz.prog 140 [.v (.int .u64 x1)] (e140 r) := pureT mixed [] (ids := []) rfl (by decide) i140 (C := noC) (ci := fun cp => noI) (fun cp ok => noI_ok) (fun cp H => w140 cp fu x1 ) h
def d143 : List (Nat × List Nat) := [(0, [4]), (0, []), (0, [0, 1, 5, 6, 7, 8, 9, 10, 11, 12, 13, 14, 15, 16, 17])]
def d143_at := by have h := tabL d143.eq_1; simp only [AllAt, Nat.zero_add, Nat.reduceAdd] at h; exact h
theorem i143 : finfo Tryz.prog 143 d143 = some ⟨bodyOf Tryz.f143, [.tmp 4], [4]⟩ := finfo_at Tryz.func143 rfl (by kernel_rfl) (by kernel_rfl)
def e143 : Bool → AV := fun r => .v (.bool r)
set_option maxHeartbeats 20000000 in
theorem w143 (cp : CallP) (fu : Nat) (x1 : Int) (x2 : Bool)  : J (go Tryz.prog noC cp noI 0 [] d143 fu (fin Tryz.prog [.tmp 4] [4]) (bodyOf Tryz.f143) (initE 0 [.v (.int .i64 x1), .v (.bool x2)]) [] []) (soft_outwards fu x1 x2) e143 := by
 unfold soft_outwards e143
 have da := d143_at
 conv => arg 1; simp only [bodyOf, Tryz.f143]
 have z0 := d143_at
 exact Wk
theorem ok143 (fu : Nat) (x1 : Int) (x2 : Bool) (r) (h : soft_outwards fu x1 x2 = some r) : PureOK Tryz.prog 143 [.v (.int .i64 x1), .v (.bool x2)] (e143 r) := pureT mixed [] (ids := []) rfl (by decide) i143 (C := noC) (ci := fun cp => noI) (fun cp ok => noI_ok) (fun cp H => w143 cp fu x1 x2 ) h
def d141 : List (Nat × List Nat) := [(0, [4]), (0, []), (0, [0, 5, 6]), (0, []), (0, [8, 9, 10]), (0, []), (0, [1, 11, 12])]
def d141_at := by have h := tabL d141.eq_1; simp only [AllAt, Nat.zero_add, Nat.reduceAdd] at h; exact h
theorem i141 : finfo Tryz.prog 141 d141 = some ⟨bodyOf Tryz.f141, [.tmp 4], [24]⟩ := finfo_at Tryz.func141 rfl (by kernel_rfl) (by kernel_rfl)
def e141 : Int → AV := fun r => .v (.int .u32 r)
structure K143 (fu : Nat) (cp : CallP) : Prop where
 ap : ∀ {a0 : Int} {a1 : Bool} {r}, soft_outwards fu a0 a1 = some r → cp 143 [.v (.int .i64 a0), .v (.bool a1)] = some (.v (.bool r))
noncomputable def C143 (fu : Nat) : Cm Tryz.prog (Int × Bool) Bool := ⟨143, fun t => [.v (.int .i64 t.1), .v (.bool t.2)], fun t => soft_outwards fu t.1 t.2, e143, fun t b h => ok143 fu t.1 t.2  b h, Zi⟩
theorem u143 {fu : Nat} {cp : CallP} (H : Hit cp (C143 fu).ct) : K143 fu cp := ⟨fun {a0 a1 r} h => (C143 fu).at H (a0, a1) r h⟩
set_option maxHeartbeats 20000000 in
theorem w141 (cp : CallP) (fu : Nat) (x1 : Int) (x2 : Bool) (H1 : K143 fu cp) (H2 : K139 fu cp) : J (go Tryz.prog noC cp noI 0 [] d141 fu (fin Tryz.prog [.tmp 4] [24]) (bodyOf Tryz.f141) (initE 0 [.v (.int .i64 x1), .v (.bool x2)]) [] []) (soft_tiny fu x1 x2) e141 := by
 unfold soft_tiny e141
 have da := d141_at
 conv => arg 1; simp only [bodyOf, Tryz.f141]
 have z0 := d141_at
 exact Wk
theorem ok141 (fu : Nat) (x1 : Int) (x2 : Bool) (r) (h : soft_tiny fu x1 x2 = some r) : PureOK Tryz.prog 141 [.v (.int .i64 x1), .v (.bool x2)] (e141 r) := pureT mixed [(C143 fu).ct, (C139 fu).ct] (ids := [143, 139]) rfl (by decide) i141 (C := noC) (ci := fun cp => noI) (fun cp ok => noI_ok) (fun cp H => w141 cp fu x1 x2 (u143 H.1) (u139 H.2.1)) h
def d142 : List (Nat × List Nat) := [(0, [4]), (0, []), (0, [0, 5, 6, 7, 8, 9, 10, 11, 12, 13, 14, 15]), (0, []), (0, [17, 18, 19]), (0, []), (0, [1, 20, 21, 22])]
def d142_at := by have h := tabL d142.eq_1; simp only [AllAt, Nat.zero_add, Nat.reduceAdd] at h; exact h
theorem i142 : finfo Tryz.prog 142 d142 = some ⟨bodyOf Tryz.f142, [.tmp 4], [24]⟩ := finfo_at Tryz.func142 rfl (by kernel_rfl) (by kernel_rfl)
def e142 : Int → AV := fun r => .v (.int .u32 r)
def soft_huge.j1 : LJ 1 6 Unit Unit := ⟨fun r t e => [(1, er e 1)], fun r t h => []⟩
set_option maxHeartbeats 20000000 in
open soft_huge in
theorem w142 (cp : CallP) (fu : Nat) (x1 : Int) (x2 : Bool) (H1 : K139 fu cp) : J (go Tryz.prog noC cp noI 0 [] d142 fu (fin Tryz.prog [.tmp 4] [24]) (bodyOf Tryz.f142) (initE 0 [.v (.int .i64 x1), .v (.bool x2)]) [] []) (soft_huge fu x1 x2) e142 := by
 unfold soft_huge e142
 have da := d142_at
 conv => arg 1; simp only [bodyOf, Tryz.f142]
 have z0 := d142_at
 exact Wk
theorem ok142 (fu : Nat) (x1 : Int) (x2 : Bool) (r) (h : soft_huge fu x1 x2 = some r) : PureOK Tryz.prog 142 [.v (.int .i64 x1), .v (.bool x2)] (e142 r) := pureT mixed [(C139 fu).ct] (ids := [139]) rfl (by decide) i142 (C := noC) (ci := fun cp => noI) (fun cp ok => noI_ok) (fun cp H => w142 cp fu x1 x2 (u139 H.1)) h
open Aw (d70)
def d70_at := by have h := tabL Aw.d70.eq_1; simp only [AllAt, Nat.zero_add, Nat.reduceAdd] at h; exact h
theorem i70 : finfo Tryz.prog 70 d70 = some ⟨bodyOf Tryz.f70, [.tmp 10], [24]⟩ := finfo_at Tryz.func70 rfl (by kernel_rfl) (by kernel_rfl)
def e70 : Int → AV := fun r => .v (.int .u32 r)
structure K140 (fu : Nat) (cp : CallP) : Prop where
 ap : ∀ {a0 : Int} {r}, math_bits_Len64 fu a0 = some r → cp 140 [.v (.int .u64 a0)] = some (.v (.int .i64 r))
noncomputable def C140 (fu : Nat) : Cm Tryz.prog Int Int := ⟨140, fun t => [.v (.int .u64 t)], fun t => math_bits_Len64 fu t, e140, fun t b h => ok140 fu t  b h, Zi⟩
theorem u140 {fu : Nat} {cp : CallP} (H : Hit cp (C140 fu).ct) : K140 fu cp := ⟨fun {a0 r} h => (C140 fu).at H a0 r h⟩
structure K141 (fu : Nat) (cp : CallP) : Prop where
 ap : ∀ {a0 : Int} {a1 : Bool} {r}, soft_tiny fu a0 a1 = some r → cp 141 [.v (.int .i64 a0), .v (.bool a1)] = some (.v (.int .u32 r))
noncomputable def C141 (fu : Nat) : Cm Tryz.prog (Int × Bool) Int := ⟨141, fun t => [.v (.int .i64 t.1), .v (.bool t.2)], fun t => soft_tiny fu t.1 t.2, e141, fun t b h => ok141 fu t.1 t.2  b h, Zi⟩
theorem u141 {fu : Nat} {cp : CallP} (H : Hit cp (C141 fu).ct) : K141 fu cp := ⟨fun {a0 a1 r} h => (C141 fu).at H (a0, a1) r h⟩
structure K142 (fu : Nat) (cp : CallP) : Prop where
 ap : ∀ {a0 : Int} {a1 : Bool} {r}, soft_huge fu a0 a1 = some r → cp 142 [.v (.int .i64 a0), .v (.bool a1)] = some (.v (.int .u32 r))
noncomputable def C142 (fu : Nat) : Cm Tryz.prog (Int × Bool) Int := ⟨142, fun t => [.v (.int .i64 t.1), .v (.bool t.2)], fun t => soft_huge fu t.1 t.2, e142, fun t b h => ok142 fu t.1 t.2  b h, Zi⟩
theorem u142 {fu : Nat} {cp : CallP} (H : Hit cp (C142 fu).ct) : K142 fu cp := ⟨fun {a0 a1 r} h => (C142 fu).at H (a0, a1) r h⟩
def soft_Round.j3 : LJ 3 56 Unit Int := ⟨fun r t e => [(0, er e 0), (1, er e 1), (2, er e 2), (12, er e 12), (13, .v (.int .u64 t))], fun r t h => []⟩
def soft_Round.j4 : LJ 4 30 Unit Bool := ⟨fun r t e => [(0, er e 0), (1, er e 1), (2, er e 2), (3, er e 3), (4, er e 4), (11, er e 11), (12, er e 12), (13, er e 13), (14, .v (.bool t)), (15, er e 15), (16, er e 16), (17, er e 17), (18, er e 18)], fun r t h => []⟩
def soft_Round.j2 : LJ 2 42 Unit (Int × Bool × Bool × Bool) := ⟨fun r t e => [(0, er e 0), (1, er e 1), (2, er e 2), (12, er e 12), (13, .v (.int .u64 t.1)), (14, .v (.bool t.2.1)), (15, .v (.bool t.2.2.1)), (16, .v (.bool t.2.2.2))], fun r t h => []⟩
def soft_Round.j1 : LJ 1 16 Unit Unit := ⟨fun r t e => [(0, er e 0), (1, er e 1), (2, er e 2), (3, er e 3), (4, er e 4), (11, er e 11)], fun r t h => []⟩
set_option maxHeartbeats 20000000 in
open soft_Round in
theorem w70 (cp : CallP) (fu : Nat) (x1 : Int) (x2 : Bool) (x3 : Int) (x4 : Int) (x5 : Bool) (H1 : K140 fu cp) (H2 : K141 fu cp) (H3 : K139 fu cp) (H4 : K142 fu cp) : J (go Tryz.prog noC cp noI 0 [] d70 fu (fin Tryz.prog [.tmp 10] [24]) (bodyOf Tryz.f70) (initE 0 [.v (.int .i64 x1), .v (.bool x2), .v (.int .i64 x3), .v (.int .u64 x4), .v (.bool x5)]) [] []) (soft_Round fu x1 x2 x3 x4 x5) e70 := by
 unfold soft_Round e70
 have da := d70_at
 conv => arg 1; simp only [bodyOf, Tryz.f70]
 have z0 := d70_at
 exact Wk
theorem ok70 (fu : Nat) (x1 : Int) (x2 : Bool) (x3 : Int) (x4 : Int) (x5 : Bool) (r) (h : soft_Round fu x1 x2 x3 x4 x5 = some r) : PureOK Tryz.prog 70 [.v (.int .i64 x1), .v (.bool x2), .v (.int .i64 x3), .v (.int .u64 x4), .v (.bool x5)] (e70 r) := pureT mixed [(C140 fu).ct, (C141 fu).ct, (C139 fu).ct, (C142 fu).ct] (ids := [140, 141, 139, 142]) rfl (by decide) i70 (C := noC) (ci := fun cp => noI) (fun cp ok => noI_ok) (fun cp H => w70 cp fu x1 x2 x3 x4 x5 (u140 H.1) (u141 H.2.1) (u139 H.2.2.1) (u142 H.2.2.2.1)) h
end Go.Av
