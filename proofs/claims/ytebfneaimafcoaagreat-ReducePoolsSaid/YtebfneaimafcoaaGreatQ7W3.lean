/- The walks of the plain functions, part 3. Made by a program of mine. Conditions: none. -/
import Derived.Test.YtebfneaimafcoaaGreatQ7W2
set_option linter.unusedVariables false
set_option linter.unusedSimpArgs false
set_option linter.defProp false
set_option maxRecDepth 20000
open Go Go.Proofs
namespace Go.Av
open Aw (d17 d22 d23 d24 d25 d26 d27 d38 d39 d40 d41 d42 d43 d44 d45 d54 d60 d68 d69 d70 d80 d81 d82 d83 d84 d85 d86 d87 d88 d89 d91 d92 d93 d94 d95 d104 d106 d107 d108 d120 d122 d139 d140 d148 d149 d150 d152 d153 d154 d155 d157 d158 d160 d161 d162 d163 d164 d165 d166 d168 d182 d192 d195 d196 d202 d206)
open Aw (d36)
def d36_at := by have h := tabL Aw.d36.eq_1; simp only [AllAt, Nat.zero_add, Nat.reduceAdd] at h; exact h
theorem i36 : finfo Tryz.prog 36 d36 = some ⟨bodyOf Tryz.f36, [.tmp 6], [24]⟩ := finfo_at Tryz.func36 rfl (by kernel_rfl) (by kernel_rfl)
def e36 : Int → AV := fun r => .v (.int .u32 r)
structure K68 (fu : Nat) (cp : CallP) : Prop where
 ap : ∀ {a0 : Int} {r}, soft_open fu a0 = some r → cp 68 [.v (.int .u32 a0)] = some (.agg [.v (.bool r.fneg), .v (.bool r.fnan), .v (.bool r.finf), .v (.int .i64 r.fexp), .v (.int .u64 r.fsig)])
noncomputable def C68 (fu : Nat) : Cm Tryz.prog Int T_soft_number := ⟨68, fun t => [.v (.int .u32 t)], fun t => soft_open fu t, e68, fun t b h => ok68 fu t  b h, Zi⟩
theorem u68 {fu : Nat} {cp : CallP} (H : Hit cp (C68 fu).ct) : K68 fu cp := ⟨fun {a0 r} h => (C68 fu).at H a0 r h⟩
structure K69 (fu : Nat) (cp : CallP) : Prop where
 ap : ∀ {a0 : Int} {r}, soft_nought fu a0 = some r → cp 69 [.v (.int .i64 a0)] = some (.v (.int .u32 r))
noncomputable def C69 (fu : Nat) : Cm Tryz.prog Int Int := ⟨69, fun t => [.v (.int .i64 t)], fun t => soft_nought fu t, e69, fun t b h => ok69 fu t  b h, Zi⟩
theorem u69 {fu : Nat} {cp : CallP} (H : Hit cp (C69 fu).ct) : K69 fu cp := ⟨fun {a0 r} h => (C69 fu).at H a0 r h⟩
structure K70 (fu : Nat) (cp : CallP) : Prop where
 ap : ∀ {a0 : Int} {a1 : Bool} {a2 : Int} {a3 : Int} {a4 : Bool} {r}, soft_Round fu a0 a1 a2 a3 a4 = some r → cp 70 [.v (.int .i64 a0), .v (.bool a1), .v (.int .i64 a2), .v (.int .u64 a3), .v (.bool a4)] = some (.v (.int .u32 r))
noncomputable def C70 (fu : Nat) : Cm Tryz.prog (Int × Bool × Int × Int × Bool) Int := ⟨70, fun t => [.v (.int .i64 t.1), .v (.bool t.2.1), .v (.int .i64 t.2.2.1), .v (.int .u64 t.2.2.2.1), .v (.bool t.2.2.2.2)], fun t => soft_Round fu t.1 t.2.1 t.2.2.1 t.2.2.2.1 t.2.2.2.2, e70, fun t b h => ok70 fu t.1 t.2.1 t.2.2.1 t.2.2.2.1 t.2.2.2.2  b h, Zi⟩
theorem u70 {fu : Nat} {cp : CallP} (H : Hit cp (C70 fu).ct) : K70 fu cp := ⟨fun {a0 a1 a2 a3 a4 r} h => (C70 fu).at H (a0, a1, a2, a3, a4) r h⟩
def soft_AddBy.j3 : LJ 3 3 Unit (Int × Int × Int × Bool) := ⟨fun r t e => [(0, er e 0), (7, er e 7), (8, er e 8), (9, er e 9), (10, .v (.int .i64 t.1)), (11, .v (.int .u64 t.2.1)), (12, .v (.int .u64 t.2.2.1)), (13, .v (.bool t.2.2.2))], fun r t h => [((0, 7, 0), hr h (0, 7, 0)), ((0, 8, 0), hr h (0, 8, 0))]⟩
def soft_AddBy.j2 : LJ 2 28 Unit (Bool × Int × Int × Bool × Int × Int) := ⟨fun r t e => [(0, er e 0), (7, er e 7), (8, er e 8)], fun r t h => [((0, 7, 0), bs (bs (bs (hr h (0, 7, 0)) 0 (.v (.bool t.1))) 3 (.v (.int .i64 t.2.1))) 4 (.v (.int .u64 t.2.2.1))), ((0, 8, 0), bs (bs (bs (hr h (0, 8, 0)) 0 (.v (.bool t.2.2.2.1))) 3 (.v (.int .i64 t.2.2.2.2.1))) 4 (.v (.int .u64 t.2.2.2.2.2)))]⟩
def soft_AddBy.j1 : LJ 1 24 Unit Unit := ⟨fun r t e => [(0, er e 0), (7, er e 7), (8, er e 8)], fun r t h => [((0, 7, 0), bs (bs (hr h (0, 7, 0)) 1 (.v (.bool false))) 2 (.v (.bool false))), ((0, 8, 0), bs (bs (hr h (0, 8, 0)) 1 (.v (.bool false))) 2 (.v (.bool false)))]⟩
set_option maxHeartbeats 20000000 in
open soft_AddBy in
theorem w36 (cp : CallP) (fu : Nat) (x1 : Int) (x2 : Int) (x3 : Int) (H1 : K68 fu cp) (H2 : K69 fu cp) (H3 : K70 fu cp) : J (go Tryz.prog noC cp noI 0 [] d36 fu (fin Tryz.prog [.tmp 6] [24]) (bodyOf Tryz.f36) (initE 0 [.v (.int .i64 x1), .v (.int .u32 x2), .v (.int .u32 x3)]) [] []) (soft_AddBy fu x1 x2 x3) e36 := by
 unfold soft_AddBy e36
 have da := d36_at
 conv => arg 1; simp only [bodyOf, Tryz.f36]
 have z0 := d36_at
 exact Wk
theorem ok36 (fu : Nat) (x1 : Int) (x2 : Int) (x3 : Int) (r) (h : soft_AddBy fu x1 x2 x3 = some r) : PureOK Tryz.prog 36 [.v (.int .i64 x1), .v (.int .u32 x2), .v (.int .u32 x3)] (e36 r) := pureT mixed [(C68 fu).ct, (C69 fu).ct, (C70 fu).ct] (ids := [68, 69, 70]) rfl (by decide) i36 (C := noC) (ci := fun cp => noI) (fun cp ok => noI_ok) (fun cp H => w36 cp fu x1 x2 x3 (u68 H.1) (u69 H.2.1) (u70 H.2.2.1)) h
open Aw (d18)
def d18_at := by have h := tabL Aw.d18.eq_1; simp only [AllAt, Nat.zero_add, Nat.reduceAdd] at h; exact h
theorem i18 : finfo Tryz.prog 18 d18 = some ⟨bodyOf Tryz.f18, [.tmp 4], [24]⟩ := finfo_at Tryz.func18 rfl (by kernel_rfl) (by kernel_rfl)
def e18 : Int → AV := fun r => .v (.int .u32 r)
structure K36 (fu : Nat) (cp : CallP) : Prop where
 ap : ∀ {a0 : Int} {a1 : Int} {a2 : Int} {r}, soft_AddBy fu a0 a1 a2 = some r → cp 36 [.v (.int .i64 a0), .v (.int .u32 a1), .v (.int .u32 a2)] = some (.v (.int .u32 r))
noncomputable def C36 (fu : Nat) : Cm Tryz.prog (Int × Int × Int) Int := ⟨36, fun t => [.v (.int .i64 t.1), .v (.int .u32 t.2.1), .v (.int .u32 t.2.2)], fun t => soft_AddBy fu t.1 t.2.1 t.2.2, e36, fun t b h => ok36 fu t.1 t.2.1 t.2.2  b h, Zi⟩
theorem u36 {fu : Nat} {cp : CallP} (H : Hit cp (C36 fu).ct) : K36 fu cp := ⟨fun {a0 a1 a2 r} h => (C36 fu).at H (a0, a1, a2) r h⟩
set_option maxHeartbeats 20000000 in
theorem w18 (cp : CallP) (fu : Nat) (x1 : Int) (x2 : Int) (H1 : K36 fu cp) : J (go Tryz.prog noC cp noI 0 [] d18 fu (fin Tryz.prog [.tmp 4] [24]) (bodyOf Tryz.f18) (initE 0 [.v (.int .u32 x1), .v (.int .u32 x2)]) [] []) (soft_Add fu x1 x2) e18 := by
 unfold soft_Add e18
 have da := d18_at
 conv => arg 1; simp only [bodyOf, Tryz.f18]
 have z0 := d18_at
 exact Wk
theorem ok18 (fu : Nat) (x1 : Int) (x2 : Int) (r) (h : soft_Add fu x1 x2 = some r) : PureOK Tryz.prog 18 [.v (.int .u32 x1), .v (.int .u32 x2)] (e18 r) := pureT mixed [(C36 fu).ct] (ids := [36]) rfl (by decide) i18 (C := noC) (ci := fun cp => noI) (fun cp ok => noI_ok) (fun cp H => w18 cp fu x1 x2 (u36 H.1)) h
open Aw (d9)
def d9_at := by have h := tabL Aw.d9.eq_1; simp only [AllAt, Nat.zero_add, Nat.reduceAdd] at h; exact h
theorem i9 : finfo Tryz.prog 9 d9 = some ⟨bodyOf Tryz.f9, [.tmp 2], [24]⟩ := finfo_at Tryz.func9 rfl (by kernel_rfl) (by kernel_rfl)
def e9 : Int → AV := fun r => .v (.int .u32 r)
structure K17 (fu : Nat) (cp : CallP) : Prop where
 ap : ∀ {a0 : List Int} {a1 : Int} {r}, reduce_fold_uint32 fu a0 a1 (fun y0 y1 => soft_Add fu y0 y1) = some r → cp 17 [.arr a0.length (lm (ik .u32) a0), .v (.int .u32 a1), .fn 18 [] []] = some (.v (.int .u32 r))
noncomputable def C17 (fu : Nat) : Cm Tryz.prog ((List Int) × Int) Int := ⟨17, fun t => [.arr t.1.length (lm (ik .u32) t.1), .v (.int .u32 t.2), .fn 18 [] []], fun t => reduce_fold_uint32 fu t.1 t.2 (fun y0 y1 => soft_Add fu y0 y1), e17, fun t b h => ok17 fu t.1 t.2 (fun y0 y1 => soft_Add fu y0 y1) 18 [] rfl Capt.nil (fun y0 y1 r h => ok18 fu y0 y1  r h) b h, Zi⟩
theorem u17 {fu : Nat} {cp : CallP} (H : Hit cp (C17 fu).ct) : K17 fu cp := ⟨fun {a0 a1 r} h => (C17 fu).at H (a0, a1) r h⟩
set_option maxHeartbeats 20000000 in
theorem w9 (cp : CallP) (fu : Nat) (x1 : List Int) (H1 : K17 fu cp) : J (go Tryz.prog noC cp noI 0 [] d9 fu (fin Tryz.prog [.tmp 2] [24]) (bodyOf Tryz.f9) (initE 0 [.arr x1.length (lm (ik .u32) x1)]) [] []) (reduce_Sum fu x1) e9 := by
 unfold reduce_Sum e9
 have da := d9_at
 conv => arg 1; simp only [bodyOf, Tryz.f9]
 have z0 := d9_at
 exact Wk
theorem ok9 (fu : Nat) (x1 : List Int) (r) (h : reduce_Sum fu x1 = some r) : PureOK Tryz.prog 9 [.arr x1.length (lm (ik .u32) x1)] (e9 r) := pureT mixed [(C17 fu).ct] (ids := [17]) rfl (by decide) i9 (C := noC) (ci := fun cp => noI) (fun cp ok => noI_ok) (fun cp H => w9 cp fu x1 (u17 H.1)) h
def d123 : List (Nat × List Nat) := [(0, [4]), (0, []), (0, [5]), (0, []), (0, [7, 8, 9, 10, 11]), (0, []), (0, [0, 1, 12, 13, 14, 15])]
def d123_at := by have h := tabL d123.eq_1; simp only [AllAt, Nat.zero_add, Nat.reduceAdd] at h; exact h
theorem i123 : finfo Tryz.prog 123 d123 = some ⟨bodyOf Tryz.f123, [.tmp 4], [24]⟩ := finfo_at Tryz.func123 rfl (by kernel_rfl) (by kernel_rfl)
def e123 : Int → AV := fun r => .v (.int .u32 r)
set_option maxHeartbeats 20000000 in
theorem w123 (cp : CallP) (fu : Nat) (x1 : Int) (x2 : Int) (H1 : K70 fu cp) : J (go Tryz.prog noC cp noI 0 [] d123 fu (fin Tryz.prog [.tmp 4] [24]) (bodyOf Tryz.f123) (initE 0 [.v (.int .i64 x1), .v (.int .i64 x2)]) [] []) (round_FromIntBy fu x1 x2) e123 := by
 unfold round_FromIntBy e123
 have da := d123_at
 conv => arg 1; simp only [bodyOf, Tryz.f123]
 have z0 := d123_at
 exact Wk
theorem ok123 (fu : Nat) (x1 : Int) (x2 : Int) (r) (h : round_FromIntBy fu x1 x2 = some r) : PureOK Tryz.prog 123 [.v (.int .i64 x1), .v (.int .i64 x2)] (e123 r) := pureT mixed [(C70 fu).ct] (ids := [70]) rfl (by decide) i123 (C := noC) (ci := fun cp => noI) (fun cp ok => noI_ok) (fun cp H => w123 cp fu x1 x2 (u70 H.1)) h
def d57 : List (Nat × List Nat) := [(0, [2]), (0, []), (0, [0, 3, 4])]
def d57_at := by have h := tabL d57.eq_1; simp only [AllAt, Nat.zero_add, Nat.reduceAdd] at h; exact h
theorem i57 : finfo Tryz.prog 57 d57 = some ⟨bodyOf Tryz.f57, [.tmp 2], [24]⟩ := finfo_at Tryz.func57 rfl (by kernel_rfl) (by kernel_rfl)
def e57 : Int → AV := fun r => .v (.int .u32 r)
structure K123 (fu : Nat) (cp : CallP) : Prop where
 ap : ∀ {a0 : Int} {a1 : Int} {r}, round_FromIntBy fu a0 a1 = some r → cp 123 [.v (.int .i64 a0), .v (.int .i64 a1)] = some (.v (.int .u32 r))
noncomputable def C123 (fu : Nat) : Cm Tryz.prog (Int × Int) Int := ⟨123, fun t => [.v (.int .i64 t.1), .v (.int .i64 t.2)], fun t => round_FromIntBy fu t.1 t.2, e123, fun t b h => ok123 fu t.1 t.2  b h, Zi⟩
theorem u123 {fu : Nat} {cp : CallP} (H : Hit cp (C123 fu).ct) : K123 fu cp := ⟨fun {a0 a1 r} h => (C123 fu).at H (a0, a1) r h⟩
set_option maxHeartbeats 20000000 in
theorem w57 (cp : CallP) (fu : Nat) (x1 : Int) (H1 : K123 fu cp) : J (go Tryz.prog noC cp noI 0 [] d57 fu (fin Tryz.prog [.tmp 2] [24]) (bodyOf Tryz.f57) (initE 0 [.v (.int .i64 x1)]) [] []) (round_FromInt fu x1) e57 := by
 unfold round_FromInt e57
 have da := d57_at
 conv => arg 1; simp only [bodyOf, Tryz.f57]
 have z0 := d57_at
 exact Wk
theorem ok57 (fu : Nat) (x1 : Int) (r) (h : round_FromInt fu x1 = some r) : PureOK Tryz.prog 57 [.v (.int .i64 x1)] (e57 r) := pureT mixed [(C123 fu).ct] (ids := [123]) rfl (by decide) i57 (C := noC) (ci := fun cp => noI) (fun cp ok => noI_ok) (fun cp H => w57 cp fu x1 (u123 H.1)) h
open Aw (d191)
def d191_at := by have h := tabL Aw.d191.eq_1; simp only [AllAt, Nat.zero_add, Nat.reduceAdd] at h; exact h
theorem i191 : finfo Tryz.prog 191 d191 = some ⟨bodyOf Tryz.f191, [.cell 2 91], [91]⟩ := finfo_at Tryz.func191 rfl (by kernel_rfl) (by kernel_rfl)
def e191 : T_soft_number → AV := fun r => .agg [.v (.bool r.fneg), .v (.bool r.fnan), .v (.bool r.finf), .v (.int .i64 r.fexp), .v (.int .u64 r.fsig)]
set_option maxHeartbeats 20000000 in
theorem w191 (cp : CallP) (fu : Nat) (x1 : T_soft_number) (H1 : K140 fu cp) : J (go Tryz.prog noC cp noI 0 [] d191 fu (fin Tryz.prog [.cell 2 91] [91]) (bodyOf Tryz.f191) (initE 0 [.agg (c_T_soft_number x1)]) [] []) (soft_number_full fu x1) e191 := by
 unfold soft_number_full e191
 have da := d191_at
 conv => arg 1; simp only [bodyOf, Tryz.f191]
 have z0 := d191_at
 exact Wk
theorem ok191 (fu : Nat) (x1 : T_soft_number) (r) (h : soft_number_full fu x1 = some r) : PureOK Tryz.prog 191 [.agg (c_T_soft_number x1)] (e191 r) := pureT mixed [(C140 fu).ct] (ids := [140]) rfl (by decide) i191 (C := noC) (ci := fun cp => noI) (fun cp ok => noI_ok) (fun cp H => w191 cp fu x1 (u140 H.1)) h
open Aw (d119)
def d119_at := by have h := tabL Aw.d119.eq_1; simp only [AllAt, Nat.zero_add, Nat.reduceAdd] at h; exact h
theorem i119 : finfo Tryz.prog 119 d119 = some ⟨bodyOf Tryz.f119, [.tmp 6], [24]⟩ := finfo_at Tryz.func119 rfl (by kernel_rfl) (by kernel_rfl)
def e119 : Int → AV := fun r => .v (.int .u32 r)
structure K191 (fu : Nat) (cp : CallP) : Prop where
 ap : ∀ {a0 : T_soft_number} {r}, soft_number_full fu a0 = some r → cp 191 [.agg (c_T_soft_number a0)] = some (.agg [.v (.bool r.fneg), .v (.bool r.fnan), .v (.bool r.finf), .v (.int .i64 r.fexp), .v (.int .u64 r.fsig)])
noncomputable def C191 (fu : Nat) : Cm Tryz.prog T_soft_number T_soft_number := ⟨191, fun t => [.agg (c_T_soft_number t)], fun t => soft_number_full fu t, e191, fun t b h => ok191 fu t  b h, Zi⟩
theorem u191 {fu : Nat} {cp : CallP} (H : Hit cp (C191 fu).ct) : K191 fu cp := ⟨fun {a0 r} h => (C191 fu).at H a0 r h⟩
def soft_DivBy.j2 : LJ 2 20 Unit Unit := ⟨fun r t e => [(0, er e 0), (7, er e 7), (8, er e 8), (9, er e 9)], fun r t h => [((0, 7, 0), bs (bs (hr h (0, 7, 0)) 1 (.v (.bool false))) 2 (.v (.bool false))), ((0, 8, 0), bs (bs (hr h (0, 8, 0)) 1 (.v (.bool false))) 2 (.v (.bool false)))]⟩
def soft_DivBy.j1 : LJ 1 1 Unit (Bool × Bool × Bool × Bool) := ⟨fun r t e => [(0, er e 0), (7, er e 7), (8, er e 8), (9, er e 9), (10, .v (.bool t.2.2.1)), (11, .v (.bool t.2.2.2))], fun r t h => [((0, 7, 0), bs (hr h (0, 7, 0)) 2 (.v (.bool t.1))), ((0, 8, 0), bs (hr h (0, 8, 0)) 2 (.v (.bool t.2.1)))]⟩
set_option maxHeartbeats 20000000 in
open soft_DivBy in
theorem w119 (cp : CallP) (fu : Nat) (x1 : Int) (x2 : Int) (x3 : Int) (H1 : K68 fu cp) (H2 : K139 fu cp) (H3 : K191 fu cp) (H4 : K70 fu cp) : J (go Tryz.prog noC cp noI 0 [] d119 fu (fin Tryz.prog [.tmp 6] [24]) (bodyOf Tryz.f119) (initE 0 [.v (.int .i64 x1), .v (.int .u32 x2), .v (.int .u32 x3)]) [] []) (soft_DivBy fu x1 x2 x3) e119 := by
 unfold soft_DivBy e119
 have da := d119_at
 conv => arg 1; simp only [bodyOf, Tryz.f119]
 have z0 := d119_at
 exact Wk
theorem ok119 (fu : Nat) (x1 : Int) (x2 : Int) (x3 : Int) (r) (h : soft_DivBy fu x1 x2 x3 = some r) : PureOK Tryz.prog 119 [.v (.int .i64 x1), .v (.int .u32 x2), .v (.int .u32 x3)] (e119 r) := pureT mixed [(C68 fu).ct, (C139 fu).ct, (C191 fu).ct, (C70 fu).ct] (ids := [68, 139, 191, 70]) rfl (by decide) i119 (C := noC) (ci := fun cp => noI) (fun cp ok => noI_ok) (fun cp H => w119 cp fu x1 x2 x3 (u68 H.1) (u139 H.2.1) (u191 H.2.2.1) (u70 H.2.2.2.1)) h
open Aw (d53)
def d53_at := by have h := tabL Aw.d53.eq_1; simp only [AllAt, Nat.zero_add, Nat.reduceAdd] at h; exact h
theorem i53 : finfo Tryz.prog 53 d53 = some ⟨bodyOf Tryz.f53, [.tmp 4], [24]⟩ := finfo_at Tryz.func53 rfl (by kernel_rfl) (by kernel_rfl)
def e53 : Int → AV := fun r => .v (.int .u32 r)
structure K119 (fu : Nat) (cp : CallP) : Prop where
 ap : ∀ {a0 : Int} {a1 : Int} {a2 : Int} {r}, soft_DivBy fu a0 a1 a2 = some r → cp 119 [.v (.int .i64 a0), .v (.int .u32 a1), .v (.int .u32 a2)] = some (.v (.int .u32 r))
noncomputable def C119 (fu : Nat) : Cm Tryz.prog (Int × Int × Int) Int := ⟨119, fun t => [.v (.int .i64 t.1), .v (.int .u32 t.2.1), .v (.int .u32 t.2.2)], fun t => soft_DivBy fu t.1 t.2.1 t.2.2, e119, fun t b h => ok119 fu t.1 t.2.1 t.2.2  b h, Zi⟩
theorem u119 {fu : Nat} {cp : CallP} (H : Hit cp (C119 fu).ct) : K119 fu cp := ⟨fun {a0 a1 a2 r} h => (C119 fu).at H (a0, a1, a2) r h⟩
set_option maxHeartbeats 20000000 in
theorem w53 (cp : CallP) (fu : Nat) (x1 : Int) (x2 : Int) (H1 : K119 fu cp) : J (go Tryz.prog noC cp noI 0 [] d53 fu (fin Tryz.prog [.tmp 4] [24]) (bodyOf Tryz.f53) (initE 0 [.v (.int .u32 x1), .v (.int .u32 x2)]) [] []) (soft_Div fu x1 x2) e53 := by
 unfold soft_Div e53
 have da := d53_at
 conv => arg 1; simp only [bodyOf, Tryz.f53]
 have z0 := d53_at
 exact Wk
theorem ok53 (fu : Nat) (x1 : Int) (x2 : Int) (r) (h : soft_Div fu x1 x2 = some r) : PureOK Tryz.prog 53 [.v (.int .u32 x1), .v (.int .u32 x2)] (e53 r) := pureT mixed [(C119 fu).ct] (ids := [119]) rfl (by decide) i53 (C := noC) (ci := fun cp => noI) (fun cp ok => noI_ok) (fun cp H => w53 cp fu x1 x2 (u119 H.1)) h
def d61 : List (Nat × List Nat) := [(0, [2]), (0, []), (0, [0, 3, 4, 5, 6, 7, 8])]
def d61_at := by have h := tabL d61.eq_1; simp only [AllAt, Nat.zero_add, Nat.reduceAdd] at h; exact h
theorem i61 : finfo Tryz.prog 61 d61 = some ⟨bodyOf Tryz.f61, [.tmp 2], [24]⟩ := finfo_at Tryz.func61 rfl (by kernel_rfl) (by kernel_rfl)
def e61 : Int → AV := fun r => .v (.int .u32 r)
structure K9 (fu : Nat) (cp : CallP) : Prop where
 ap : ∀ {a0 : List Int} {r}, reduce_Sum fu a0 = some r → cp 9 [.arr a0.length (lm (ik .u32) a0)] = some (.v (.int .u32 r))
noncomputable def C9 (fu : Nat) : Cm Tryz.prog (List Int) Int := ⟨9, fun t => [.arr t.length (lm (ik .u32) t)], fun t => reduce_Sum fu t, e9, fun t b h => ok9 fu t  b h, Zi⟩
theorem u9 {fu : Nat} {cp : CallP} (H : Hit cp (C9 fu).ct) : K9 fu cp := ⟨fun {a0 r} h => (C9 fu).at H a0 r h⟩
structure K57 (fu : Nat) (cp : CallP) : Prop where
 ap : ∀ {a0 : Int} {r}, round_FromInt fu a0 = some r → cp 57 [.v (.int .i64 a0)] = some (.v (.int .u32 r))
noncomputable def C57 (fu : Nat) : Cm Tryz.prog Int Int := ⟨57, fun t => [.v (.int .i64 t)], fun t => round_FromInt fu t, e57, fun t b h => ok57 fu t  b h, Zi⟩
theorem u57 {fu : Nat} {cp : CallP} (H : Hit cp (C57 fu).ct) : K57 fu cp := ⟨fun {a0 r} h => (C57 fu).at H a0 r h⟩
structure K53 (fu : Nat) (cp : CallP) : Prop where
 ap : ∀ {a0 : Int} {a1 : Int} {r}, soft_Div fu a0 a1 = some r → cp 53 [.v (.int .u32 a0), .v (.int .u32 a1)] = some (.v (.int .u32 r))
noncomputable def C53 (fu : Nat) : Cm Tryz.prog (Int × Int) Int := ⟨53, fun t => [.v (.int .u32 t.1), .v (.int .u32 t.2)], fun t => soft_Div fu t.1 t.2, e53, fun t b h => ok53 fu t.1 t.2  b h, Zi⟩
theorem u53 {fu : Nat} {cp : CallP} (H : Hit cp (C53 fu).ct) : K53 fu cp := ⟨fun {a0 a1 r} h => (C53 fu).at H (a0, a1) r h⟩
set_option maxHeartbeats 20000000 in
theorem w61 (cp : CallP) (fu : Nat) (x1 : List Int) (H1 : K9 fu cp) (H2 : K57 fu cp) (H3 : K53 fu cp) : J (go Tryz.prog noC cp noI 0 [] d61 fu (fin Tryz.prog [.tmp 2] [24]) (bodyOf Tryz.f61) (initE 0 [.arr x1.length (lm (ik .u32) x1)]) [] []) (reduce_mean fu x1) e61 := by
 unfold reduce_mean e61
 have da := d61_at
 conv => arg 1; simp only [bodyOf, Tryz.f61]
 have z0 := d61_at
 exact Wk
theorem ok61 (fu : Nat) (x1 : List Int) (r) (h : reduce_mean fu x1 = some r) : PureOK Tryz.prog 61 [.arr x1.length (lm (ik .u32) x1)] (e61 r) := pureT mixed [(C9 fu).ct, (C57 fu).ct, (C53 fu).ct] (ids := [9, 57, 53]) rfl (by decide) i61 (C := noC) (ci := fun cp => noI) (fun cp ok => noI_ok) (fun cp H => w61 cp fu x1 (u9 H.1) (u57 H.2.1) (u53 H.2.2.1)) h
def d65 : List (Nat × List Nat) := [(0, [4]), (0, [0, 8, 9, 10]), (0, [1000005]), (0, []), (0, [1]), (0, []), (0, []), (0, []), (0, [12, 13]), (0, []), (0, [7, 14, 15, 16, 17, 18, 19, 20]), (0, []), (0, [21]), (0, []), (0, [5, 22])]
def d65_at := by have h := tabL d65.eq_1; simp only [AllAt, Nat.zero_add, Nat.reduceAdd] at h; exact h
theorem i65 : finfo Tryz.prog 65 d65 = some ⟨bodyOf Tryz.f65, [.tmp 4], [28]⟩ := finfo_at Tryz.func65 rfl (by kernel_rfl) (by kernel_rfl)
def e65 : (List Int) → AV := fun r => .fresh 1 r.length (lm (ik .i64) r)
def reduce_at_int64.m1 : LJ 1 6 Unit ((List Int) × Int) := ⟨fun r s e => [(0, er e 0), (5, .own (0, 5, 77) 0 s.1.length s.1.length), (8, er e 8), (9, er e 9), (10, .v (.int .i64 s.2))], fun r s h => [((0, 5, 77), .sl true true 1 s.1.length (lm (ik .i64) s.1))]⟩
set_option maxHeartbeats 20000000 in
open reduce_at_int64 in
theorem w65 (cp : CallP) (fu : Nat) (x1 : List Int) (x2 : List Int)  : J (go Tryz.prog noC cp noI 0 [] d65 fu (fin Tryz.prog [.tmp 4] [28]) (bodyOf Tryz.f65) (initE 0 [.arr x1.length (lm (ik .i64) x1), .arr x2.length (lm (ik .i64) x2)]) [] []) (reduce_at_int64 fu x1 x2) e65 := by
 unfold reduce_at_int64 e65
 have da := d65_at
 conv => arg 1; simp only [bodyOf, Tryz.f65]
 have z0 := d65_at
 exact Wk
theorem ok65 (fu : Nat) (x1 : List Int) (x2 : List Int) (r) (h : reduce_at_int64 fu x1 x2 = some r) : PureOK Tryz.prog 65 [.arr x1.length (lm (ik .i64) x1), .arr x2.length (lm (ik .i64) x2)] (e65 r) := pureT mixed [] (ids := []) rfl (by decide) i65 (C := noC) (ci := fun cp => noI) (fun cp ok => noI_ok) (fun cp H => w65 cp fu x1 x2 ) h
def d131 : List (Nat × List Nat) := [(0, [6]), (0, [2, 9, 10, 11]), (0, [0]), (0, []), (0, []), (0, []), (0, [13, 14]), (0, []), (0, [8, 15, 16, 17, 18]), (0, []), (0, [19]), (0, []), (0, [1, 20])]
def d131_at := by have h := tabL d131.eq_1; simp only [AllAt, Nat.zero_add, Nat.reduceAdd] at h; exact h
theorem i131 : finfo Tryz.prog 131 d131 = some ⟨bodyOf Tryz.f131, [.tmp 6], [2]⟩ := finfo_at Tryz.func131 rfl (by kernel_rfl) (by kernel_rfl)
def e131 : Int → AV := fun r => .v (.int .i64 r)
set_option maxHeartbeats 20000000 in
theorem w131 (cp : CallP) (fu : Nat) (x1 : List Int) (x2 : Int) (p2 : Int → Int → Option Int) (fv_p2 : FuncId) (ca_p2 : List AV) (cap_p2 : Capt ca_p2) (hp_p2 : ∀ (y0 : Int) (y1 : Int) r, p2 y0 y1 = some r → cp fv_p2 ((.v (.int .i64 y0)) :: (.v (.int .i64 y1)) :: ca_p2) = some (.v (.int .i64 r))) : J (go Tryz.prog noC cp noI 0 [] d131 fu (fin Tryz.prog [.tmp 6] [2]) (bodyOf Tryz.f131) (initE 0 [.arr x1.length (lm (ik .i64) x1), .v (.int .i64 x2), .fn fv_p2 [] ca_p2]) [] []) (reduce_fold_int64 fu x1 x2 p2) e131 := by
 unfold reduce_fold_int64 e131
 have da := d131_at
 have c4_p2 := fun g => (cap_p2.1 g).1; have c3_p2 := fun g => (cap_p2.1 g).2.1; have b4_p2 := fun g => (cap_p2.1 g).2.2.1; have b3_p2 := fun g => (cap_p2.1 g).2.2.2; have nm_p2 := cap_p2.2
 conv => arg 1; simp (disch := first | exact Zd | fail) only [bodyOf, Tryz.f131, ZZ, d131_at, simprocAttr, c4_p2, c3_p2, b4_p2, b3_p2, nm_p2]
 refine J.eq go_seq ?_
 conv => arg 1; simp (disch := first | exact Zd | fail) only [ZZ, d131_at, simprocAttr, c4_p2, c3_p2, b4_p2, b3_p2, nm_p2]
 unfold reduce_fold_int64.W1
 refine J.loop (fun (s : Int × Int) => ([(1, .v (.int .i64 s.1)), (2, .fn fv_p2 [] ca_p2), (9, .arr x1.length (lm (ik .i64) x1)), (10, .v (.int .i64 (x1.length : Int))), (11, .v (.int .i64 s.2))], [])) (fun next s => reduce_fold_int64.L1 fu p2 x1 (fun x5 x6 => next (x5, x6)) s.1 s.2) (s0 := (x2, 0)) ?_ ?_ ?_
 ·exact Ze
 ·exact Zh
 rintro next k1 hn1 ⟨x5, x6⟩
 let nx1 : Int → Int → Option Int := (fun x5 x6 => next (x5, x6))
 show J _ (reduce_fold_int64.L1 fu p2 x1 nx1 x5 x6) _
 unfold reduce_fold_int64.L1
 conv => arg 1; simp (disch := first | exact Zd | fail) only [ZZ, d131_at, simprocAttr, c4_p2, c3_p2, b4_p2, b3_p2, nm_p2]
 refine J.eq go_seq ?_
 conv => arg 1; simp (disch := first | exact Zd | fail) only [ZZ, d131_at, simprocAttr, c4_p2, c3_p2, b4_p2, b3_p2, nm_p2]
 refine J.ite (fun h1 => ?_) (fun h1 => ?_)
 ·have h1' := decide_eq_true h1
  have h1'' : decide ((x1.length : Int) ≤ x6) = false := decide_eq_false (by omega)
  conv => arg 1; simp (disch := first | exact Zd | fail) only [ZZ, d131_at, simprocAttr, c4_p2, c3_p2, b4_p2, b3_p2, nm_p2, h1'', h1']
  refine J.eq ret_seq ?_
  refine J.eq go_seq ?_
  refine J.at fun x9 h2 h3 h4 => ?_
  refine J.bind fun x10 h5 => ?_
  have e_h5 := hp_p2 _ _ _ h5
  try simp only [NN, NT, LN, simprocAttr, DT] at e_h5
  conv => arg 1; simp (disch := first | exact Zd | fail) only [ZZ, d131_at, simprocAttr, c4_p2, c3_p2, b4_p2, b3_p2, nm_p2, h1'', h1', lm_ik h4, e_h5]
  refine J.eq ret_seq ?_
  conv => arg 1; simp (disch := first | exact Zd | fail) only [ZZ, d131_at, simprocAttr, c4_p2, c3_p2, b4_p2, b3_p2, nm_p2, h1'', h1', lm_ik h4, e_h5]
  refine J.next (s := (x10, wk .i64 (x6 + 1))) hn1 ?_ ?_
  ·exact Ze
  ·exact Zh
 ·have h1' := decide_eq_false h1
  have h1'' : decide ((x1.length : Int) ≤ x6) = true := decide_eq_true (by omega)
  conv => arg 1; simp (disch := first | exact Zd | fail) only [ZZ, d131_at, simprocAttr, c4_p2, c3_p2, b4_p2, b3_p2, nm_p2, h1'', h1']
  refine J.eq ret_seq ?_
  refine J.some ?_
  simp (maxSteps := 20000000) (disch := first | exact Zd | fail) only [ZZ, d131_at, simprocAttr, c4_p2, c3_p2, b4_p2, b3_p2, nm_p2, h1'', h1', FN]
noncomputable def t131 (fu : Nat) (x1 : List Int) (x2 : Int) (p2 : Int → Int → Option Int) (fv_p2 : FuncId) (ca_p2 : List AV) : CallP := orE fv_p2 (mkC (fun (t : Int × Int) => ((.v (.int .i64 t.1)) :: (.v (.int .i64 t.2)) :: ca_p2 : List AV)) (fun t => p2 t.1 t.2) (fun r => .v (.int .i64 r))) (noP)
theorem t131_ok (fu : Nat) (x1 : List Int) (x2 : Int) (p2 : Int → Int → Option Int) (fv_p2 : FuncId) (ca_p2 : List AV) (cap_p2 : Capt ca_p2) (hp_p2 : ∀ (y0 : Int) (y1 : Int) r, p2 y0 y1 = some r → PureOK Tryz.prog fv_p2 ((.v (.int .i64 y0)) :: (.v (.int .i64 y1)) :: ca_p2) (.v (.int .i64 r))) : CpOK Tryz.prog (t131 fu x1 x2 p2 fv_p2 ca_p2) := orE_ok (noP_ok) (mkC_ok (fun t b h => hp_p2 t.1 t.2 b h))
theorem ok131 (fu : Nat) (x1 : List Int) (x2 : Int) (p2 : Int → Int → Option Int) (fv_p2 : FuncId) (ca_p2 : List AV) (cap_p2 : Capt ca_p2) (hp_p2 : ∀ (y0 : Int) (y1 : Int) r, p2 y0 y1 = some r → PureOK Tryz.prog fv_p2 ((.v (.int .i64 y0)) :: (.v (.int .i64 y1)) :: ca_p2) (.v (.int .i64 r))) (r) (h : reduce_fold_int64 fu x1 x2 p2 = some r) : PureOK Tryz.prog 131 [.arr x1.length (lm (ik .i64) x1), .v (.int .i64 x2), .fn fv_p2 [] ca_p2] (e131 r) :=
  pure_J mixed (cp := t131 fu x1 x2 p2 fv_p2 ca_p2) (t131_ok fu x1 x2 p2 fv_p2 ca_p2 cap_p2 hp_p2) noI_ok i131 (w131 _ fu x1 x2 p2 fv_p2 ca_p2 cap_p2 (fun y0 y1 r h => orE_hit (mkC_at (a := (y0, y1)) (by intro a b h; first | (exact rfl) | (simp only [INJ, IJ] at h; first | exact h | (simp_all [Prod.ext_iff]) )) h)) ) h
def d138 : List (Nat × List Nat) := [(0, [4]), (0, []), (0, [0, 1, 5, 6, 7])]
def d138_at := by have h := tabL d138.eq_1; simp only [AllAt, Nat.zero_add, Nat.reduceAdd] at h; exact h
theorem i138 : finfo Tryz.prog 138 d138 = some ⟨bodyOf Tryz.f138, [.tmp 4], [2]⟩ := finfo_at Tryz.func138 rfl (by kernel_rfl) (by kernel_rfl)
def e138 : Int → AV := fun r => .v (.int .i64 r)
set_option maxHeartbeats 20000000 in
theorem w138 (cp : CallP) (fu : Nat) (x1 : Int) (x2 : Int)  : J (go Tryz.prog noC cp noI 0 [] d138 fu (fin Tryz.prog [.tmp 4] [2]) (bodyOf Tryz.f138) (initE 0 [.v (.int .i64 x1), .v (.int .i64 x2)]) [] []) (reduce_intOf_4_1 fu x1 x2) e138 := by
 unfold reduce_intOf_4_1 e138
 have da := d138_at
 conv => arg 1; simp only [bodyOf, Tryz.f138]
 have z0 := d138_at
 exact Wk
theorem ok138 (fu : Nat) (x1 : Int) (x2 : Int) (r) (h : reduce_intOf_4_1 fu x1 x2 = some r) : PureOK Tryz.prog 138 [.v (.int .i64 x1), .v (.int .i64 x2)] (e138 r) := pureT mixed [] (ids := []) rfl (by decide) i138 (C := noC) (ci := fun cp => noI) (fun cp ok => noI_ok) (fun cp H => w138 cp fu x1 x2 ) h
def d137 : List (Nat × List Nat) := [(0, [2]), (0, []), (0, [0, 3, 4])]
def d137_at := by have h := tabL d137.eq_1; simp only [AllAt, Nat.zero_add, Nat.reduceAdd] at h; exact h
theorem i137 : finfo Tryz.prog 137 d137 = some ⟨bodyOf Tryz.f137, [.tmp 2], [2]⟩ := finfo_at Tryz.func137 rfl (by kernel_rfl) (by kernel_rfl)
def e137 : Int → AV := fun r => .v (.int .i64 r)
structure K131 (fu : Nat) (cp : CallP) : Prop where
 ap : ∀ {a0 : List Int} {a1 : Int} {r}, reduce_fold_int64 fu a0 a1 (fun y0 y1 => reduce_intOf_4_1 fu y0 y1) = some r → cp 131 [.arr a0.length (lm (ik .i64) a0), .v (.int .i64 a1), .fn 138 [] []] = some (.v (.int .i64 r))
noncomputable def C131 (fu : Nat) : Cm Tryz.prog ((List Int) × Int) Int := ⟨131, fun t => [.arr t.1.length (lm (ik .i64) t.1), .v (.int .i64 t.2), .fn 138 [] []], fun t => reduce_fold_int64 fu t.1 t.2 (fun y0 y1 => reduce_intOf_4_1 fu y0 y1), e131, fun t b h => ok131 fu t.1 t.2 (fun y0 y1 => reduce_intOf_4_1 fu y0 y1) 138 [] Capt.nil (fun y0 y1 r h => ok138 fu y0 y1  r h) b h, Zi⟩
theorem u131 {fu : Nat} {cp : CallP} (H : Hit cp (C131 fu).ct) : K131 fu cp := ⟨fun {a0 a1 r} h => (C131 fu).at H (a0, a1) r h⟩
set_option maxHeartbeats 20000000 in
theorem w137 (cp : CallP) (fu : Nat) (x1 : List Int) (H1 : K131 fu cp) : J (go Tryz.prog noC cp noI 0 [] d137 fu (fin Tryz.prog [.tmp 2] [2]) (bodyOf Tryz.f137) (initE 0 [.arr x1.length (lm (ik .i64) x1)]) [] []) (reduce_intOf_4 fu x1) e137 := by
 unfold reduce_intOf_4 e137
 have da := d137_at
 conv => arg 1; simp only [bodyOf, Tryz.f137]
 have z0 := d137_at
 exact Wk
theorem ok137 (fu : Nat) (x1 : List Int) (r) (h : reduce_intOf_4 fu x1 = some r) : PureOK Tryz.prog 137 [.arr x1.length (lm (ik .i64) x1)] (e137 r) := pureT mixed [(C131 fu).ct] (ids := [131]) rfl (by decide) i137 (C := noC) (ci := fun cp => noI) (fun cp ok => noI_ok) (fun cp H => w137 cp fu x1 (u131 H.1)) h
open Aw (d55)
def d55_at := by have h := tabL Aw.d55.eq_1; simp only [AllAt, Nat.zero_add, Nat.reduceAdd] at h; exact h
theorem i55 : finfo Tryz.prog 55 d55 = some ⟨bodyOf Tryz.f55, [.tmp 4, .tmp 5], [27, 32]⟩ := finfo_at Tryz.func55 rfl (by kernel_rfl) (by kernel_rfl)
def e55 : ((List Int) × Int) → AV := fun r => .tuple [.fresh 1 r.1.length (lm (ik .i64) r.1), .v (.int .i64 r.2)]
def shape_Index.m1 : LJ 1 16 Unit ((List Int) × Int × Int) := ⟨fun r s e => [(1, .v (.int .i64 s.2.1)), (8, .own (0, 28, 0) 0 s.1.length s.1.length), (30, er e 30), (31, er e 31), (32, .v (.int .i64 s.2.2))], fun r s h => [((0, 28, 0), .sl true true 1 s.1.length (lm (ik .i64) s.1)), ((0, 30, 0), hr h (0, 30, 0))]⟩
def shape_Index.j1 : LJ 1 12 Unit Unit := ⟨fun r t e => [(0, er e 0), (1, er e 1)], fun r t h => []⟩
set_option maxHeartbeats 20000000 in
open shape_Index in
theorem w55 (cp : CallP) (fu : Nat) (x1 : List Int) (x2 : Int) (H1 : K39 fu cp) (H2 : K120 fu cp) : J (go Tryz.prog noC cp noI 0 [] d55 fu (fin Tryz.prog [.tmp 4, .tmp 5] [27, 32]) (bodyOf Tryz.f55) (initE 0 [.arr x1.length (lm (ik .i64) x1), .v (.int .i64 x2)]) [] []) (shape_Index fu x1 x2) e55 := by
 unfold shape_Index e55
 have da := d55_at
 conv => arg 1; simp only [bodyOf, Tryz.f55]
 have z0 := d55_at
 exact Wk
theorem ok55 (fu : Nat) (x1 : List Int) (x2 : Int) (r) (h : shape_Index fu x1 x2 = some r) : PureOK Tryz.prog 55 [.arr x1.length (lm (ik .i64) x1), .v (.int .i64 x2)] (e55 r) := pureT mixed [(C39 fu).ct, (C120 fu).ct] (ids := [39, 120]) rfl (by decide) i55 (C := noC) (ci := fun cp => noI) (fun cp ok => noI_ok) (fun cp H => w55 cp fu x1 x2 (u39 H.1) (u120 H.2.1)) h
open Aw (d121)
def d121_at := by have h := tabL Aw.d121.eq_1; simp only [AllAt, Nat.zero_add, Nat.reduceAdd] at h; exact h
theorem i121 : finfo Tryz.prog 121 d121 = some ⟨bodyOf Tryz.f121, [.tmp 6], [3]⟩ := finfo_at Tryz.func121 rfl (by kernel_rfl) (by kernel_rfl)
def e121 : Int → AV := fun r => .v (.int .i64 r)
set_option maxHeartbeats 20000000 in
theorem w121 (cp : CallP) (fu : Nat) (x1 : List Int) (x2 : Int) (x3 : Int)  : J (go Tryz.prog noC cp noI 0 [] d121 fu (fin Tryz.prog [.tmp 6] [3]) (bodyOf Tryz.f121) (initE 0 [.arr x1.length (lm (ik .i64) x1), .v (.int .i64 x2), .v (.int .i64 x3)]) [] []) (reduce_number fu x1 x2 x3) e121 := by
 unfold reduce_number e121
 have da := d121_at
 conv => arg 1; simp only [bodyOf, Tryz.f121]
 have z0 := d121_at
 exact Wk
theorem ok121 (fu : Nat) (x1 : List Int) (x2 : Int) (x3 : Int) (r) (h : reduce_number fu x1 x2 x3 = some r) : PureOK Tryz.prog 121 [.arr x1.length (lm (ik .i64) x1), .v (.int .i64 x2), .v (.int .i64 x3)] (e121 r) := pureT mixed [] (ids := []) rfl (by decide) i121 (C := noC) (ci := fun cp => noI) (fun cp ok => noI_ok) (fun cp H => w121 cp fu x1 x2 x3 ) h
open Aw (d56)
def d56_at := by have h := tabL Aw.d56.eq_1; simp only [AllAt, Nat.zero_add, Nat.reduceAdd] at h; exact h
theorem i56 : finfo Tryz.prog 56 d56 = some ⟨bodyOf Tryz.f56, [.tmp 6], [27]⟩ := finfo_at Tryz.func56 rfl (by kernel_rfl) (by kernel_rfl)
def e56 : (List Int) → AV := fun r => .fresh 1 r.length (lm (ik .i64) r)
structure K121 (fu : Nat) (cp : CallP) : Prop where
 ap : ∀ {a0 : List Int} {a1 : Int} {a2 : Int} {r}, reduce_number fu a0 a1 a2 = some r → cp 121 [.arr a0.length (lm (ik .i64) a0), .v (.int .i64 a1), .v (.int .i64 a2)] = some (.v (.int .i64 r))
noncomputable def C121 (fu : Nat) : Cm Tryz.prog ((List Int) × Int × Int) Int := ⟨121, fun t => [.arr t.1.length (lm (ik .i64) t.1), .v (.int .i64 t.2.1), .v (.int .i64 t.2.2)], fun t => reduce_number fu t.1 t.2.1 t.2.2, e121, fun t b h => ok121 fu t.1 t.2.1 t.2.2  b h, Zi⟩
theorem u121 {fu : Nat} {cp : CallP} (H : Hit cp (C121 fu).ct) : K121 fu cp := ⟨fun {a0 a1 a2 r} h => (C121 fu).at H (a0, a1, a2) r h⟩
def reduce_work_line.m1 : LJ 1 14 Unit ((List Int) × Int) := ⟨fun r s e => [(2, er e 2), (8, er e 8), (10, er e 10), (11, er e 11), (13, er e 13), (15, .own (0, 15, 77) 0 s.1.length s.1.length), (66, er e 66), (67, .v (.int .i64 s.2))], fun r s h => [((0, 15, 77), .sl true true 1 s.1.length (lm (ik .i64) s.1))]⟩
def reduce_work_line.m2 : LJ 2 14 Unit ((List Int) × Int) := ⟨fun r s e => [(2, er e 2), (8, er e 8), (10, er e 10), (11, er e 11), (13, er e 13), (15, .own (0, 15, 77) 0 s.1.length s.1.length), (66, er e 66), (67, .v (.int .i64 s.2))], fun r s h => [((0, 15, 77), .sl true true 1 s.1.length (lm (ik .i64) s.1))]⟩
set_option maxHeartbeats 20000000 in
open reduce_work_line in
theorem w56 (cp : CallP) (fu : Nat) (x1 : T_reduce_work) (x2 : Int) (x3 : Int) (H1 : K121 fu cp) (H2 : K122 fu cp) : J (go Tryz.prog noC cp noI 0 [] d56 fu (fin Tryz.prog [.tmp 6] [27]) (bodyOf Tryz.f56) (initE 0 [.ref (c_T_reduce_work x1) 0, .v (.int .i64 x2), .v (.int .i64 x3)]) [] []) (reduce_work_line fu x1 x2 x3) e56 := by
 unfold reduce_work_line e56
 have da := d56_at
 conv => arg 1; simp only [bodyOf, Tryz.f56]
 have z0 := d56_at
 exact Wk
theorem ok56 (fu : Nat) (x1 : T_reduce_work) (x2 : Int) (x3 : Int) (r) (h : reduce_work_line fu x1 x2 x3 = some r) : PureOK Tryz.prog 56 [.ref (c_T_reduce_work x1) 0, .v (.int .i64 x2), .v (.int .i64 x3)] (e56 r) := pureT mixed [(C121 fu).ct, (C122 fu).ct] (ids := [121, 122]) rfl (by decide) i56 (C := noC) (ci := fun cp => noI) (fun cp ok => noI_ok) (fun cp H => w56 cp fu x1 x2 x3 (u121 H.1) (u122 H.2.1)) h
open Aw (d33)
def d33_at := by have h := tabL Aw.d33.eq_1; simp only [AllAt, Nat.zero_add, Nat.reduceAdd] at h; exact h
noncomputable def b33 : Code := bodyOf Tryz.f33
theorem go_b33 {C : Cfg} {cp : CallP} {ci : CallI} {lvl : Nat} {prot : List Id} {D : List (Nat × List Nat)} {n : Nat} {K : KK} {e : Env} {h : Heap} {fs : List Fr} : go Tryz.prog C cp ci lvl prot D n K b33 e h fs = go Tryz.prog C cp ci lvl prot D n K (bodyOf Tryz.f33) e h fs := rfl
theorem i33 : finfo Tryz.prog 33 d33 = some ⟨b33, [], []⟩ := finfo_at Tryz.func33 rfl (by kernel_rfl) (by kernel_rfl)
open Aw (d47)
def d47_at := by have h := tabL Aw.d47.eq_1; simp only [AllAt, Nat.zero_add, Nat.reduceAdd] at h; exact h
noncomputable def b47 : Code := bodyOf Tryz.f47
theorem go_b47 {C : Cfg} {cp : CallP} {ci : CallI} {lvl : Nat} {prot : List Id} {D : List (Nat × List Nat)} {n : Nat} {K : KK} {e : Env} {h : Heap} {fs : List Fr} : go Tryz.prog C cp ci lvl prot D n K b47 e h fs = go Tryz.prog C cp ci lvl prot D n K (bodyOf Tryz.f47) e h fs := rfl
theorem i47 : finfo Tryz.prog 47 d47 = some ⟨b47, [.tmp 2], [74]⟩ := finfo_at Tryz.func47 rfl (by kernel_rfl) (by kernel_rfl)
open Aw (d30)
def d30_at := by have h := tabL Aw.d30.eq_1; simp only [AllAt, Nat.zero_add, Nat.reduceAdd] at h; exact h
noncomputable def b30 : Code := bodyOf Tryz.f30
theorem go_b30 {C : Cfg} {cp : CallP} {ci : CallI} {lvl : Nat} {prot : List Id} {D : List (Nat × List Nat)} {n : Nat} {K : KK} {e : Env} {h : Heap} {fs : List Fr} : go Tryz.prog C cp ci lvl prot D n K b30 e h fs = go Tryz.prog C cp ci lvl prot D n K (bodyOf Tryz.f30) e h fs := rfl
theorem i30 : finfo Tryz.prog 30 d30 = some ⟨b30, [], []⟩ := finfo_at Tryz.func30 rfl (by kernel_rfl) (by kernel_rfl)
open Aw (d13)
def d13_at := by have h := tabL Aw.d13.eq_1; simp only [AllAt, Nat.zero_add, Nat.reduceAdd] at h; exact h
theorem i13 : finfo Tryz.prog 13 d13 = some ⟨bodyOf Tryz.f13, [.cell 6 31, .tmp 7], [31, 32]⟩ := finfo_at Tryz.func13 rfl (by kernel_rfl) (by kernel_rfl)
def e13 : (T_Tensor × Int) → AV := fun r => .tuple [.agg [.v (.int .i64 r.1.fType), .arr r.1.fDims.length (lm (ik .i64) r.1.fDims), .arr r.1.fF.length (lm (ik .u32) r.1.fF), .arr r.1.fI.length (lm (ik .i64) r.1.fI), .arr r.1.fB.length (lm (bk) r.1.fB)], .v (.int .i64 r.2)]
structure K22 (fu : Nat) (cp : CallP) : Prop where
 ap : ∀ {a0 : Int} {r}, reduce_Has fu a0 = some r → cp 22 [.v (.int .i64 a0)] = some (.v (.bool r))
noncomputable def C22 (fu : Nat) : Cm Tryz.prog Int Bool := ⟨22, fun t => [.v (.int .i64 t)], fun t => reduce_Has fu t, e22, fun t b h => ok22 fu t  b h, Zi⟩
theorem u22 {fu : Nat} {cp : CallP} (H : Hit cp (C22 fu).ct) : K22 fu cp := ⟨fun {a0 r} h => (C22 fu).at H a0 r h⟩
structure K24 (fu : Nat) (cp : CallP) : Prop where
 ap : ∀ {a0 : T_Tensor} {r}, tens_Canon fu a0 = some r → cp 24 [.agg (c_T_Tensor a0)] = some (.agg [.v (.int .i64 r.fType), .fresh 1 r.fDims.length (lm (ik .i64) r.fDims), .fresh 1 r.fF.length (lm (ik .u32) r.fF), .fresh 1 r.fI.length (lm (ik .i64) r.fI), .fresh 1 r.fB.length (lm (bk) r.fB)])
noncomputable def C24 (fu : Nat) : Cm Tryz.prog T_Tensor T_Tensor := ⟨24, fun t => [.agg (c_T_Tensor t)], fun t => tens_Canon fu t, e24, fun t b h => ok24 fu t  b h, Zi⟩
theorem u24 {fu : Nat} {cp : CallP} (H : Hit cp (C24 fu).ct) : K24 fu cp := ⟨fun {a0 r} h => (C24 fu).at H a0 r h⟩
structure K26 (fu : Nat) (cp : CallP) : Prop where
 ap : ∀ {a0 : List T_Tensor} {r}, ewise_Vals fu a0 = some r → cp 26 [.arr a0.length (fm c_T_Tensor a0)] = some (.arr r.length (fm c_T_Val r))
noncomputable def C26 (fu : Nat) : Cm Tryz.prog (List T_Tensor) (List T_Val) := ⟨26, fun t => [.arr t.length (fm c_T_Tensor t)], fun t => ewise_Vals fu t, e26, fun t b h => ok26 fu t  b h, Zi⟩
theorem u26 {fu : Nat} {cp : CallP} (H : Hit cp (C26 fu).ct) : K26 fu cp := ⟨fun {a0 r} h => (C26 fu).at H a0 r h⟩
structure K25 (fu : Nat) (cp : CallP) : Prop where
 ap : ∀ {a0 : Int} {a1 : T_Setting} {a2 : List T_Val} {a3 : Int} {r}, infer_Node fu a0 a1 a2 a3 = some r → cp 25 [.v (.int .i64 a0), .agg (c_T_Setting a1), .arr a2.length (fm c_T_Val a2), .v (.int .i64 a3)] = some (.tuple [.arr r.1.length (fm c_T_Val r.1), .v (.int .i64 r.2)])
noncomputable def C25 (fu : Nat) : Cm Tryz.prog (Int × T_Setting × (List T_Val) × Int) ((List T_Val) × Int) := ⟨25, fun t => [.v (.int .i64 t.1), .agg (c_T_Setting t.2.1), .arr t.2.2.1.length (fm c_T_Val t.2.2.1), .v (.int .i64 t.2.2.2)], fun t => infer_Node fu t.1 t.2.1 t.2.2.1 t.2.2.2, e25, fun t b h => ok25 fu t.1 t.2.1 t.2.2.1 t.2.2.2  b h, Zi⟩
theorem u25 {fu : Nat} {cp : CallP} (H : Hit cp (C25 fu).ct) : K25 fu cp := ⟨fun {a0 a1 a2 a3 r} h => (C25 fu).at H (a0, a1, a2, a3) r h⟩
structure K27 (fu : Nat) (cp : CallP) : Prop where
 ap : ∀ {a0 : Int} {a1 : List Int} {r}, tens_New fu a0 a1 = some r → cp 27 [.v (.int .i64 a0), .arr a1.length (lm (ik .i64) a1)] = some (.tuple [.agg [.v (.int .i64 r.1.fType), .fresh 1 r.1.fDims.length (lm (ik .i64) r.1.fDims), .fresh 1 r.1.fF.length (lm (ik .u32) r.1.fF), .fresh 1 r.1.fI.length (lm (ik .i64) r.1.fI), .fresh 1 r.1.fB.length (lm (bk) r.1.fB)], .v (.int .i64 r.2)])
noncomputable def C27 (fu : Nat) : Cm Tryz.prog (Int × (List Int)) (T_Tensor × Int) := ⟨27, fun t => [.v (.int .i64 t.1), .arr t.2.length (lm (ik .i64) t.2)], fun t => tens_New fu t.1 t.2, e27, fun t b h => ok27 fu t.1 t.2  b h, Zi⟩
theorem u27 {fu : Nat} {cp : CallP} (H : Hit cp (C27 fu).ct) : K27 fu cp := ⟨fun {a0 a1 r} h => (C27 fu).at H (a0, a1) r h⟩
structure K108 (fu : Nat) (cp : CallP) : Prop where
 ap : ∀ {a0 : T_reduce_work} {r}, reduce_work_over fu a0 = some r → cp 108 [.ref (c_T_reduce_work a0) 0] = some (.fresh 1 r.length (lm (bk) r))
noncomputable def C108 (fu : Nat) : Cm Tryz.prog T_reduce_work (List Bool) := ⟨108, fun t => [.ref (c_T_reduce_work t) 0], fun t => reduce_work_over fu t, e108, fun t b h => ok108 fu t  b h, Zi⟩
theorem u108 {fu : Nat} {cp : CallP} (H : Hit cp (C108 fu).ct) : K108 fu cp := ⟨fun {a0 r} h => (C108 fu).at H a0 r h⟩
structure K54 (fu : Nat) (cp : CallP) : Prop where
 ap : ∀ {a0 : List Int} {r}, shape_Strides fu a0 = some r → cp 54 [.arr a0.length (lm (ik .i64) a0)] = some (.tuple [.fresh 1 r.1.length (lm (ik .i64) r.1), .v (.int .i64 r.2)])
noncomputable def C54 (fu : Nat) : Cm Tryz.prog (List Int) ((List Int) × Int) := ⟨54, fun t => [.arr t.length (lm (ik .i64) t)], fun t => shape_Strides fu t, e54, fun t b h => ok54 fu t  b h, Zi⟩
theorem u54 {fu : Nat} {cp : CallP} (H : Hit cp (C54 fu).ct) : K54 fu cp := ⟨fun {a0 r} h => (C54 fu).at H a0 r h⟩
structure K109 (fu : Nat) (cp : CallP) : Prop where
 ap : ∀ {a0 : List Int} {a1 : List Int} {r}, reduce_places fu a0 a1 = some r → cp 109 [.arr a0.length (lm (ik .i64) a0), .arr a1.length (lm (ik .i64) a1)] = some (.arr r.length (lm (ik .i64) r))
noncomputable def C109 (fu : Nat) : Cm Tryz.prog ((List Int) × (List Int)) (List Int) := ⟨109, fun t => [.arr t.1.length (lm (ik .i64) t.1), .arr t.2.length (lm (ik .i64) t.2)], fun t => reduce_places fu t.1 t.2, e109, fun t b h => ok109 fu t.1 t.2  b h, Zi⟩
theorem u109 {fu : Nat} {cp : CallP} (H : Hit cp (C109 fu).ct) : K109 fu cp := ⟨fun {a0 a1 r} h => (C109 fu).at H (a0, a1) r h⟩
structure K49 (fu : Nat) (cp : CallP) : Prop where
 ap : ∀ {a0 : List Int} {a1 : List Int} {r}, reduce_at_uint32 fu a0 a1 = some r → cp 49 [.arr a0.length (lm (ik .u32) a0), .arr a1.length (lm (ik .i64) a1)] = some (.fresh 1 r.length (lm (ik .u32) r))
noncomputable def C49 (fu : Nat) : Cm Tryz.prog ((List Int) × (List Int)) (List Int) := ⟨49, fun t => [.arr t.1.length (lm (ik .u32) t.1), .arr t.2.length (lm (ik .i64) t.2)], fun t => reduce_at_uint32 fu t.1 t.2, e49, fun t b h => ok49 fu t.1 t.2  b h, Zi⟩
theorem u49 {fu : Nat} {cp : CallP} (H : Hit cp (C49 fu).ct) : K49 fu cp := ⟨fun {a0 a1 r} h => (C49 fu).at H (a0, a1) r h⟩
structure K61 (fu : Nat) (cp : CallP) : Prop where
 ap : ∀ {a0 : List Int} {r}, reduce_mean fu a0 = some r → cp 61 [.arr a0.length (lm (ik .u32) a0)] = some (.v (.int .u32 r))
noncomputable def C61 (fu : Nat) : Cm Tryz.prog (List Int) Int := ⟨61, fun t => [.arr t.length (lm (ik .u32) t)], fun t => reduce_mean fu t, e61, fun t b h => ok61 fu t  b h, Zi⟩
theorem u61 {fu : Nat} {cp : CallP} (H : Hit cp (C61 fu).ct) : K61 fu cp := ⟨fun {a0 r} h => (C61 fu).at H a0 r h⟩
structure K65 (fu : Nat) (cp : CallP) : Prop where
 ap : ∀ {a0 : List Int} {a1 : List Int} {r}, reduce_at_int64 fu a0 a1 = some r → cp 65 [.arr a0.length (lm (ik .i64) a0), .arr a1.length (lm (ik .i64) a1)] = some (.fresh 1 r.length (lm (ik .i64) r))
noncomputable def C65 (fu : Nat) : Cm Tryz.prog ((List Int) × (List Int)) (List Int) := ⟨65, fun t => [.arr t.1.length (lm (ik .i64) t.1), .arr t.2.length (lm (ik .i64) t.2)], fun t => reduce_at_int64 fu t.1 t.2, e65, fun t b h => ok65 fu t.1 t.2  b h, Zi⟩
theorem u65 {fu : Nat} {cp : CallP} (H : Hit cp (C65 fu).ct) : K65 fu cp := ⟨fun {a0 a1 r} h => (C65 fu).at H (a0, a1) r h⟩
structure K137 (fu : Nat) (cp : CallP) : Prop where
 ap : ∀ {a0 : List Int} {r}, reduce_intOf_4 fu a0 = some r → cp 137 [.arr a0.length (lm (ik .i64) a0)] = some (.v (.int .i64 r))
noncomputable def C137 (fu : Nat) : Cm Tryz.prog (List Int) Int := ⟨137, fun t => [.arr t.length (lm (ik .i64) t)], fun t => reduce_intOf_4 fu t, e137, fun t b h => ok137 fu t  b h, Zi⟩
theorem u137 {fu : Nat} {cp : CallP} (H : Hit cp (C137 fu).ct) : K137 fu cp := ⟨fun {a0 r} h => (C137 fu).at H a0 r h⟩
structure K55 (fu : Nat) (cp : CallP) : Prop where
 ap : ∀ {a0 : List Int} {a1 : Int} {r}, shape_Index fu a0 a1 = some r → cp 55 [.arr a0.length (lm (ik .i64) a0), .v (.int .i64 a1)] = some (.tuple [.fresh 1 r.1.length (lm (ik .i64) r.1), .v (.int .i64 r.2)])
noncomputable def C55 (fu : Nat) : Cm Tryz.prog ((List Int) × Int) ((List Int) × Int) := ⟨55, fun t => [.arr t.1.length (lm (ik .i64) t.1), .v (.int .i64 t.2)], fun t => shape_Index fu t.1 t.2, e55, fun t b h => ok55 fu t.1 t.2  b h, Zi⟩
theorem u55 {fu : Nat} {cp : CallP} (H : Hit cp (C55 fu).ct) : K55 fu cp := ⟨fun {a0 a1 r} h => (C55 fu).at H (a0, a1) r h⟩
structure K56 (fu : Nat) (cp : CallP) : Prop where
 ap : ∀ {a0 : T_reduce_work} {a1 : Int} {a2 : Int} {r}, reduce_work_line fu a0 a1 a2 = some r → cp 56 [.ref (c_T_reduce_work a0) 0, .v (.int .i64 a1), .v (.int .i64 a2)] = some (.fresh 1 r.length (lm (ik .i64) r))
noncomputable def C56 (fu : Nat) : Cm Tryz.prog (T_reduce_work × Int × Int) (List Int) := ⟨56, fun t => [.ref (c_T_reduce_work t.1) 0, .v (.int .i64 t.2.1), .v (.int .i64 t.2.2)], fun t => reduce_work_line fu t.1 t.2.1 t.2.2, e56, fun t b h => ok56 fu t.1 t.2.1 t.2.2  b h, Zi⟩
theorem u56 {fu : Nat} {cp : CallP} (H : Hit cp (C56 fu).ct) : K56 fu cp := ⟨fun {a0 a1 a2 r} h => (C56 fu).at H (a0, a1, a2) r h⟩
theorem cf63 (x b : Int) (h : (if x = 78 then some x else none) = some b) : PureOK Tryz.prog 63 [.v (.int .i64 x)] (.fn 61 [] []) := by
  split at h
  · rename_i hx; injection h with h; subst h; rcases hx with rfl
    · exact Aw.c119_ok 63 [.v (.int .i64 78)] _ (by kernel_rfl)
  · cases h
noncomputable def C63 : Cm Tryz.prog Int Int := ⟨63, fun x => [.v (.int .i64 x)], fun x => if x = 78 then some x else none, fun x => .fn 61 [] [], cf63, fun a b h => by simpa using h⟩
theorem cf64 (x b : Int) (h : (if x = 78 then some x else none) = some b) : PureOK Tryz.prog 64 [.v (.int .i64 x)] (.fn 137 [] []) := by
  split at h
  · rename_i hx; injection h with h; subst h; rcases hx with rfl
    · exact Aw.c119_ok 64 [.v (.int .i64 78)] _ (by kernel_rfl)
  · cases h
noncomputable def C64 : Cm Tryz.prog Int Int := ⟨64, fun x => [.v (.int .i64 x)], fun x => if x = 78 then some x else none, fun x => .fn 137 [] [], cf64, fun a b h => by simpa using h⟩
theorem sf25 : ∀ {h : Heap} {id : Id} {off ext : Nat} {k : FuncId}, stX Tryz.prog 25 h (.ptr id off ext) (.fn k [] []) = (h.get id).bind (stI h id off ext (.fn k [] [])) := stX_any (show tsize Tryz.prog 25 = 1 by kernel_rfl) rfl rfl rfl rfl
theorem sf85 : ∀ {h : Heap} {id : Id} {off ext : Nat} {k : FuncId}, stX Tryz.prog 85 h (.ptr id off ext) (.fn k [] []) = (h.get id).bind (stI h id off ext (.fn k [] [])) := stX_any (show tsize Tryz.prog 85 = 1 by kernel_rfl) rfl rfl rfl rfl
def cA : Code → Code
  | .seq a _ => a
  | .block _ c => c
  | .loop c => c
  | c => c
def cD : Code → Code
  | .seq _ b => b
  | .block _ c => c
  | .loop c => c
  | c => c
def dY : List (Nat × List Nat) := [(0, [1, 2, 10, 11]), (0, [0, 3, 12, 13, 14]), (0, []), (0, []), (0, [16, 17, 18]), (0, [6, 19, 20, 21]), (0, [1000007]), (0, []), (0, []), (0, []), (0, []), (0, []), (0, [23, 24]), (0, []), (0, [9, 25, 26, 27, 28, 29, 30]), (0, []), (0, [31]), (0, []), (0, [5, 7, 33, 34, 35]), (0, []), (0, [37])]
def dY_at := by have h := tabL dY.eq_1; simp only [AllAt, Nat.zero_add, Nat.reduceAdd] at h; exact h
theorem iY : finfoY Tryz.prog 110 dY = some ⟨bodyOf Tryz.f110, [], []⟩ := finfoY_at Tryz.func110 rfl (by kernel_rfl) (by kernel_rfl) (by kernel_rfl)
noncomputable def cO : Code := cA (cA (cD (bodyOf Tryz.f110)))
noncomputable def cI : Code := cA (cA (cD (cA (cD (cD (cA (cA (cD (cD cO)))))))))
section
variable (S fs : List Int) (k x : Int)
def eI (row : List Int) (j : Int) : Env := [(3, .ref [.arr S.length (lm (ik .i64) S)] 0), (5, .v (.int .i64 k)), (6, .v (.int .i64 x)), (7, .own (0, 7, 77) 0 row.length row.length), (12, .arr fs.length (lm (ik .i64) fs)), (13, .v (.int .i64 (fs.length : Int))), (14, .v (.int .i64 k)), (19, .arr S.length (lm (ik .i64) S)), (20, .v (.int .i64 (S.length : Int))), (21, .v (.int .i64 j))]
def hI (row : List Int) : Heap := [((0, 7, 77), .sl true true 1 row.length (lm (ik .i64) row))]
def eO (k : Int) : Env := [(3, .ref [.arr S.length (lm (ik .i64) S)] 0), (12, .arr fs.length (lm (ik .i64) fs)), (13, .v (.int .i64 (fs.length : Int))), (14, .v (.int .i64 k))]
end
set_option maxHeartbeats 20000000 in
theorem rI_step {cp : CallP} {n q : Nat} {K : KY} {acc : List AV} {S fs row : List Int} {k x s : Int} {j : Nat} {h : Heap} (hj : S[j]? = some s) (hr : (row.length + 1 : Int) * 8 ≤ 140737488355328) (hS : S.length ≤ 140737488355328) (hh : sweep [] (eI S fs k x row j) h = hI row) :
    ∃ h', sweep [] (eI S fs k x (row ++ [wk .i64 (x + s)]) ((j : Int) + 1)) h' = hI (row ++ [wk .i64 (x + s)]) ∧
    glY Tryz.prog noC cp noI 0 [] dY n cI (q + 1) (eI S fs k x row j) h acc K = glY Tryz.prog noC cp noI 0 [] dY n cI q (eI S fs k x (row ++ [wk .i64 (x + s)]) ((j : Int) + 1)) h' acc K := by
  have hl : (j : Int) < (S.length : Int) := by have := (List.getElem?_eq_some_iff.1 hj).1; omega
  have h1 : decide ((j : Int) < (S.length : Int)) = true := decide_eq_true hl
  have h2 := lm_ik (k := .i64) hj
  have h3 : wk .i64 ((j : Int) + 1) = (j : Int) + 1 := wk_i64 (by omega) (by omega)
  have da := dY_at
  have e : (row ++ [wk .i64 (x + s)]).length = row.length + 1 := by simp
  rw [glY_succ, hh]
  refine ⟨[((0, 7, 77), Blk.sl true true 1 (row.length + 1) (lm (ik IntKind.i64) (row ++ [wk IntKind.i64 (x + s)]))), ((0, 29, 0), Blk.sl true true 1 1 [AV.v (Value.int IntKind.i64 (wk IntKind.i64 (x + s)))])], ?_, ?_⟩
  · simp only [eI, hI, e]
    simp (disch := first | exact Zd | fail) only [ZZ, simprocAttr]
  clear hh
  conv => lhs; simp only [cI, cO, cA, cD, bodyOf, Tryz.f110, Option.getD, eI, hI]
  conv => lhs; simp (disch := first | exact Zd | fail) only [RQ, ZZ, simprocAttr, *]
  simp only [eI, hI, e]
  rfl
set_option maxHeartbeats 20000000 in
theorem rI_end {cp : CallP} {n q : Nat} {K : KY} {acc : List AV} {S fs row : List Int} {k x : Int} {h : Heap} (hh : sweep [] (eI S fs k x row S.length) h = hI row) : glY Tryz.prog noC cp noI 0 [] dY n cI (q + 1) (eI S fs k x row S.length) h acc K = K (.exit 2) (eI S fs k x row S.length) (hI row) acc := by
  have h1 : decide ((S.length : Int) < (S.length : Int)) = false := decide_eq_false (by omega)
  have da := dY_at
  rw [glY_succ, hh]
  clear hh
  conv => lhs; simp only [cI, cO, cA, cD, bodyOf, Tryz.f110, Option.getD, eI, hI]
  conv => lhs; simp (disch := first | exact Zd | fail) only [RQ, ZZ, simprocAttr, *]
  rfl
theorem rI_all {cp : CallP} {n : Nat} {K : KY} {acc : List AV} {S fs : List Int} {k x : Int} (hS : S.length * 8 ≤ 140737488355328) : ∀ (m q j : Nat) (row : List Int) (h : Heap), S.length - j = m → j ≤ S.length → row.length = j → m < q → sweep [] (eI S fs k x row j) h = hI row →
    glY Tryz.prog noC cp noI 0 [] dY n cI q (eI S fs k x row j) h acc K = K (.exit 2) (eI S fs k x (row ++ rowL (S.drop j) x) S.length) (hI (row ++ rowL (S.drop j) x)) acc
  | 0, q, j, row, h, hm, hj, hr, hq, hh => by
    obtain ⟨q, rfl⟩ : ∃ i, q = i + 1 := ⟨q - 1, by omega⟩
    obtain rfl : j = S.length := by omega
    rw [rI_end hh, List.drop_length]
    simp only [rowL, List.map_nil, List.append_nil]
  | m + 1, q, j, row, h, hm, hj, hr, hq, hh => by
    obtain ⟨q, rfl⟩ : ∃ i, q = i + 1 := ⟨q - 1, by omega⟩
    have hlt : j < S.length := by omega
    obtain ⟨h', h1, h2⟩ := rI_step (cp := cp) (n := n) (q := q) (K := K) (acc := acc) (List.getElem?_eq_getElem hlt) (by omega) (by omega) hh
    rw [h2]
    rw [show ((j : Int) + 1) = ((j + 1 : Nat) : Int) by omega] at h1 ⊢
    rw [rI_all hS m q (j + 1) (row ++ [wk .i64 (x + S[j])]) h' (by omega) (by omega) (by simp [hr]) (by omega) h1, List.drop_eq_getElem_cons hlt]
    simp only [rowL, List.map_cons, List.append_assoc, List.singleton_append]
set_option maxHeartbeats 20000000 in
theorem rO_step {cp : CallP} {n q : Nat} {K : KY} {acc : List AV} {S fs : List Int} {x : Int} {k : Nat} {h : Heap} (hS : S.length * 8 ≤ 140737488355328) (hn : S.length < n) (hk : fs[k]? = some x) (hf : fs.length ≤ 140737488355328) (hh : sweep [] (eO S fs k) h = []) :
    ∃ h', sweep [] (eO S fs ((k : Int) + 1)) h' = [] ∧ glY Tryz.prog noC cp noI 0 [] dY n cO (q + 1) (eO S fs k) h acc K = glY Tryz.prog noC cp noI 0 [] dY n cO q (eO S fs ((k : Int) + 1)) h' (acc ++ [.tuple (eyI ((k : Int), rowL S x))]) K := by
  have hl : (k : Int) < (fs.length : Int) := by have := (List.getElem?_eq_some_iff.1 hk).1; omega
  have h1 : decide ((k : Int) < (fs.length : Int)) = true := decide_eq_true hl
  have h2 := lm_ik (k := .i64) hk
  have h3 : wk .i64 ((k : Int) + 1) = (k : Int) + 1 := wk_i64 (by omega) (by omega)
  have da := dY_at
  have hI0 := fun K => @rI_all cp n K acc S fs k x hS S.length n 0 [] _ (by omega) (by omega) rfl (by omega) (show sweep [] (eI S fs k x [] 0) (hI []) = hI [] by
    simp only [eI, hI]
    simp (disch := first | exact Zd | fail) only [ZZ, simprocAttr])
  rw [glY_succ, hh]
  clear hh
  simp only [List.drop_zero, List.nil_append, show ((0 : Nat) : Int) = 0 from rfl] at hI0
  simp only [cI, cO, cA, cD, bodyOf, Tryz.f110, Option.getD, eI, hI, List.length_nil, lm_nil] at hI0
  refine ⟨[((0, 7, 77), .sl true false 1 (rowL S x).length (lm (ik .i64) (rowL S x)))], ?_, ?_⟩
  · simp only [eO]
    simp (disch := first | exact Zd | fail) only [ZZ, simprocAttr]
  · conv => lhs; simp only [cO, cA, cD, bodyOf, Tryz.f110, Option.getD, eO]
    conv => lhs; simp (disch := first | exact Zd | fail) only [RQ, ZZ, simprocAttr, da, h1, h2, h3, hI0]
    simp only [eO, eyI, cO, cA, cD, bodyOf, Tryz.f110, Option.getD]
set_option maxHeartbeats 20000000 in
theorem rO_end {cp : CallP} {n q : Nat} {K : KY} {acc : List AV} {S fs : List Int} {h : Heap} (hh : sweep [] (eO S fs fs.length) h = []) : glY Tryz.prog noC cp noI 0 [] dY n cO (q + 1) (eO S fs fs.length) h acc K = K (.exit 0) (eO S fs fs.length) [] acc := by
  have h1 : decide ((fs.length : Int) < (fs.length : Int)) = false := decide_eq_false (by omega)
  have da := dY_at
  rw [glY_succ, hh]
  clear hh
  conv => lhs; simp only [cO, cA, cD, bodyOf, Tryz.f110, Option.getD, eO]
  conv => lhs; simp (disch := first | exact Zd | fail) only [RQ, ZZ, simprocAttr, da, h1]
  rfl
theorem rO_all {cp : CallP} {n : Nat} {K : KY} {S fs : List Int} (hS : S.length * 8 ≤ 140737488355328) (hn : S.length < n) (hf : fs.length ≤ 140737488355328) : ∀ (m q k : Nat) (h : Heap) (acc : List AV), fs.length - k = m → k ≤ fs.length → m < q → sweep [] (eO S fs k) h = [] →
    glY Tryz.prog noC cp noI 0 [] dY n cO q (eO S fs k) h acc K = K (.exit 0) (eO S fs fs.length) [] (acc ++ (rowsL S k (fs.drop k)).map fun y => .tuple (eyI y))
  | 0, q, k, h, acc, hm, hk, hq, hh => by
    obtain ⟨q, rfl⟩ : ∃ i, q = i + 1 := ⟨q - 1, by omega⟩
    obtain rfl : k = fs.length := by omega
    rw [rO_end hh, List.drop_length]
    simp only [rowsL, List.map_nil, List.append_nil]
  | m + 1, q, k, h, acc, hm, hk, hq, hh => by
    obtain ⟨q, rfl⟩ : ∃ i, q = i + 1 := ⟨q - 1, by omega⟩
    have hlt : k < fs.length := by omega
    obtain ⟨h', h1, h2⟩ := rO_step (cp := cp) (n := n) (q := q) (K := K) (acc := acc) hS hn (List.getElem?_eq_getElem hlt) hf hh
    rw [h2]
    rw [show ((k : Int) + 1) = ((k + 1 : Nat) : Int) by omega] at h1 ⊢
    rw [rO_all hS hn hf m q (k + 1) h' _ (by omega) (by omega) (by omega) h1, List.drop_eq_getElem_cons hlt]
    simp only [rowsL, List.map_cons, List.append_assoc, List.singleton_append]
def aY (a b c : List Int) : List AV := [.ref [.arr a.length (lm (ik .i64) a)] 0, .ref [.arr b.length (lm (ik .i64) b)] 0, .ref [.arr c.length (lm (ik .i64) c)] 0]
set_option maxHeartbeats 20000000 in
theorem rY_all {cp : CallP} {fu : Nat} {outer far S : List Int} {ys : List (Int × List Int)} (H : K109 fu cp) (h : reduce_rowsIt fu outer far S = some ys) : bodyY Tryz.prog noC cp noI fu dY ⟨bodyOf Tryz.f110, [], []⟩ (aY outer far S) = some (ys.map fun y => .tuple (eyI y)) := by
  unfold reduce_rowsIt at h
  obtain ⟨fs, hp, h⟩ := Option.bind_eq_some_iff.1 h
  unfold chk at h
  split at h
  · rename_i hc
    injection h with h
    subst h
    obtain ⟨c1, c2, c3, c4⟩ := hc
    have hp' := H.ap hp
    refine bodyY_of rfl ?_
    have da := dY_at
    have hall := fun K => @rO_all cp fu K S fs c4 c2 c3 fs.length fu 0 [] [] (by omega) (by omega) c1 (by
      simp only [eO]
      simp (disch := first | exact Zd | fail) only [ZZ, simprocAttr])
    simp only [List.drop_zero, List.nil_append, show ((0 : Nat) : Int) = 0 from rfl] at hall
    simp only [cO, cA, cD, bodyOf, Tryz.f110, Option.getD, eO] at hall
    conv => lhs; simp only [bodyOf, Tryz.f110, Option.getD, aY, initE]
    conv => lhs; simp (disch := first | exact Zd | fail) only [RQ, ZZ, simprocAttr, da, hp', hall]
    rfl
  · cases h
noncomputable def cy110 (fu : Nat) : List AV → Option (List AV) := fun xs => (mkC (fun (t : List Int × List Int × List Int) => aY t.1 t.2.1 t.2.2) (fun t => reduce_rowsIt fu t.1 t.2.1 t.2.2) (fun ys => .tuple (ys.map fun y => .tuple (eyI y))) xs).bind tupL
theorem cy110_ok (fu : Nat) (xs ys : List AV) (h : cy110 fu xs = some ys) : ItOK Tryz.prog 110 xs ys := by
  unfold cy110 at h
  obtain ⟨r, hr, h⟩ := Option.bind_eq_some_iff.1 h
  obtain ⟨t, zs, rfl, hz, rfl⟩ := mkC_some hr
  injection h with h
  subst h
  have ok := tabC_ok [(C109 fu).ct]
  have hit := tabC_hits [(C109 fu).ct] (by simp)
  exact bodyY_ok mixed ok noI_ok iY (rY_all (u109 hit.1) hz)
theorem aY_inj : Inj (fun (t : List Int × List Int × List Int) => aY t.1 t.2.1 t.2.2) := by
  intro a b h
  simp only [aY, INJ, IJ] at h
  first | exact h | simp_all [Prod.ext_iff]
theorem cy110_ap {fu : Nat} {a b c : List Int} {r : List (Int × List Int)} (h : reduce_rowsIt fu a b c = some r) : cy110 fu [.ref [.arr a.length (lm (ik .i64) a)] 0, .ref [.arr b.length (lm (ik .i64) b)] 0, .ref [.arr c.length (lm (ik .i64) c)] 0] = some (r.map fun y => .tuple (eyI y)) := by
  have := mkC_at (F := fun (t : List Int × List Int × List Int) => reduce_rowsIt fu t.1 t.2.1 t.2.2) (eb := fun ys => AV.tuple (ys.map fun y => .tuple (eyI y))) aY_inj (a := (a, b, c)) h
  show (mkC _ _ _ (aY a b c)).bind tupL = _
  rw [this]
  rfl
def reduce_Do.r1 : LJ 1 3 Unit ((List Int) × (List Int)) := ⟨fun r s e => e, fun r s h => [((0, 6, 0), hr h (0, 6, 0)), ((0, 21, 0), hr h (0, 21, 0)), ((0, 8, 115), hr h (0, 8, 115)), ((0, 80, 0), hr h (0, 80, 0)), ((0, 80, 1), .sl true true 1 (hx h (0, 80, 1)) (lm (ik .u32) s.1)), ((0, 80, 2), .sl true true 1 (hx h (0, 80, 2)) (lm (ik .i64) s.2)), ((0, 80, 3), hr h (0, 80, 3)), ((1, 1, 0), hr h (1, 1, 0)), ((1, 2, 0), hr h (1, 2, 0)), ((1, 3, 0), hr h (1, 3, 0)), ((2, 4, 0), hr h (2, 4, 0)), ((2, 4, 78), hr h (2, 4, 78)), ((2, 6, 0), hr h (2, 6, 0)), ((2, 6, 78), hr h (2, 6, 78)), ((2, 12, 0), hr h (2, 12, 0))]⟩
def reduce_Do.m1 : LJ 1 12 Unit ((List Int) × (List Int) × (List Int) × (List Int) × Int) := ⟨fun r s e => [(3, er e 3), (4, er e 4), (5, .own (2, 5, 77) 0 s.1.length s.1.length), (6, er e 6), (7, .own (2, 7, 77) 0 s.2.2.1.length s.2.2.1.length), (8, er e 8), (28, er e 28), (29, er e 29), (30, .v (.int .i64 s.2.2.2.2))], fun r s h => [((0, 6, 0), hr h (0, 6, 0)), ((0, 21, 0), hr h (0, 21, 0)), ((0, 8, 115), hr h (0, 8, 115)), ((0, 80, 0), hr h (0, 80, 0)), ((0, 80, 1), hr h (0, 80, 1)), ((0, 80, 2), hr h (0, 80, 2)), ((0, 80, 3), hr h (0, 80, 3)), ((1, 1, 0), hr h (1, 1, 0)), ((1, 2, 0), hr h (1, 2, 0)), ((1, 3, 0), hr h (1, 3, 0)), ((2, 14, 0), hr h (2, 14, 0)), ((2, 4, 0), bs (hr h (2, 4, 0)) 0 (.own (2, 4, 78) 0 s.2.1.length s.2.1.length)), ((2, 5, 77), .sl true true 1 s.1.length (lm (ik .i64) s.1)), ((2, 4, 78), .sl true true 1 s.2.1.length (lm (ik .i64) s.2.1)), ((2, 6, 0), bs (hr h (2, 6, 0)) 0 (.own (2, 6, 78) 0 s.2.2.2.1.length s.2.2.2.1.length)), ((2, 7, 77), .sl true true 1 s.2.2.1.length (lm (ik .i64) s.2.2.1)), ((2, 6, 78), .sl true true 1 s.2.2.2.1.length (lm (ik .i64) s.2.2.2.1))]⟩
def reduce_Do.j2 : LJ 2 24 Unit ((List Int) × (List Int) × (List Int) × (List Int)) := ⟨fun r t e => [(4, er e 4), (5, .own (2, 5, 77) 0 t.1.length t.1.length), (6, er e 6), (7, .own (2, 7, 77) 0 t.2.2.1.length t.2.2.1.length)], fun r t h => [((0, 6, 0), hr h (0, 6, 0)), ((0, 21, 0), hr h (0, 21, 0)), ((0, 8, 115), hr h (0, 8, 115)), ((0, 80, 0), hr h (0, 80, 0)), ((0, 80, 1), hr h (0, 80, 1)), ((0, 80, 2), hr h (0, 80, 2)), ((0, 80, 3), hr h (0, 80, 3)), ((1, 1, 0), hr h (1, 1, 0)), ((1, 2, 0), hr h (1, 2, 0)), ((1, 3, 0), hr h (1, 3, 0)), ((2, 14, 0), hr h (2, 14, 0)), ((2, 4, 0), bs (hr h (2, 4, 0)) 0 (.own (2, 4, 78) 0 t.2.1.length t.2.1.length)), ((2, 5, 77), .sl true true 1 t.1.length (lm (ik .i64) t.1)), ((2, 4, 78), .sl true true 1 t.2.1.length (lm (ik .i64) t.2.1)), ((2, 6, 0), bs (hr h (2, 6, 0)) 0 (.own (2, 6, 78) 0 t.2.2.2.length t.2.2.2.length)), ((2, 7, 77), .sl true true 1 t.2.2.1.length (lm (ik .i64) t.2.2.1)), ((2, 6, 78), .sl true true 1 t.2.2.2.length (lm (ik .i64) t.2.2.2))]⟩
def reduce_Do.m2 : LJ 2 10 Unit ((List T_Tensor) × Int) := ⟨fun r s e => [(0, er e 0), (2, er e 2), (4, er e 4), (6, er e 6), (8, er e 8), (22, er e 22), (23, er e 23), (24, .v (.int .i64 s.2))], fun r s h => [((0, 4, 0), hr h (0, 4, 0)), ((0, 6, 0), hr h (0, 6, 0)), ((0, 21, 0), bs (hr h (0, 21, 0)) 37 (.own (0, 8, 115) 0 s.1.length s.1.length)), ((0, 8, 115), .sl true true 5 s.1.length (fm c_T_Tensor s.1))]⟩
def reduce_Do.j1 : LJ 1 26 Unit (List T_Tensor) := ⟨fun r t e => [(0, er e 0), (2, er e 2), (4, er e 4), (6, er e 6), (8, er e 8)], fun r t h => [((0, 4, 0), hr h (0, 4, 0)), ((0, 6, 0), hr h (0, 6, 0)), ((0, 21, 0), bs (hr h (0, 21, 0)) 37 (.own (0, 8, 115) 0 t.length t.length)), ((0, 8, 115), .sl true true 5 t.length (fm c_T_Tensor t))]⟩
def reduce_Do.j5 : LJ 5 38 Unit (Bool × Int) := ⟨fun r t e => [(0, er e 0), (2, er e 2), (4, er e 4), (8, er e 8), (13, .v (.int .i64 t.2)), (28, er e 28), (29, er e 29)], fun r t h => [((0, 6, 0), hr h (0, 6, 0)), ((0, 21, 0), bs (hr h (0, 21, 0)) 27 (.v (.bool t.1))), ((0, 8, 115), hr h (0, 8, 115)), ((0, 80, 0), hr h (0, 80, 0)), ((0, 80, 1), hr h (0, 80, 1)), ((0, 80, 2), hr h (0, 80, 2)), ((0, 80, 3), hr h (0, 80, 3)), ((1, 20, 0), hr h (1, 20, 0)), ((1, 8, 77), hr h (1, 8, 77))]⟩
def reduce_Do.m5 : LJ 5 22 Unit ((List Int) × Int) := ⟨fun r s e => [(0, er e 0), (2, er e 2), (4, er e 4), (5, er e 5), (7, er e 7), (8, .own (1, 8, 77) 0 s.1.length s.1.length), (10, er e 10), (28, er e 28), (29, er e 29), (61, er e 61), (62, er e 62), (63, er e 63), (71, er e 71), (72, er e 72), (73, .v (.int .i64 s.2))], fun r s h => [((0, 6, 0), hr h (0, 6, 0)), ((0, 21, 0), hr h (0, 21, 0)), ((0, 8, 115), hr h (0, 8, 115)), ((0, 80, 0), hr h (0, 80, 0)), ((0, 80, 1), hr h (0, 80, 1)), ((0, 80, 2), hr h (0, 80, 2)), ((0, 80, 3), hr h (0, 80, 3)), ((1, 20, 0), hr h (1, 20, 0)), ((1, 39, 0), hr h (1, 39, 0)), ((1, 8, 77), .sl true true 1 s.1.length (lm (ik .u32) s.1)), ((1, 61, 0), hr h (1, 61, 0)), ((1, 71, 0), hr h (1, 71, 0))]⟩
def reduce_Do.m4 : LJ 4 16 Unit ((List Int) × Int) := ⟨fun r s e => [(0, er e 0), (2, er e 2), (4, er e 4), (5, er e 5), (7, er e 7), (8, .own (1, 8, 77) 0 s.1.length s.1.length), (28, er e 28), (29, er e 29), (61, er e 61), (62, er e 62), (63, .v (.int .i64 s.2))], fun r s h => [((0, 6, 0), hr h (0, 6, 0)), ((0, 21, 0), hr h (0, 21, 0)), ((0, 8, 115), hr h (0, 8, 115)), ((0, 80, 0), hr h (0, 80, 0)), ((0, 80, 1), hr h (0, 80, 1)), ((0, 80, 2), hr h (0, 80, 2)), ((0, 80, 3), hr h (0, 80, 3)), ((1, 20, 0), hr h (1, 20, 0)), ((1, 39, 0), hr h (1, 39, 0)), ((1, 8, 77), .sl true true 1 s.1.length (lm (ik .u32) s.1)), ((1, 61, 0), hr h (1, 61, 0))]⟩
def reduce_Do.j4 : LJ 4 32 Unit ((List Int) × (List Int)) := ⟨fun r t e => [(0, er e 0), (2, er e 2), (4, er e 4), (8, .own (1, 8, 77) 0 t.1.length t.1.length), (28, er e 28), (29, er e 29)], fun r t h => [((0, 6, 0), hr h (0, 6, 0)), ((0, 21, 0), hr h (0, 21, 0)), ((0, 8, 115), hr h (0, 8, 115)), ((0, 80, 0), hr h (0, 80, 0)), ((0, 80, 1), hr h (0, 80, 1)), ((0, 80, 2), hr h (0, 80, 2)), ((0, 80, 3), hr h (0, 80, 3)), ((1, 20, 0), hr h (1, 20, 0)), ((1, 39, 0), hr h (1, 39, 0)), ((1, 8, 77), .sl true true 1 t.1.length (lm (ik .u32) t.1)), ((1, 61, 0), .sl true true 1 t.2.length (lm (ik .i64) t.2))]⟩
def reduce_Do.m3 : LJ 3 4 Unit (Bool × (List Int) × Int) := ⟨fun r s e => [(0, er e 0), (2, er e 2), (28, er e 28), (29, .v (.int .i64 s.2.2))], fun r s h => [((0, 6, 0), hr h (0, 6, 0)), ((0, 21, 0), bs (hr h (0, 21, 0)) 27 (.v (.bool s.1))), ((0, 8, 115), hr h (0, 8, 115)), ((0, 80, 0), hr h (0, 80, 0)), ((0, 80, 1), .sl true true 1 (hx h (0, 80, 1)) (lm (ik .u32) s.2.1)), ((0, 80, 2), hr h (0, 80, 2)), ((0, 80, 3), hr h (0, 80, 3)), ((1, 20, 0), hr h (1, 20, 0))]⟩
def reduce_Do.m6 : LJ 6 10 Unit ((List T_Tensor) × Int) := ⟨fun r s e => [(0, er e 0), (2, er e 2), (4, er e 4), (6, er e 6), (8, er e 8), (22, er e 22), (23, er e 23), (24, .v (.int .i64 s.2))], fun r s h => [((0, 4, 0), hr h (0, 4, 0)), ((0, 6, 0), hr h (0, 6, 0)), ((0, 21, 0), bs (hr h (0, 21, 0)) 37 (.own (0, 8, 115) 0 s.1.length s.1.length)), ((0, 8, 115), .sl true true 5 s.1.length (fm c_T_Tensor s.1))]⟩
def reduce_Do.j3 : LJ 3 26 Unit (List T_Tensor) := ⟨fun r t e => [(0, er e 0), (2, er e 2), (4, er e 4), (6, er e 6), (8, er e 8)], fun r t h => [((0, 4, 0), hr h (0, 4, 0)), ((0, 6, 0), hr h (0, 6, 0)), ((0, 21, 0), bs (hr h (0, 21, 0)) 37 (.own (0, 8, 115) 0 t.length t.length)), ((0, 8, 115), .sl true true 5 t.length (fm c_T_Tensor t))]⟩
end Go.Av
