/- The walks of the plain functions, part 3. Made by a program of mine. Conditions: none. -/
import Derived.Test.YtebfneaimafcoaaGreatQ7W4
import Derived.Test.YtebfneaimafcoaaGreatQ7W5
set_option linter.unusedVariables false
set_option linter.unusedSimpArgs false
set_option linter.defProp false
set_option maxRecDepth 20000
open Go Go.Proofs
namespace Go.Av
open Aw (d17 d22 d23 d24 d25 d26 d27 d38 d39 d40 d41 d42 d43 d44 d45 d54 d60 d68 d69 d70 d80 d81 d82 d83 d84 d85 d86 d87 d88 d89 d91 d92 d93 d94 d95 d104 d106 d107 d108 d120 d122 d139 d140 d148 d149 d150 d152 d153 d154 d155 d157 d158 d160 d161 d162 d163 d164 d165 d166 d168 d182 d192 d195 d196 d202 d206)
open Aw (d36)
open Aw (d18)
open Aw (d9)
open Aw (d191)
open Aw (d119)
open Aw (d53)
open Aw (d55)
open Aw (d121)
open Aw (d56)
open Aw (d33)
open Aw (d47)
open Aw (d30)
open Aw (d13)
theorem w13 (cp : CallP) (fu : Nat) (x1 : Int) (x2 : T_Setting) (x3 : List T_Tensor) (H1 : K22 fu cp) (H2 : K23 fu cp) (H3 : K24 fu cp) (H4 : K26 fu cp) (H5 : K25 fu cp) (H6 : K27 fu cp) (H7 : K108 fu cp) (H8 : K54 fu cp) (H9 : K109 fu cp) (H10 : K49 fu cp) (H11 : K61 fu cp) (H12 : K65 fu cp) (H13 : K137 fu cp) (H14 : K55 fu cp) (H15 : K56 fu cp) (H16 : K9 fu cp) (H17 : K57 fu cp) (H18 : K53 fu cp) (H19 : cp 63 [.v (.int .i64 78)] = some (.fn 61 [] [])) (H20 : cp 64 [.v (.int .i64 78)] = some (.fn 137 [] [])) : J (go Tryz.prog (inlC [33, 47, 30]) cp (ciE Tryz.prog (inlC [33, 47, 30]) cp (ciE Tryz.prog (inlC [33, 47, 30]) cp (ciE Tryz.prog (inlC [33, 47, 30]) cp (ciY 110 (cy110 fu) noI) fu 30 d30 ⟨b30, [], []⟩ (ciY 110 (cy110 fu) noI)) fu 47 d47 ⟨b47, [.tmp 2], [74]⟩ (ciE Tryz.prog (inlC [33, 47, 30]) cp (ciY 110 (cy110 fu) noI) fu 30 d30 ⟨b30, [], []⟩ (ciY 110 (cy110 fu) noI))) fu 33 d33 ⟨b33, [], []⟩ (ciE Tryz.prog (inlC [33, 47, 30]) cp (ciE Tryz.prog (inlC [33, 47, 30]) cp (ciY 110 (cy110 fu) noI) fu 30 d30 ⟨b30, [], []⟩ (ciY 110 (cy110 fu) noI)) fu 47 d47 ⟨b47, [.tmp 2], [74]⟩ (ciE Tryz.prog (inlC [33, 47, 30]) cp (ciY 110 (cy110 fu) noI) fu 30 d30 ⟨b30, [], []⟩ (ciY 110 (cy110 fu) noI)))) 0 [] d13 fu (finS Tryz.prog [.cell 6 31, .tmp 7] [31, 32]) (bodyOf Tryz.f13) (initE 0 [.v (.int .i64 x1), .agg (c_T_Setting x2), .arr x3.length (fm c_T_Tensor x3)]) [] []) (reduce_Do fu x1 x2 x3) e13 := by
 unfold reduce_Do
 exact J.spl (fun c => w13_78 cp fu x1 x2 x3 H1 H2 H3 H4 H5 H6 H7 H8 H9 H10 H11 H12 H13 H14 H15 H16 H17 H18 H19 H20 c) (fun _ => J.chk fun c => w13_77 cp fu x1 x2 x3 H1 H2 H3 H4 H5 H6 H7 H8 H9 H10 H11 H12 H13 H14 H15 H16 H17 H18 H19 H20 c)
theorem ok13 (fu : Nat) (x1 : Int) (x2 : T_Setting) (x3 : List T_Tensor) (r) (h : reduce_Do fu x1 x2 x3 = some r) : PureOK Tryz.prog 13 [.v (.int .i64 x1), .agg (c_T_Setting x2), .arr x3.length (fm c_T_Tensor x3)] (e13 r) := pureST mixed [(C22 fu).ct, (C23 fu).ct, (C24 fu).ct, (C26 fu).ct, (C25 fu).ct, (C27 fu).ct, (C108 fu).ct, (C54 fu).ct, (C109 fu).ct, (C49 fu).ct, (C61 fu).ct, (C65 fu).ct, (C137 fu).ct, (C55 fu).ct, (C56 fu).ct, (C9 fu).ct, (C57 fu).ct, (C53 fu).ct, C63.ct, C64.ct] (ids := [22, 23, 24, 26, 25, 27, 108, 54, 109, 49, 61, 65, 137, 55, 56, 9, 57, 53, 63, 64]) rfl (by decide) i13 (C := (inlC [33, 47, 30])) (ci := fun cp => (ciE Tryz.prog (inlC [33, 47, 30]) cp (ciE Tryz.prog (inlC [33, 47, 30]) cp (ciE Tryz.prog (inlC [33, 47, 30]) cp (ciY 110 (cy110 fu) noI) fu 30 d30 ⟨b30, [], []⟩ (ciY 110 (cy110 fu) noI)) fu 47 d47 ⟨b47, [.tmp 2], [74]⟩ (ciE Tryz.prog (inlC [33, 47, 30]) cp (ciY 110 (cy110 fu) noI) fu 30 d30 ⟨b30, [], []⟩ (ciY 110 (cy110 fu) noI))) fu 33 d33 ⟨b33, [], []⟩ (ciE Tryz.prog (inlC [33, 47, 30]) cp (ciE Tryz.prog (inlC [33, 47, 30]) cp (ciY 110 (cy110 fu) noI) fu 30 d30 ⟨b30, [], []⟩ (ciY 110 (cy110 fu) noI)) fu 47 d47 ⟨b47, [.tmp 2], [74]⟩ (ciE Tryz.prog (inlC [33, 47, 30]) cp (ciY 110 (cy110 fu) noI) fu 30 d30 ⟨b30, [], []⟩ (ciY 110 (cy110 fu) noI))))) (fun cp ok => (ciE_ok mixed ok (ciE_ok mixed ok (ciE_ok mixed ok (ciY_ok noI_ok (cy110_ok fu)) i30 (ciY_ok noI_ok (cy110_ok fu))) i47 (ciE_ok mixed ok (ciY_ok noI_ok (cy110_ok fu)) i30 (ciY_ok noI_ok (cy110_ok fu)))) i33 (ciE_ok mixed ok (ciE_ok mixed ok (ciY_ok noI_ok (cy110_ok fu)) i30 (ciY_ok noI_ok (cy110_ok fu))) i47 (ciE_ok mixed ok (ciY_ok noI_ok (cy110_ok fu)) i30 (ciY_ok noI_ok (cy110_ok fu)))))) (fun cp H => w13 cp fu x1 x2 x3 (u22 H.1) (u23 H.2.1) (u24 H.2.2.1) (u26 H.2.2.2.1) (u25 H.2.2.2.2.1) (u27 H.2.2.2.2.2.1) (u108 H.2.2.2.2.2.2.1) (u54 H.2.2.2.2.2.2.2.1) (u109 H.2.2.2.2.2.2.2.2.1) (u49 H.2.2.2.2.2.2.2.2.2.1) (u61 H.2.2.2.2.2.2.2.2.2.2.1) (u65 H.2.2.2.2.2.2.2.2.2.2.2.1) (u137 H.2.2.2.2.2.2.2.2.2.2.2.2.1) (u55 H.2.2.2.2.2.2.2.2.2.2.2.2.2.1) (u56 H.2.2.2.2.2.2.2.2.2.2.2.2.2.2.1) (u9 H.2.2.2.2.2.2.2.2.2.2.2.2.2.2.2.1) (u57 H.2.2.2.2.2.2.2.2.2.2.2.2.2.2.2.2.1) (u53 H.2.2.2.2.2.2.2.2.2.2.2.2.2.2.2.2.2.1) (C63.at H.2.2.2.2.2.2.2.2.2.2.2.2.2.2.2.2.2.2.1 78 78 rfl) (C64.at H.2.2.2.2.2.2.2.2.2.2.2.2.2.2.2.2.2.2.2.1 78 78 rfl)) h
def d35 : List (Nat × List Nat) := [(0, [4]), (0, [0, 1, 5]), (0, [6, 7, 8, 9]), (0, []), (0, []), (0, []), (0, []), (0, []), (0, [11, 12, 13]), (0, []), (0, [15, 16]), (0, []), (9, [17, 18, 19, 20, 21, 22, 23, 24]), (0, []), (0, []), (0, []), (0, [])]
def d35_at := by have h := tabL d35.eq_1; simp only [AllAt, Nat.zero_add, Nat.reduceAdd] at h; exact h
theorem i35 : finfo Tryz.prog 35 d35 = some ⟨bodyOf Tryz.f35, [.tmp 4], [4]⟩ := finfo_at Tryz.func35 rfl (by kernel_rfl) (by kernel_rfl)
def e35 : Bool → AV := fun r => .v (.bool r)
def ref04_SameInts.m1 : LJ 1 8 Unit Int := ⟨fun r s e => [(0, er e 0), (1, er e 1), (5, .v (.int .i64 s))], fun r s h => []⟩
set_option maxHeartbeats 20000000 in
open ref04_SameInts in
theorem w35 (cp : CallP) (fu : Nat) (x1 : List Int) (x2 : List Int)  : J (go Tryz.prog noC cp noI 0 [] d35 fu (fin Tryz.prog [.tmp 4] [4]) (bodyOf Tryz.f35) (initE 0 [.arr x1.length (lm (ik .i64) x1), .arr x2.length (lm (ik .i64) x2)]) [] []) (ref04_SameInts fu x1 x2) e35 := by
 unfold ref04_SameInts e35
 have da := d35_at
 conv => arg 1; simp only [bodyOf, Tryz.f35]
 have z0 := d35_at
 exact Wk
theorem ok35 (fu : Nat) (x1 : List Int) (x2 : List Int) (r) (h : ref04_SameInts fu x1 x2 = some r) : PureOK Tryz.prog 35 [.arr x1.length (lm (ik .i64) x1), .arr x2.length (lm (ik .i64) x2)] (e35 r) := pureT mixed [] (ids := []) rfl (by decide) i35 (C := noC) (ci := fun cp => noI) (fun cp ok => noI_ok) (fun cp H => w35 cp fu x1 x2 ) h
def d15 : List (Nat × List Nat) := [(0, [0, 1, 4]), (0, [5]), (0, [8, 9, 10, 11, 12, 13, 14, 15, 16, 17, 18, 19, 20, 21, 22, 23, 24, 25, 26, 27, 28, 29, 30, 31, 32, 33, 34, 35, 36, 37, 38, 39, 40, 41, 42, 43, 44, 45, 46]), (0, []), (0, []), (0, [6]), (0, []), (0, []), (0, [48, 49, 50, 51]), (0, [2, 3, 7]), (0, [53, 54]), (0, []), (11, [55, 56, 57, 58, 59, 60, 61, 62, 63, 64]), (0, []), (0, []), (0, []), (0, []), (0, []), (0, [66, 67, 68, 69]), (0, []), (0, [71, 72]), (0, []), (11, [73, 74, 75, 76, 77, 78, 79, 80, 81, 82]), (0, []), (0, []), (0, []), (0, []), (0, []), (0, [84, 85, 86, 87]), (0, []), (0, [89, 90]), (0, []), (11, [91, 92, 93, 94, 95, 96, 97, 98, 99, 100]), (0, []), (0, []), (0, []), (0, [])]
def d15_at := by have h := tabL d15.eq_1; simp only [AllAt, Nat.zero_add, Nat.reduceAdd] at h; exact h
theorem i15 : finfo Tryz.prog 15 d15 = some ⟨bodyOf Tryz.f15, [.tmp 4], [4]⟩ := finfo_at Tryz.func15 rfl (by kernel_rfl) (by kernel_rfl)
def e15 : Bool → AV := fun r => .v (.bool r)
structure K35 (fu : Nat) (cp : CallP) : Prop where
 ap : ∀ {a0 : List Int} {a1 : List Int} {r}, ref04_SameInts fu a0 a1 = some r → cp 35 [.arr a0.length (lm (ik .i64) a0), .arr a1.length (lm (ik .i64) a1)] = some (.v (.bool r))
noncomputable def C35 (fu : Nat) : Cm Tryz.prog ((List Int) × (List Int)) Bool := ⟨35, fun t => [.arr t.1.length (lm (ik .i64) t.1), .arr t.2.length (lm (ik .i64) t.2)], fun t => ref04_SameInts fu t.1 t.2, e35, fun t b h => ok35 fu t.1 t.2  b h, Zi⟩
theorem u35 {fu : Nat} {cp : CallP} (H : Hit cp (C35 fu).ct) : K35 fu cp := ⟨fun {a0 a1 r} h => (C35 fu).at H (a0, a1) r h⟩
def ref05_Same.m1 : LJ 1 28 Unit Int := ⟨fun r s e => [(2, er e 2), (3, er e 3), (7, .v (.int .i64 s))], fun r s h => [((0, 2, 0), hr h (0, 2, 0)), ((0, 3, 0), hr h (0, 3, 0))]⟩
def ref05_Same.m2 : LJ 2 18 Unit Int := ⟨fun r s e => [(2, er e 2), (3, er e 3), (6, .v (.int .i64 s))], fun r s h => [((0, 2, 0), hr h (0, 2, 0)), ((0, 3, 0), hr h (0, 3, 0))]⟩
def ref05_Same.j3 : LJ 3 26 Unit Unit := ⟨fun r t e => [(2, er e 2), (3, er e 3)], fun r t h => [((0, 2, 0), hr h (0, 2, 0)), ((0, 3, 0), hr h (0, 3, 0))]⟩
def ref05_Same.m3 : LJ 3 8 Unit Int := ⟨fun r s e => [(2, er e 2), (3, er e 3), (5, .v (.int .i64 s))], fun r s h => [((0, 2, 0), hr h (0, 2, 0)), ((0, 3, 0), hr h (0, 3, 0))]⟩
def ref05_Same.j2 : LJ 2 16 Unit Unit := ⟨fun r t e => [(2, er e 2), (3, er e 3)], fun r t h => [((0, 2, 0), hr h (0, 2, 0)), ((0, 3, 0), hr h (0, 3, 0))]⟩
def ref05_Same.j1 : LJ 1 6 Unit Unit := ⟨fun r t e => [(2, er e 2), (3, er e 3)], fun r t h => [((0, 2, 0), hr h (0, 2, 0)), ((0, 3, 0), hr h (0, 3, 0))]⟩
set_option maxHeartbeats 20000000 in
open ref05_Same in
theorem w15 (cp : CallP) (fu : Nat) (x1 : T_Tensor) (x2 : T_Tensor) (H1 : K35 fu cp) : J (go Tryz.prog noC cp noI 0 [] d15 fu (fin Tryz.prog [.tmp 4] [4]) (bodyOf Tryz.f15) (initE 0 [.agg (c_T_Tensor x1), .agg (c_T_Tensor x2)]) [] []) (ref05_Same fu x1 x2) e15 := by
 unfold ref05_Same e15
 have da := d15_at
 conv => arg 1; simp only [bodyOf, Tryz.f15]
 have z0 := d15_at
 exact Wk
theorem ok15 (fu : Nat) (x1 : T_Tensor) (x2 : T_Tensor) (r) (h : ref05_Same fu x1 x2 = some r) : PureOK Tryz.prog 15 [.agg (c_T_Tensor x1), .agg (c_T_Tensor x2)] (e15 r) := pureT mixed [(C35 fu).ct] (ids := [35]) rfl (by decide) i15 (C := noC) (ci := fun cp => noI) (fun cp ok => noI_ok) (fun cp H => w15 cp fu x1 x2 (u35 H.1)) h
def d7 : List (Nat × List Nat) := [(0, [0, 2]), (0, []), (0, [8]), (0, []), (0, [9, 10, 11]), (0, []), (0, [13]), (0, []), (0, [14, 15, 16, 17, 18, 19, 20]), (0, []), (26307029471956252527824783313921623028993875707008, [1, 21, 22, 23, 24, 25, 26, 27, 28, 29, 30, 31, 32, 33, 34, 35, 36]), (0, []), (0, [5, 37]), (0, []), (0, [39, 40, 41, 42, 43, 44, 45]), (0, []), (0, [3, 4, 6, 7, 46, 47, 48, 49, 50, 51, 52, 53, 54, 55])]
def d7_at := by have h := tabL d7.eq_1; simp only [AllAt, Nat.zero_add, Nat.reduceAdd] at h; exact h
theorem i7 : finfo Tryz.prog 7 d7 = some ⟨bodyOf Tryz.f7, [.tmp 2], [4]⟩ := finfo_at Tryz.func7 rfl (by kernel_rfl) (by kernel_rfl)
def e7 : Bool → AV := fun r => .v (.bool r)
noncomputable def C8 : Cm Tryz.prog Unit Bool := ⟨8, fun _ => [], fun _ => some true, fun b => .v (.bool b), fun _ b h => by injection h with h; subst h; exact awake8, fun _ _ _ => rfl⟩
structure K13 (fu : Nat) (cp : CallP) : Prop where
 ap : ∀ {a0 : Int} {a1 : T_Setting} {a2 : List T_Tensor} {r}, reduce_Do fu a0 a1 a2 = some r → cp 13 [.v (.int .i64 a0), .agg (c_T_Setting a1), .arr a2.length (fm c_T_Tensor a2)] = some (.tuple [.agg [.v (.int .i64 r.1.fType), .arr r.1.fDims.length (lm (ik .i64) r.1.fDims), .arr r.1.fF.length (lm (ik .u32) r.1.fF), .arr r.1.fI.length (lm (ik .i64) r.1.fI), .arr r.1.fB.length (lm (bk) r.1.fB)], .v (.int .i64 r.2)])
noncomputable def C13 (fu : Nat) : Cm Tryz.prog (Int × T_Setting × (List T_Tensor)) (T_Tensor × Int) := ⟨13, fun t => [.v (.int .i64 t.1), .agg (c_T_Setting t.2.1), .arr t.2.2.length (fm c_T_Tensor t.2.2)], fun t => reduce_Do fu t.1 t.2.1 t.2.2, e13, fun t b h => ok13 fu t.1 t.2.1 t.2.2  b h, Zi⟩
theorem u13 {fu : Nat} {cp : CallP} (H : Hit cp (C13 fu).ct) : K13 fu cp := ⟨fun {a0 a1 a2 r} h => (C13 fu).at H (a0, a1, a2) r h⟩
structure K15 (fu : Nat) (cp : CallP) : Prop where
 ap : ∀ {a0 : T_Tensor} {a1 : T_Tensor} {r}, ref05_Same fu a0 a1 = some r → cp 15 [.agg (c_T_Tensor a0), .agg (c_T_Tensor a1)] = some (.v (.bool r))
noncomputable def C15 (fu : Nat) : Cm Tryz.prog (T_Tensor × T_Tensor) Bool := ⟨15, fun t => [.agg (c_T_Tensor t.1), .agg (c_T_Tensor t.2)], fun t => ref05_Same fu t.1 t.2, e15, fun t b h => ok15 fu t.1 t.2  b h, Zi⟩
theorem u15 {fu : Nat} {cp : CallP} (H : Hit cp (C15 fu).ct) : K15 fu cp := ⟨fun {a0 a1 r} h => (C15 fu).at H (a0, a1) r h⟩
def law13_ReducePools.j1 : LJ 1 0 (T_Tensor × Int) Unit := ⟨fun r t e => [(2, .v (.bool (decide ((r.1.fF.length : Int) = 0)))), (3, er e 3), (4, er e 4), (6, er e 6), (7, er e 7)], fun r t h => [((0, 1, 0), hr h (0, 1, 0)), ((0, 17, 0), hr h (0, 17, 0)), ((0, 4, 0), hr h (0, 4, 0)), ((0, 6, 0), hr h (0, 6, 0))]⟩
set_option maxHeartbeats 20000000 in
open law13_ReducePools in
theorem w7 (cp : CallP) (fu : Nat) (x1 : T_Tensor) (H1 : cp 8 [] = some (.v (.bool true))) (H2 : K13 fu cp) (H3 : K15 fu cp) : J (go Tryz.prog noCs cp noI 0 [] d7 fu (fin Tryz.prog [.tmp 2] [4]) (bodyOf Tryz.f7) (initE 0 [.agg (c_T_Tensor x1)]) [] []) (law13_ReducePools fu x1) e7 := by
 unfold law13_ReducePools e7
 have da := d7_at
 conv => arg 1; simp only [bodyOf, Tryz.f7]
 have z0 := d7_at
 have z1 := RL
 have z2 := @aop_callC
 have z3 := @aq_callC
 exact Wk
theorem ok7 (fu : Nat) (x1 : T_Tensor) (r) (h : law13_ReducePools fu x1 = some r) : PureOK Tryz.prog 7 [.agg (c_T_Tensor x1)] (e7 r) := pureT mixed [C8.ct, (C13 fu).ct, (C15 fu).ct] (ids := [8, 13, 15]) rfl (by decide) i7 (C := noCs) (ci := fun cp => noI) (fun cp ok => noI_ok) (fun cp H => w7 cp fu x1 (C8.at H.1 () true rfl) (u13 H.2.1) (u15 H.2.2.1)) h
end Go.Av
