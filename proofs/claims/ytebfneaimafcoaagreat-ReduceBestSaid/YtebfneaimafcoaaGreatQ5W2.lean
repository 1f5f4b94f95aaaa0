/- The walks of the plain functions, part 2. Made by a program of mine. Conditions: none. -/
import Derived.Test.YtebfneaimafcoaaGreatQ5W1
set_option linter.unusedVariables false
set_option linter.unusedSimpArgs false
set_option linter.defProp false
set_option maxRecDepth 20000
open Go Go.Proofs
namespace Go.Av
open Aw (d22 d23 d24 d26 d38 d39 d40 d41 d42 d60 d80 d81 d82 d83 d84 d85 d86 d87 d88 d89 d91 d92 d95 d107 d148 d149 d150 d152 d153 d154)
open Aw (d93)
def d93_at := by have h := tabL Aw.d93.eq_1; simp only [AllAt, Nat.zero_add, Nat.reduceAdd] at h; exact h
theorem i93 : finfo Tryz.prog 93 d93 = some ⟨bodyOf Tryz.f93, [.tmp 2], [4]⟩ := finfo_at Tryz.func93 rfl (by kernel_rfl) (by kernel_rfl)
def e93 : Bool → AV := fun r => .v (.bool r)
structure K154 (fu : Nat) (cp : CallP) : Prop where
 ap : ∀ {a0 : T_infer_ask} {r}, infer_ask_rank fu a0 = some r → cp 154 [.agg (c_T_infer_ask a0)] = some (.v (.int .i64 r))
noncomputable def C154 (fu : Nat) : Cm Tryz.prog T_infer_ask Int := ⟨154, fun t => [.agg (c_T_infer_ask t)], fun t => infer_ask_rank fu t, e154, fun t b h => ok154 fu t  b h, Zi⟩
theorem u154 {fu : Nat} {cp : CallP} (H : Hit cp (C154 fu).ct) : K154 fu cp := ⟨fun {a0 r} h => (C154 fu).at H a0 r h⟩
structure K60 (fu : Nat) (cp : CallP) : Prop where
 ap : ∀ {a0 : Int} {a1 : Int} {r}, shape_Axis fu a0 a1 = some r → cp 60 [.v (.int .i64 a0), .v (.int .i64 a1)] = some (.tuple [.v (.int .i64 r.1), .v (.int .i64 r.2)])
noncomputable def C60 (fu : Nat) : Cm Tryz.prog (Int × Int) (Int × Int) := ⟨60, fun t => [.v (.int .i64 t.1), .v (.int .i64 t.2)], fun t => shape_Axis fu t.1 t.2, e60, fun t b h => ok60 fu t.1 t.2  b h, Zi⟩
theorem u60 {fu : Nat} {cp : CallP} (H : Hit cp (C60 fu).ct) : K60 fu cp := ⟨fun {a0 a1 r} h => (C60 fu).at H (a0, a1) r h⟩
def infer_ask_attributes.j1 : LJ 1 104 Unit Unit := ⟨fun r t e => [(1, er e 1), (3, er e 3), (4, er e 4), (17, er e 17), (58, er e 58), (99, .v (.bool (decide ((70 : Int) = 70))))], fun r t h => [((0, 1, 0), hr h (0, 1, 0)), ((0, 3, 0), hr h (0, 3, 0))]⟩
set_option maxHeartbeats 20000000 in
open infer_ask_attributes in
theorem w93 (cp : CallP) (fu : Nat) (x1 : T_infer_ask) (H1 : K154 fu cp) (H2 : K60 fu cp) : J (go Tryz.prog noC cp noI 0 [] d93 fu (fin Tryz.prog [.tmp 2] [4]) (bodyOf Tryz.f93) (initE 0 [.agg (c_T_infer_ask x1)]) [] []) (infer_ask_attributes fu x1) e93 := by
 unfold infer_ask_attributes e93
 have da := d93_at
 conv => arg 1; simp only [bodyOf, Tryz.f93]
 have z0 := d93_at
 exact Wk
theorem ok93 (fu : Nat) (x1 : T_infer_ask) (r) (h : infer_ask_attributes fu x1 = some r) : PureOK Tryz.prog 93 [.agg (c_T_infer_ask x1)] (e93 r) := pureT mixed [(C154 fu).ct, (C60 fu).ct] (ids := [154, 60]) rfl (by decide) i93 (C := noC) (ci := fun cp => noI) (fun cp ok => noI_ok) (fun cp H => w93 cp fu x1 (u154 H.1) (u60 H.2.1)) h
def d159 : List (Nat × List Nat) := [(0, [0, 2]), (0, [8, 13]), (0, []), (0, [1, 4, 6]), (0, [7]), (0, []), (0, []), (0, []), (0, [10]), (0, []), (0, []), (0, []), (0, [12]), (0, []), (0, []), (0, []), (0, [14]), (0, []), (0, [15]), (0, []), (0, [16]), (0, []), (0, [17]), (0, []), (0, [18]), (0, []), (0, [19]), (1, []), (0, [20]), (0, []), (0, [21]), (0, []), (0, []), (0, []), (0, [3, 22]), (0, []), (0, [23, 24]), (0, []), (0, [26, 27]), (0, []), (0, [28, 29]), (0, []), (0, [31, 32, 33, 34, 35, 36]), (0, []), (0, [5, 37])]
def d159_at := by have h := tabL d159.eq_1; simp only [AllAt, Nat.zero_add, Nat.reduceAdd] at h; exact h
theorem i159 : finfo Tryz.prog 159 d159 = some ⟨bodyOf Tryz.f159, [.tmp 2], [54]⟩ := finfo_at Tryz.func159 rfl (by kernel_rfl) (by kernel_rfl)
def e159 : (List T_Val) → AV := fun r => .fresh 8 r.length (fm c_T_Val r)
def infer_ask_lists.j1 : LJ 1 6 Unit Unit := ⟨fun r t e => [(1, er e 1), (3, er e 3), (4, er e 4), (8, er e 8), (13, .v (.bool (decide ((70 : Int) = 65))))], fun r t h => [((0, 1, 0), hr h (0, 1, 0))]⟩
set_option maxHeartbeats 20000000 in
open infer_ask_lists in
theorem w159 (cp : CallP) (fu : Nat) (x1 : T_infer_ask)  : J (go Tryz.prog noC cp noI 0 [] d159 fu (fin Tryz.prog [.tmp 2] [54]) (bodyOf Tryz.f159) (initE 0 [.agg (c_T_infer_ask x1)]) [] []) (infer_ask_lists fu x1) e159 := by
 unfold infer_ask_lists e159
 have da := d159_at
 conv => arg 1; simp only [bodyOf, Tryz.f159]
 have z0 := d159_at
 exact Wk
theorem ok159 (fu : Nat) (x1 : T_infer_ask) (r) (h : infer_ask_lists fu x1 = some r) : PureOK Tryz.prog 159 [.agg (c_T_infer_ask x1)] (e159 r) := pureT mixed [] (ids := []) rfl (by decide) i159 (C := noC) (ci := fun cp => noI) (fun cp ok => noI_ok) (fun cp H => w159 cp fu x1 ) h
open Aw (d195)
def d195_at := by have h := tabL Aw.d195.eq_1; simp only [AllAt, Nat.zero_add, Nat.reduceAdd] at h; exact h
theorem i195 : finfo Tryz.prog 195 d195 = some ⟨bodyOf Tryz.f195, [.tmp 4], [3]⟩ := finfo_at Tryz.func195 rfl (by kernel_rfl) (by kernel_rfl)
def e195 : Int → AV := fun r => .v (.int .i64 r)
set_option maxHeartbeats 20000000 in
theorem w195 (cp : CallP) (fu : Nat) (x1 : List T_Val) (p1 : T_Val → Option Bool) (fv_p1 : FuncId) (ca_p1 : List AV) (cap_p1 : Capt ca_p1) (hp_p1 : ∀ (y0 : T_Val) r, p1 y0 = some r → cp fv_p1 ((.agg (c_T_Val y0)) :: ca_p1) = some (.v (.bool r))) : J (go Tryz.prog noC cp noI 0 [] d195 fu (fin Tryz.prog [.tmp 4] [3]) (bodyOf Tryz.f195) (initE 0 [.arr x1.length (fm c_T_Val x1), .fn fv_p1 [] ca_p1]) [] []) (slices_IndexFunc_api_Val_api_Val fu x1 p1) e195 := by
 unfold slices_IndexFunc_api_Val_api_Val e195
 have da := d195_at
 have c4_p1 := fun g => (cap_p1.1 g).1; have c3_p1 := fun g => (cap_p1.1 g).2.1; have b4_p1 := fun g => (cap_p1.1 g).2.2.1; have b3_p1 := fun g => (cap_p1.1 g).2.2.2; have nm_p1 := cap_p1.2
 conv => arg 1; simp (disch := first | exact Zd | fail) only [bodyOf, Tryz.f195, ZZ, d195_at, simprocAttr, c4_p1, c3_p1, b4_p1, b3_p1, nm_p1]
 refine J.eq go_seq ?_
 conv => arg 1; simp (disch := first | exact Zd | fail) only [ZZ, d195_at, simprocAttr, c4_p1, c3_p1, b4_p1, b3_p1, nm_p1]
 unfold slices_IndexFunc_api_Val_api_Val.W1
 refine J.loop (fun (s : Int) => ([(0, .arr x1.length (fm c_T_Val x1)), (1, .fn fv_p1 [] ca_p1), (7, .v (.int .i64 (x1.length : Int))), (8, .v (.int .i64 s))], [])) (fun next s => slices_IndexFunc_api_Val_api_Val.L1 fu p1 x1 next s) (s0 := 0) ?_ ?_ ?_
 ·exact Ze
 ·exact Zh
 rintro nx1 k1 hn1 x4
 show J _ (slices_IndexFunc_api_Val_api_Val.L1 fu p1 x1 nx1 x4) _
 unfold slices_IndexFunc_api_Val_api_Val.L1
 conv => arg 1; simp (disch := first | exact Zd | fail) only [ZZ, d195_at, simprocAttr, c4_p1, c3_p1, b4_p1, b3_p1, nm_p1]
 refine J.eq go_seq ?_
 conv => arg 1; simp (disch := first | exact Zd | fail) only [ZZ, d195_at, simprocAttr, c4_p1, c3_p1, b4_p1, b3_p1, nm_p1]
 refine J.ite (fun h1 => ?_) (fun h1 => ?_)
 ·have h1' := decide_eq_true h1
  have h1'' : decide ((x1.length : Int) ≤ x4) = false := decide_eq_false (by omega)
  conv => arg 1; simp (disch := first | exact Zd | fail) only [ZZ, d195_at, simprocAttr, c4_p1, c3_p1, b4_p1, b3_p1, nm_p1, h1'', h1']
  refine J.eq ret_seq ?_
  refine J.eq go_seq ?_
  refine J.at fun x7 h2 h3 h4 => ?_
  refine J.bind fun x8 h5 => ?_
  have e_h5 := hp_p1 _ _ h5
  try simp only [NN, NT, LN, simprocAttr, DT] at e_h5
  conv => arg 1; simp (disch := first | exact Zd | fail) only [ZZ, d195_at, simprocAttr, c4_p1, c3_p1, b4_p1, b3_p1, nm_p1, h1'', h1', fm_cut c_T_Val_len h4, fm_fit c_T_Val_len h4, fm_at c_T_Val_len h4, fm_at0 c_T_Val_len h4, e_h5]
  refine J.ite (fun h6 => ?_) (fun h6 => ?_)
  ·have h6' : x8 = true := h6
   refine J.some ?_
   simp (maxSteps := 20000000) (disch := first | exact Zd | fail) only [ZZ, d195_at, simprocAttr, c4_p1, c3_p1, b4_p1, b3_p1, nm_p1, h1'', h1', fm_cut c_T_Val_len h4, fm_fit c_T_Val_len h4, fm_at c_T_Val_len h4, fm_at0 c_T_Val_len h4, e_h5, h6', FN]
  ·have h6' : x8 = false := Bool.eq_false_iff.2 h6
   conv => arg 1; simp (disch := first | exact Zd | fail) only [ZZ, d195_at, simprocAttr, c4_p1, c3_p1, b4_p1, b3_p1, nm_p1, h1'', h1', fm_cut c_T_Val_len h4, fm_fit c_T_Val_len h4, fm_at c_T_Val_len h4, fm_at0 c_T_Val_len h4, e_h5, h6']
   refine J.eq ret_seq ?_
   conv => arg 1; simp (disch := first | exact Zd | fail) only [ZZ, d195_at, simprocAttr, c4_p1, c3_p1, b4_p1, b3_p1, nm_p1, h1'', h1', fm_cut c_T_Val_len h4, fm_fit c_T_Val_len h4, fm_at c_T_Val_len h4, fm_at0 c_T_Val_len h4, e_h5, h6']
   refine J.next (s := wk .i64 (x4 + 1)) hn1 ?_ ?_
   ·exact Ze
   ·exact Zh
 ·have h1' := decide_eq_false h1
  have h1'' : decide ((x1.length : Int) ≤ x4) = true := decide_eq_true (by omega)
  conv => arg 1; simp (disch := first | exact Zd | fail) only [ZZ, d195_at, simprocAttr, c4_p1, c3_p1, b4_p1, b3_p1, nm_p1, h1'', h1']
  refine J.eq ret_seq ?_
  refine J.some ?_
  simp (maxSteps := 20000000) (disch := first | exact Zd | fail) only [ZZ, d195_at, simprocAttr, c4_p1, c3_p1, b4_p1, b3_p1, nm_p1, h1'', h1', FN]
noncomputable def t195 (fu : Nat) (x1 : List T_Val) (p1 : T_Val → Option Bool) (fv_p1 : FuncId) (ca_p1 : List AV) : CallP := orE fv_p1 (mkC (fun (t : T_Val) => ((.agg (c_T_Val t)) :: ca_p1 : List AV)) (fun t => p1 t) (fun r => .v (.bool r))) (noP)
theorem t195_ok (fu : Nat) (x1 : List T_Val) (p1 : T_Val → Option Bool) (fv_p1 : FuncId) (ca_p1 : List AV) (cap_p1 : Capt ca_p1) (hp_p1 : ∀ (y0 : T_Val) r, p1 y0 = some r → PureOK Tryz.prog fv_p1 ((.agg (c_T_Val y0)) :: ca_p1) (.v (.bool r))) : CpOK Tryz.prog (t195 fu x1 p1 fv_p1 ca_p1) := orE_ok (noP_ok) (mkC_ok (fun t b h => hp_p1 t b h))
theorem ok195 (fu : Nat) (x1 : List T_Val) (p1 : T_Val → Option Bool) (fv_p1 : FuncId) (ca_p1 : List AV) (cap_p1 : Capt ca_p1) (hp_p1 : ∀ (y0 : T_Val) r, p1 y0 = some r → PureOK Tryz.prog fv_p1 ((.agg (c_T_Val y0)) :: ca_p1) (.v (.bool r))) (r) (h : slices_IndexFunc_api_Val_api_Val fu x1 p1 = some r) : PureOK Tryz.prog 195 [.arr x1.length (fm c_T_Val x1), .fn fv_p1 [] ca_p1] (e195 r) :=
  pure_J mixed (cp := t195 fu x1 p1 fv_p1 ca_p1) (t195_ok fu x1 p1 fv_p1 ca_p1 cap_p1 hp_p1) noI_ok i195 (w195 _ fu x1 p1 fv_p1 ca_p1 cap_p1 (fun y0 r h => orE_hit (mkC_at (a := y0) (by intro a b h; first | (exact rfl) | (simp only [INJ, IJ] at h; first | exact h | (simp_all [Prod.ext_iff]) )) h)) ) h
open Aw (d160)
def d160_at := by have h := tabL Aw.d160.eq_1; simp only [AllAt, Nat.zero_add, Nat.reduceAdd] at h; exact h
theorem i160 : finfo Tryz.prog 160 d160 = some ⟨bodyOf Tryz.f160, [.tmp 4], [4]⟩ := finfo_at Tryz.func160 rfl (by kernel_rfl) (by kernel_rfl)
def e160 : Bool → AV := fun r => .v (.bool r)
set_option maxHeartbeats 20000000 in
theorem w160 (cp : CallP) (fu : Nat) (x1 : List T_Val) (p1 : T_Val → Option Bool) (fv_p1 : FuncId) (ca_p1 : List AV) (cap_p1 : Capt ca_p1) (hp_p1 : ∀ (y0 : T_Val) r, p1 y0 = some r → cp fv_p1 ((.agg (c_T_Val y0)) :: ca_p1) = some (.v (.bool r))) (H195_0 : ∀ (a0 : List T_Val) r, slices_IndexFunc_api_Val_api_Val fu a0 p1 = some r → cp 195 [.arr a0.length (fm c_T_Val a0), .fn fv_p1 [] ca_p1] = some (.v (.int .i64 r))) : J (go Tryz.prog noC cp noI 0 [] d160 fu (fin Tryz.prog [.tmp 4] [4]) (bodyOf Tryz.f160) (initE 0 [.arr x1.length (fm c_T_Val x1), .fn fv_p1 [] ca_p1]) [] []) (slices_ContainsFunc_api_Val_api_Val fu x1 p1) e160 := by
 unfold slices_ContainsFunc_api_Val_api_Val e160
 have da := d160_at
 have c4_p1 := fun g => (cap_p1.1 g).1; have c3_p1 := fun g => (cap_p1.1 g).2.1; have b4_p1 := fun g => (cap_p1.1 g).2.2.1; have b3_p1 := fun g => (cap_p1.1 g).2.2.2; have nm_p1 := cap_p1.2
 refine J.bind fun x2 h1 => ?_
 have e_h1 := H195_0 _ _ h1
 try simp only [NN, NT, LN, simprocAttr, DT] at e_h1
 refine J.some ?_
 simp (maxSteps := 20000000) (disch := first | exact Zd | fail) only [bodyOf, Tryz.f160, ZZ, d160_at, simprocAttr, c4_p1, c3_p1, b4_p1, b3_p1, nm_p1, e_h1, FN]
noncomputable def t160 (fu : Nat) (x1 : List T_Val) (p1 : T_Val → Option Bool) (fv_p1 : FuncId) (ca_p1 : List AV) : CallP := orE 195 (mkC (fun (t : List T_Val) => ([.arr t.length (fm c_T_Val t), .fn fv_p1 [] ca_p1] : List AV)) (fun t => slices_IndexFunc_api_Val_api_Val fu t p1) e195) (orE fv_p1 (mkC (fun (t : T_Val) => ((.agg (c_T_Val t)) :: ca_p1 : List AV)) (fun t => p1 t) (fun r => .v (.bool r))) (noP))
theorem t160_ok (fu : Nat) (x1 : List T_Val) (p1 : T_Val → Option Bool) (fv_p1 : FuncId) (ca_p1 : List AV) (cap_p1 : Capt ca_p1) (hp_p1 : ∀ (y0 : T_Val) r, p1 y0 = some r → PureOK Tryz.prog fv_p1 ((.agg (c_T_Val y0)) :: ca_p1) (.v (.bool r))) : CpOK Tryz.prog (t160 fu x1 p1 fv_p1 ca_p1) := orE_ok (orE_ok (noP_ok) (mkC_ok (fun t b h => hp_p1 t b h))) (mkC_ok (fun t b h => ok195 fu t p1 fv_p1 ca_p1 cap_p1 hp_p1 b h))
theorem ok160 (fu : Nat) (x1 : List T_Val) (p1 : T_Val → Option Bool) (fv_p1 : FuncId) (ca_p1 : List AV) (cap_p1 : Capt ca_p1) (hp_p1 : ∀ (y0 : T_Val) r, p1 y0 = some r → PureOK Tryz.prog fv_p1 ((.agg (c_T_Val y0)) :: ca_p1) (.v (.bool r))) (r) (h : slices_ContainsFunc_api_Val_api_Val fu x1 p1 = some r) : PureOK Tryz.prog 160 [.arr x1.length (fm c_T_Val x1), .fn fv_p1 [] ca_p1] (e160 r) :=
  pure_J mixed (cp := t160 fu x1 p1 fv_p1 ca_p1) (t160_ok fu x1 p1 fv_p1 ca_p1 cap_p1 hp_p1) noI_ok i160 (w160 _ fu x1 p1 fv_p1 ca_p1 cap_p1 (fun y0 r h => orE_skip (fun hfv => mkC_none (by intro t h; simp at h)) (orE_hit (mkC_at (a := y0) (by intro a b h; first | (exact rfl) | (simp only [INJ, IJ] at h; first | exact h | (simp_all [Prod.ext_iff]) )) h))) (fun a0 r h => orE_hit (mkC_at (a := a0) (by intro a b h; first | (exact rfl) | (simp only [INJ, IJ] at h; first | exact h | (simp_all [Prod.ext_iff]) )) h))) h
open Aw (d168)
def d168_at := by have h := tabL Aw.d168.eq_1; simp only [AllAt, Nat.zero_add, Nat.reduceAdd] at h; exact h
theorem i168 : finfo Tryz.prog 168 d168 = some ⟨bodyOf Tryz.f168, [.tmp 4], [4]⟩ := finfo_at Tryz.func168 rfl (by kernel_rfl) (by kernel_rfl)
def e168 : Bool → AV := fun r => .v (.bool r)
def slices_Equal_int.m1 : LJ 1 8 Unit Int := ⟨fun r s e => [(0, er e 0), (1, er e 1), (12, er e 12), (13, .v (.int .i64 s))], fun r s h => []⟩
set_option maxHeartbeats 20000000 in
open slices_Equal_int in
theorem w168 (cp : CallP) (fu : Nat) (x1 : List Int) (x2 : List Int)  : J (go Tryz.prog noC cp noI 0 [] d168 fu (fin Tryz.prog [.tmp 4] [4]) (bodyOf Tryz.f168) (initE 0 [.arr x1.length (lm (ik .i64) x1), .arr x2.length (lm (ik .i64) x2)]) [] []) (slices_Equal_int fu x1 x2) e168 := by
 unfold slices_Equal_int e168
 have da := d168_at
 conv => arg 1; simp only [bodyOf, Tryz.f168]
 have z0 := d168_at
 exact Wk
theorem ok168 (fu : Nat) (x1 : List Int) (x2 : List Int) (r) (h : slices_Equal_int fu x1 x2 = some r) : PureOK Tryz.prog 168 [.arr x1.length (lm (ik .i64) x1), .arr x2.length (lm (ik .i64) x2)] (e168 r) := pureT mixed [] (ids := []) rfl (by decide) i168 (C := noC) (ci := fun cp => noI) (fun cp ok => noI_ok) (fun cp H => w168 cp fu x1 x2 ) h
open Aw (d162)
def d162_at := by have h := tabL Aw.d162.eq_1; simp only [AllAt, Nat.zero_add, Nat.reduceAdd] at h; exact h
theorem i162 : finfo Tryz.prog 162 d162 = some ⟨bodyOf Tryz.f162, [.tmp 2], [4]⟩ := finfo_at Tryz.func162 rfl (by kernel_rfl) (by kernel_rfl)
def e162 : Bool → AV := fun r => .v (.bool r)
structure K23 (fu : Nat) (cp : CallP) : Prop where
 ap : ∀ {a0 : T_Tensor} {r}, tens_Check fu a0 = some r → cp 23 [.agg (c_T_Tensor a0)] = some (.v (.int .i64 r))
noncomputable def C23 (fu : Nat) : Cm Tryz.prog T_Tensor Int := ⟨23, fun t => [.agg (c_T_Tensor t)], fun t => tens_Check fu t, e23, fun t b h => ok23 fu t  b h, Zi⟩
theorem u23 {fu : Nat} {cp : CallP} (H : Hit cp (C23 fu).ct) : K23 fu cp := ⟨fun {a0 r} h => (C23 fu).at H a0 r h⟩
structure K168 (fu : Nat) (cp : CallP) : Prop where
 ap : ∀ {a0 : List Int} {a1 : List Int} {r}, slices_Equal_int fu a0 a1 = some r → cp 168 [.arr a0.length (lm (ik .i64) a0), .arr a1.length (lm (ik .i64) a1)] = some (.v (.bool r))
noncomputable def C168 (fu : Nat) : Cm Tryz.prog ((List Int) × (List Int)) Bool := ⟨168, fun t => [.arr t.1.length (lm (ik .i64) t.1), .arr t.2.length (lm (ik .i64) t.2)], fun t => slices_Equal_int fu t.1 t.2, e168, fun t b h => ok168 fu t.1 t.2  b h, Zi⟩
theorem u168 {fu : Nat} {cp : CallP} (H : Hit cp (C168 fu).ct) : K168 fu cp := ⟨fun {a0 a1 r} h => (C168 fu).at H (a0, a1) r h⟩
set_option maxHeartbeats 20000000 in
theorem w162 (cp : CallP) (fu : Nat) (x1 : T_Val) (H1 : K23 fu cp) (H2 : K168 fu cp) : J (go Tryz.prog noC cp noI 0 [] d162 fu (fin Tryz.prog [.tmp 2] [4]) (bodyOf Tryz.f162) (initE 0 [.agg (c_T_Val x1)]) [] []) (infer_held fu x1) e162 := by
 unfold infer_held e162
 have da := d162_at
 conv => arg 1; simp only [bodyOf, Tryz.f162]
 have z0 := d162_at
 exact Wk
theorem ok162 (fu : Nat) (x1 : T_Val) (r) (h : infer_held fu x1 = some r) : PureOK Tryz.prog 162 [.agg (c_T_Val x1)] (e162 r) := pureT mixed [(C23 fu).ct, (C168 fu).ct] (ids := [23, 168]) rfl (by decide) i162 (C := noC) (ci := fun cp => noI) (fun cp ok => noI_ok) (fun cp H => w162 cp fu x1 (u23 H.1) (u168 H.2.1)) h
open Aw (d161)
def d161_at := by have h := tabL Aw.d161.eq_1; simp only [AllAt, Nat.zero_add, Nat.reduceAdd] at h; exact h
theorem i161 : finfo Tryz.prog 161 d161 = some ⟨bodyOf Tryz.f161, [.tmp 2], [4]⟩ := finfo_at Tryz.func161 rfl (by kernel_rfl) (by kernel_rfl)
def e161 : Bool → AV := fun r => .v (.bool r)
structure K162 (fu : Nat) (cp : CallP) : Prop where
 ap : ∀ {a0 : T_Val} {r}, infer_held fu a0 = some r → cp 162 [.agg (c_T_Val a0)] = some (.v (.bool r))
noncomputable def C162 (fu : Nat) : Cm Tryz.prog T_Val Bool := ⟨162, fun t => [.agg (c_T_Val t)], fun t => infer_held fu t, e162, fun t b h => ok162 fu t  b h, Zi⟩
theorem u162 {fu : Nat} {cp : CallP} (H : Hit cp (C162 fu).ct) : K162 fu cp := ⟨fun {a0 r} h => (C162 fu).at H a0 r h⟩
set_option maxHeartbeats 20000000 in
theorem w161 (cp : CallP) (fu : Nat) (x1 : T_Val) (H1 : K162 fu cp) : J (go Tryz.prog noC cp noI 0 [] d161 fu (fin Tryz.prog [.tmp 2] [4]) (bodyOf Tryz.f161) (initE 0 [.agg (c_T_Val x1)]) [] []) (infer_ask_told_1 fu x1) e161 := by
 unfold infer_ask_told_1 e161
 have da := d161_at
 conv => arg 1; simp only [bodyOf, Tryz.f161]
 have z0 := d161_at
 exact Wk
theorem ok161 (fu : Nat) (x1 : T_Val) (r) (h : infer_ask_told_1 fu x1 = some r) : PureOK Tryz.prog 161 [.agg (c_T_Val x1)] (e161 r) := pureT mixed [(C162 fu).ct] (ids := [162]) rfl (by decide) i161 (C := noC) (ci := fun cp => noI) (fun cp ok => noI_ok) (fun cp H => w161 cp fu x1 (u162 H.1)) h
open Aw (d163)
def d163_at := by have h := tabL Aw.d163.eq_1; simp only [AllAt, Nat.zero_add, Nat.reduceAdd] at h; exact h
theorem i163 : finfo Tryz.prog 163 d163 = some ⟨bodyOf Tryz.f163, [.tmp 2], [4]⟩ := finfo_at Tryz.func163 rfl (by kernel_rfl) (by kernel_rfl)
def e163 : Bool → AV := fun r => .v (.bool r)
set_option maxHeartbeats 20000000 in
theorem w163 (cp : CallP) (fu : Nat) (x1 : T_Val)  : J (go Tryz.prog noC cp noI 0 [] d163 fu (fin Tryz.prog [.tmp 2] [4]) (bodyOf Tryz.f163) (initE 0 [.agg (c_T_Val x1)]) [] []) (infer_ask_told_2 fu x1) e163 := by
 unfold infer_ask_told_2 e163
 have da := d163_at
 conv => arg 1; simp only [bodyOf, Tryz.f163]
 have z0 := d163_at
 exact Wk
theorem ok163 (fu : Nat) (x1 : T_Val) (r) (h : infer_ask_told_2 fu x1 = some r) : PureOK Tryz.prog 163 [.agg (c_T_Val x1)] (e163 r) := pureT mixed [] (ids := []) rfl (by decide) i163 (C := noC) (ci := fun cp => noI) (fun cp ok => noI_ok) (fun cp H => w163 cp fu x1 ) h
open Aw (d196)
def d196_at := by have h := tabL Aw.d196.eq_1; simp only [AllAt, Nat.zero_add, Nat.reduceAdd] at h; exact h
theorem i196 : finfo Tryz.prog 196 d196 = some ⟨bodyOf Tryz.f196, [.tmp 4], [3]⟩ := finfo_at Tryz.func196 rfl (by kernel_rfl) (by kernel_rfl)
def e196 : Int → AV := fun r => .v (.int .i64 r)
set_option maxHeartbeats 20000000 in
theorem w196 (cp : CallP) (fu : Nat) (x1 : List Int) (p1 : Int → Option Bool) (fv_p1 : FuncId) (ca_p1 : List AV) (cap_p1 : Capt ca_p1) (hp_p1 : ∀ (y0 : Int) r, p1 y0 = some r → cp fv_p1 ((.v (.int .i64 y0)) :: ca_p1) = some (.v (.bool r))) : J (go Tryz.prog noC cp noI 0 [] d196 fu (fin Tryz.prog [.tmp 4] [3]) (bodyOf Tryz.f196) (initE 0 [.arr x1.length (lm (ik .i64) x1), .fn fv_p1 [] ca_p1]) [] []) (slices_IndexFunc_int64 fu x1 p1) e196 := by
 unfold slices_IndexFunc_int64 e196
 have da := d196_at
 have c4_p1 := fun g => (cap_p1.1 g).1; have c3_p1 := fun g => (cap_p1.1 g).2.1; have b4_p1 := fun g => (cap_p1.1 g).2.2.1; have b3_p1 := fun g => (cap_p1.1 g).2.2.2; have nm_p1 := cap_p1.2
 conv => arg 1; simp (disch := first | exact Zd | fail) only [bodyOf, Tryz.f196, ZZ, d196_at, simprocAttr, c4_p1, c3_p1, b4_p1, b3_p1, nm_p1]
 refine J.eq go_seq ?_
 conv => arg 1; simp (disch := first | exact Zd | fail) only [ZZ, d196_at, simprocAttr, c4_p1, c3_p1, b4_p1, b3_p1, nm_p1]
 unfold slices_IndexFunc_int64.W1
 refine J.loop (fun (s : Int) => ([(0, .arr x1.length (lm (ik .i64) x1)), (1, .fn fv_p1 [] ca_p1), (7, .v (.int .i64 (x1.length : Int))), (8, .v (.int .i64 s))], [])) (fun next s => slices_IndexFunc_int64.L1 fu p1 x1 next s) (s0 := 0) ?_ ?_ ?_
 ·exact Ze
 ·exact Zh
 rintro nx1 k1 hn1 x4
 show J _ (slices_IndexFunc_int64.L1 fu p1 x1 nx1 x4) _
 unfold slices_IndexFunc_int64.L1
 conv => arg 1; simp (disch := first | exact Zd | fail) only [ZZ, d196_at, simprocAttr, c4_p1, c3_p1, b4_p1, b3_p1, nm_p1]
 refine J.eq go_seq ?_
 conv => arg 1; simp (disch := first | exact Zd | fail) only [ZZ, d196_at, simprocAttr, c4_p1, c3_p1, b4_p1, b3_p1, nm_p1]
 refine J.ite (fun h1 => ?_) (fun h1 => ?_)
 ·have h1' := decide_eq_true h1
  have h1'' : decide ((x1.length : Int) ≤ x4) = false := decide_eq_false (by omega)
  conv => arg 1; simp (disch := first | exact Zd | fail) only [ZZ, d196_at, simprocAttr, c4_p1, c3_p1, b4_p1, b3_p1, nm_p1, h1'', h1']
  refine J.eq ret_seq ?_
  refine J.eq go_seq ?_
  refine J.at fun x7 h2 h3 h4 => ?_
  refine J.bind fun x8 h5 => ?_
  have e_h5 := hp_p1 _ _ h5
  try simp only [NN, NT, LN, simprocAttr, DT] at e_h5
  conv => arg 1; simp (disch := first | exact Zd | fail) only [ZZ, d196_at, simprocAttr, c4_p1, c3_p1, b4_p1, b3_p1, nm_p1, h1'', h1', lm_ik h4, e_h5]
  refine J.ite (fun h6 => ?_) (fun h6 => ?_)
  ·have h6' : x8 = true := h6
   refine J.some ?_
   simp (maxSteps := 20000000) (disch := first | exact Zd | fail) only [ZZ, d196_at, simprocAttr, c4_p1, c3_p1, b4_p1, b3_p1, nm_p1, h1'', h1', lm_ik h4, e_h5, h6', FN]
  ·have h6' : x8 = false := Bool.eq_false_iff.2 h6
   conv => arg 1; simp (disch := first | exact Zd | fail) only [ZZ, d196_at, simprocAttr, c4_p1, c3_p1, b4_p1, b3_p1, nm_p1, h1'', h1', lm_ik h4, e_h5, h6']
   refine J.eq ret_seq ?_
   conv => arg 1; simp (disch := first | exact Zd | fail) only [ZZ, d196_at, simprocAttr, c4_p1, c3_p1, b4_p1, b3_p1, nm_p1, h1'', h1', lm_ik h4, e_h5, h6']
   refine J.next (s := wk .i64 (x4 + 1)) hn1 ?_ ?_
   ·exact Ze
   ·exact Zh
 ·have h1' := decide_eq_false h1
  have h1'' : decide ((x1.length : Int) ≤ x4) = true := decide_eq_true (by omega)
  conv => arg 1; simp (disch := first | exact Zd | fail) only [ZZ, d196_at, simprocAttr, c4_p1, c3_p1, b4_p1, b3_p1, nm_p1, h1'', h1']
  refine J.eq ret_seq ?_
  refine J.some ?_
  simp (maxSteps := 20000000) (disch := first | exact Zd | fail) only [ZZ, d196_at, simprocAttr, c4_p1, c3_p1, b4_p1, b3_p1, nm_p1, h1'', h1', FN]
noncomputable def t196 (fu : Nat) (x1 : List Int) (p1 : Int → Option Bool) (fv_p1 : FuncId) (ca_p1 : List AV) : CallP := orE fv_p1 (mkC (fun (t : Int) => ((.v (.int .i64 t)) :: ca_p1 : List AV)) (fun t => p1 t) (fun r => .v (.bool r))) (noP)
theorem t196_ok (fu : Nat) (x1 : List Int) (p1 : Int → Option Bool) (fv_p1 : FuncId) (ca_p1 : List AV) (cap_p1 : Capt ca_p1) (hp_p1 : ∀ (y0 : Int) r, p1 y0 = some r → PureOK Tryz.prog fv_p1 ((.v (.int .i64 y0)) :: ca_p1) (.v (.bool r))) : CpOK Tryz.prog (t196 fu x1 p1 fv_p1 ca_p1) := orE_ok (noP_ok) (mkC_ok (fun t b h => hp_p1 t b h))
theorem ok196 (fu : Nat) (x1 : List Int) (p1 : Int → Option Bool) (fv_p1 : FuncId) (ca_p1 : List AV) (cap_p1 : Capt ca_p1) (hp_p1 : ∀ (y0 : Int) r, p1 y0 = some r → PureOK Tryz.prog fv_p1 ((.v (.int .i64 y0)) :: ca_p1) (.v (.bool r))) (r) (h : slices_IndexFunc_int64 fu x1 p1 = some r) : PureOK Tryz.prog 196 [.arr x1.length (lm (ik .i64) x1), .fn fv_p1 [] ca_p1] (e196 r) :=
  pure_J mixed (cp := t196 fu x1 p1 fv_p1 ca_p1) (t196_ok fu x1 p1 fv_p1 ca_p1 cap_p1 hp_p1) noI_ok i196 (w196 _ fu x1 p1 fv_p1 ca_p1 cap_p1 (fun y0 r h => orE_hit (mkC_at (a := y0) (by intro a b h; first | (exact rfl) | (simp only [INJ, IJ] at h; first | exact h | (simp_all [Prod.ext_iff]) )) h)) ) h
open Aw (d165)
def d165_at := by have h := tabL Aw.d165.eq_1; simp only [AllAt, Nat.zero_add, Nat.reduceAdd] at h; exact h
theorem i165 : finfo Tryz.prog 165 d165 = some ⟨bodyOf Tryz.f165, [.tmp 4], [4]⟩ := finfo_at Tryz.func165 rfl (by kernel_rfl) (by kernel_rfl)
def e165 : Bool → AV := fun r => .v (.bool r)
set_option maxHeartbeats 20000000 in
theorem w165 (cp : CallP) (fu : Nat) (x1 : List Int) (p1 : Int → Option Bool) (fv_p1 : FuncId) (ca_p1 : List AV) (cap_p1 : Capt ca_p1) (hp_p1 : ∀ (y0 : Int) r, p1 y0 = some r → cp fv_p1 ((.v (.int .i64 y0)) :: ca_p1) = some (.v (.bool r))) (H196_0 : ∀ (a0 : List Int) r, slices_IndexFunc_int64 fu a0 p1 = some r → cp 196 [.arr a0.length (lm (ik .i64) a0), .fn fv_p1 [] ca_p1] = some (.v (.int .i64 r))) : J (go Tryz.prog noC cp noI 0 [] d165 fu (fin Tryz.prog [.tmp 4] [4]) (bodyOf Tryz.f165) (initE 0 [.arr x1.length (lm (ik .i64) x1), .fn fv_p1 [] ca_p1]) [] []) (slices_ContainsFunc_int64 fu x1 p1) e165 := by
 unfold slices_ContainsFunc_int64 e165
 have da := d165_at
 have c4_p1 := fun g => (cap_p1.1 g).1; have c3_p1 := fun g => (cap_p1.1 g).2.1; have b4_p1 := fun g => (cap_p1.1 g).2.2.1; have b3_p1 := fun g => (cap_p1.1 g).2.2.2; have nm_p1 := cap_p1.2
 refine J.bind fun x2 h1 => ?_
 have e_h1 := H196_0 _ _ h1
 try simp only [NN, NT, LN, simprocAttr, DT] at e_h1
 refine J.some ?_
 simp (maxSteps := 20000000) (disch := first | exact Zd | fail) only [bodyOf, Tryz.f165, ZZ, d165_at, simprocAttr, c4_p1, c3_p1, b4_p1, b3_p1, nm_p1, e_h1, FN]
noncomputable def t165 (fu : Nat) (x1 : List Int) (p1 : Int → Option Bool) (fv_p1 : FuncId) (ca_p1 : List AV) : CallP := orE 196 (mkC (fun (t : List Int) => ([.arr t.length (lm (ik .i64) t), .fn fv_p1 [] ca_p1] : List AV)) (fun t => slices_IndexFunc_int64 fu t p1) e196) (orE fv_p1 (mkC (fun (t : Int) => ((.v (.int .i64 t)) :: ca_p1 : List AV)) (fun t => p1 t) (fun r => .v (.bool r))) (noP))
theorem t165_ok (fu : Nat) (x1 : List Int) (p1 : Int → Option Bool) (fv_p1 : FuncId) (ca_p1 : List AV) (cap_p1 : Capt ca_p1) (hp_p1 : ∀ (y0 : Int) r, p1 y0 = some r → PureOK Tryz.prog fv_p1 ((.v (.int .i64 y0)) :: ca_p1) (.v (.bool r))) : CpOK Tryz.prog (t165 fu x1 p1 fv_p1 ca_p1) := orE_ok (orE_ok (noP_ok) (mkC_ok (fun t b h => hp_p1 t b h))) (mkC_ok (fun t b h => ok196 fu t p1 fv_p1 ca_p1 cap_p1 hp_p1 b h))
theorem ok165 (fu : Nat) (x1 : List Int) (p1 : Int → Option Bool) (fv_p1 : FuncId) (ca_p1 : List AV) (cap_p1 : Capt ca_p1) (hp_p1 : ∀ (y0 : Int) r, p1 y0 = some r → PureOK Tryz.prog fv_p1 ((.v (.int .i64 y0)) :: ca_p1) (.v (.bool r))) (r) (h : slices_ContainsFunc_int64 fu x1 p1 = some r) : PureOK Tryz.prog 165 [.arr x1.length (lm (ik .i64) x1), .fn fv_p1 [] ca_p1] (e165 r) :=
  pure_J mixed (cp := t165 fu x1 p1 fv_p1 ca_p1) (t165_ok fu x1 p1 fv_p1 ca_p1 cap_p1 hp_p1) noI_ok i165 (w165 _ fu x1 p1 fv_p1 ca_p1 cap_p1 (fun y0 r h => orE_skip (fun hfv => mkC_none (by intro t h; simp at h)) (orE_hit (mkC_at (a := y0) (by intro a b h; first | (exact rfl) | (simp only [INJ, IJ] at h; first | exact h | (simp_all [Prod.ext_iff]) )) h))) (fun a0 r h => orE_hit (mkC_at (a := a0) (by intro a b h; first | (exact rfl) | (simp only [INJ, IJ] at h; first | exact h | (simp_all [Prod.ext_iff]) )) h))) h
open Aw (d166)
def d166_at := by have h := tabL Aw.d166.eq_1; simp only [AllAt, Nat.zero_add, Nat.reduceAdd] at h; exact h
theorem i166 : finfo Tryz.prog 166 d166 = some ⟨bodyOf Tryz.f166, [.tmp 2], [4]⟩ := finfo_at Tryz.func166 rfl (by kernel_rfl) (by kernel_rfl)
def e166 : Bool → AV := fun r => .v (.bool r)
set_option maxHeartbeats 20000000 in
theorem w166 (cp : CallP) (fu : Nat) (x1 : Int)  : J (go Tryz.prog noC cp noI 0 [] d166 fu (fin Tryz.prog [.tmp 2] [4]) (bodyOf Tryz.f166) (initE 0 [.v (.int .i64 x1)]) [] []) (infer_ask_told_3_1 fu x1) e166 := by
 unfold infer_ask_told_3_1 e166
 have da := d166_at
 conv => arg 1; simp only [bodyOf, Tryz.f166]
 have z0 := d166_at
 exact Wk
theorem ok166 (fu : Nat) (x1 : Int) (r) (h : infer_ask_told_3_1 fu x1 = some r) : PureOK Tryz.prog 166 [.v (.int .i64 x1)] (e166 r) := pureT mixed [] (ids := []) rfl (by decide) i166 (C := noC) (ci := fun cp => noI) (fun cp ok => noI_ok) (fun cp H => w166 cp fu x1 ) h
open Aw (d164)
def d164_at := by have h := tabL Aw.d164.eq_1; simp only [AllAt, Nat.zero_add, Nat.reduceAdd] at h; exact h
theorem i164 : finfo Tryz.prog 164 d164 = some ⟨bodyOf Tryz.f164, [.tmp 2], [4]⟩ := finfo_at Tryz.func164 rfl (by kernel_rfl) (by kernel_rfl)
def e164 : Bool → AV := fun r => .v (.bool r)
structure K165 (fu : Nat) (cp : CallP) : Prop where
 ap : ∀ {a0 : List Int} {r}, slices_ContainsFunc_int64 fu a0 (fun y0 => infer_ask_told_3_1 fu y0) = some r → cp 165 [.arr a0.length (lm (ik .i64) a0), .fn 166 [] []] = some (.v (.bool r))
noncomputable def C165 (fu : Nat) : Cm Tryz.prog (List Int) Bool := ⟨165, fun t => [.arr t.length (lm (ik .i64) t), .fn 166 [] []], fun t => slices_ContainsFunc_int64 fu t (fun y0 => infer_ask_told_3_1 fu y0), e165, fun t b h => ok165 fu t (fun y0 => infer_ask_told_3_1 fu y0) 166 [] Capt.nil (fun y0 r h => ok166 fu y0  r h) b h, Zi⟩
theorem u165 {fu : Nat} {cp : CallP} (H : Hit cp (C165 fu).ct) : K165 fu cp := ⟨fun {a0 r} h => (C165 fu).at H a0 r h⟩
set_option maxHeartbeats 20000000 in
theorem w164 (cp : CallP) (fu : Nat) (x1 : T_Val) (H1 : K165 fu cp) : J (go Tryz.prog noC cp noI 0 [] d164 fu (fin Tryz.prog [.tmp 2] [4]) (bodyOf Tryz.f164) (initE 0 [.agg (c_T_Val x1)]) [] []) (infer_ask_told_3 fu x1) e164 := by
 unfold infer_ask_told_3 e164
 have da := d164_at
 conv => arg 1; simp only [bodyOf, Tryz.f164]
 have z0 := d164_at
 exact Wk
theorem ok164 (fu : Nat) (x1 : T_Val) (r) (h : infer_ask_told_3 fu x1 = some r) : PureOK Tryz.prog 164 [.agg (c_T_Val x1)] (e164 r) := pureT mixed [(C165 fu).ct] (ids := [165]) rfl (by decide) i164 (C := noC) (ci := fun cp => noI) (fun cp ok => noI_ok) (fun cp H => w164 cp fu x1 (u165 H.1)) h
open Aw (d94)
def d94_at := by have h := tabL Aw.d94.eq_1; simp only [AllAt, Nat.zero_add, Nat.reduceAdd] at h; exact h
theorem i94 : finfo Tryz.prog 94 d94 = some ⟨bodyOf Tryz.f94, [.tmp 2], [32]⟩ := finfo_at Tryz.func94 rfl (by kernel_rfl) (by kernel_rfl)
def e94 : Int → AV := fun r => .v (.int .i64 r)
set_option maxHeartbeats 20000000 in
theorem w94 (cp : CallP) (fu : Nat) (x1 : T_infer_ask) (H159_0 : ∀ (a0 : T_infer_ask) r, infer_ask_lists fu a0 = some r → cp 159 [.agg (c_T_infer_ask a0)] = some (.fresh 8 r.length (fm c_T_Val r))) (H160_0 : ∀ (a0 : List T_Val) r, slices_ContainsFunc_api_Val_api_Val fu a0 (fun y0 => infer_ask_told_1 fu y0) = some r → cp 160 [.arr a0.length (fm c_T_Val a0), .fn 161 [] []] = some (.v (.bool r))) (H160_1 : ∀ (a0 : List T_Val) r, slices_ContainsFunc_api_Val_api_Val fu a0 (fun y0 => infer_ask_told_2 fu y0) = some r → cp 160 [.arr a0.length (fm c_T_Val a0), .fn 163 [] []] = some (.v (.bool r))) (H160_2 : ∀ (a0 : List T_Val) r, slices_ContainsFunc_api_Val_api_Val fu a0 (fun y0 => infer_ask_told_3 fu y0) = some r → cp 160 [.arr a0.length (fm c_T_Val a0), .fn 164 [] []] = some (.v (.bool r))) : J (go Tryz.prog noC cp noI 0 [] d94 fu (fin Tryz.prog [.tmp 2] [32]) (bodyOf Tryz.f94) (initE 0 [.agg (c_T_infer_ask x1)]) [] []) (infer_ask_told fu x1) e94 := by
 unfold infer_ask_told e94
 have da := d94_at
 refine J.chk fun h1 => ?_
 refine J.bind fun x2 h2 => ?_
 have e_h2 := H159_0 _ _ h2
 try simp only [NN, NT, LN, simprocAttr, DT] at e_h2
 conv => arg 1; simp (disch := first | exact Zd | fail) only [bodyOf, Tryz.f94, ZZ, d94_at, simprocAttr, h1, e_h2]
 refine J.eq go_seq ?_
 refine J.bind fun x3 h3 => ?_
 have e_h3 := H160_0 _ _ h3
 try simp only [NN, NT, LN, simprocAttr, DT] at e_h3
 refine Jc ?_
 refine J.ite (fun h4 => ?_) (fun h4 => ?_)
 ·have h4' : x3 = true := h4
  refine J.some ?_
  exact Js
 ·have h4' : x3 = false := Bool.eq_false_iff.2 h4
  refine J.bind fun x4 h5 => ?_
  have e_h5 := H160_1 _ _ h5
  try simp only [NN, NT, LN, simprocAttr, DT] at e_h5
  refine Jc ?_
  refine J.ite (fun h6 => ?_) (fun h6 => ?_)
  ·have h6' : x4 = true := h6
   refine J.some ?_
   exact Js
  ·have h6' : x4 = false := Bool.eq_false_iff.2 h6
   refine Jc ?_
   refine J.eq go_seq ?_
   refine J.bind fun x5 h7 => ?_
   have e_h7 := H160_2 _ _ h7
   try simp only [NN, NT, LN, simprocAttr, DT] at e_h7
   refine Jc ?_
   refine J.eq ret_seq ?_
   refine Jc ?_
   refine J.ite (fun h8 => ?_) (fun h8 => ?_)
   ·have h8' : x5 = true := h8
    refine J.some ?_
    exact Js
   ·have h8' : x5 = false := Bool.eq_false_iff.2 h8
    refine Jc ?_
    refine J.eq ret_seq ?_
    refine J.some ?_
    exact Js
noncomputable def t94 (fu : Nat) : CallP := orE 159 (mkC (fun (t : T_infer_ask) => ([.agg (c_T_infer_ask t)] : List AV)) (fun t => infer_ask_lists fu t) e159) (orE 160 (mkC (fun (t : List T_Val) => ([.arr t.length (fm c_T_Val t), .fn 161 [] []] : List AV)) (fun t => slices_ContainsFunc_api_Val_api_Val fu t (fun y0 => infer_ask_told_1 fu y0)) e160) (orE 160 (mkC (fun (t : List T_Val) => ([.arr t.length (fm c_T_Val t), .fn 163 [] []] : List AV)) (fun t => slices_ContainsFunc_api_Val_api_Val fu t (fun y0 => infer_ask_told_2 fu y0)) e160) (orE 160 (mkC (fun (t : List T_Val) => ([.arr t.length (fm c_T_Val t), .fn 164 [] []] : List AV)) (fun t => slices_ContainsFunc_api_Val_api_Val fu t (fun y0 => infer_ask_told_3 fu y0)) e160) (noP))))
theorem t94_ok (fu : Nat) : CpOK Tryz.prog (t94 fu ) := orE_ok (orE_ok (orE_ok (orE_ok (noP_ok) (mkC_ok (fun t b h => ok160 fu t (fun y0 => infer_ask_told_3 fu y0) 164 [] Capt.nil (fun y0 r h => ok164 fu y0  r h) b h))) (mkC_ok (fun t b h => ok160 fu t (fun y0 => infer_ask_told_2 fu y0) 163 [] Capt.nil (fun y0 r h => ok163 fu y0  r h) b h))) (mkC_ok (fun t b h => ok160 fu t (fun y0 => infer_ask_told_1 fu y0) 161 [] Capt.nil (fun y0 r h => ok161 fu y0  r h) b h))) (mkC_ok (fun t b h => ok159 fu t  b h))
theorem ok94 (fu : Nat) (x1 : T_infer_ask) (r) (h : infer_ask_told fu x1 = some r) : PureOK Tryz.prog 94 [.agg (c_T_infer_ask x1)] (e94 r) :=
  pure_J mixed (cp := t94 fu ) (t94_ok fu  ) noI_ok i94 (w94 _ fu x1  (fun a0 r h => orE_hit (mkC_at (a := a0) (by intro a b h; first | (exact rfl) | (simp only [INJ, IJ] at h; first | exact h | (simp_all [Prod.ext_iff]) )) h)) (fun a0 r h => orE_miss (by decide) (orE_hit (mkC_at (a := a0) (by intro a b h; first | (exact rfl) | (simp only [INJ, IJ] at h; first | exact h | (simp_all [Prod.ext_iff]) )) h))) (fun a0 r h => orE_miss (by decide) (orE_next (mkC_none (by intro t h; simp at h)) (orE_hit (mkC_at (a := a0) (by intro a b h; first | (exact rfl) | (simp only [INJ, IJ] at h; first | exact h | (simp_all [Prod.ext_iff]) )) h)))) (fun a0 r h => orE_miss (by decide) (orE_next (mkC_none (by intro t h; simp at h)) (orE_next (mkC_none (by intro t h; simp at h)) (orE_hit (mkC_at (a := a0) (by intro a b h; first | (exact rfl) | (simp only [INJ, IJ] at h; first | exact h | (simp_all [Prod.ext_iff]) )) h)))))) h
open Aw (d43)
def d43_at := by have h := tabL Aw.d43.eq_1; simp only [AllAt, Nat.zero_add, Nat.reduceAdd] at h; exact h
theorem i43 : finfo Tryz.prog 43 d43 = some ⟨bodyOf Tryz.f43, [.tmp 2], [32]⟩ := finfo_at Tryz.func43 rfl (by kernel_rfl) (by kernel_rfl)
def e43 : Int → AV := fun r => .v (.int .i64 r)
structure K92 (fu : Nat) (cp : CallP) : Prop where
 ap : ∀ {a0 : T_infer_ask} {r}, infer_ask_typed fu a0 = some r → cp 92 [.agg (c_T_infer_ask a0)] = some (.v (.bool r))
noncomputable def C92 (fu : Nat) : Cm Tryz.prog T_infer_ask Bool := ⟨92, fun t => [.agg (c_T_infer_ask t)], fun t => infer_ask_typed fu t, e92, fun t b h => ok92 fu t  b h, Zi⟩
theorem u92 {fu : Nat} {cp : CallP} (H : Hit cp (C92 fu).ct) : K92 fu cp := ⟨fun {a0 r} h => (C92 fu).at H a0 r h⟩
structure K93 (fu : Nat) (cp : CallP) : Prop where
 ap : ∀ {a0 : T_infer_ask} {r}, infer_ask_attributes fu a0 = some r → cp 93 [.agg (c_T_infer_ask a0)] = some (.v (.bool r))
noncomputable def C93 (fu : Nat) : Cm Tryz.prog T_infer_ask Bool := ⟨93, fun t => [.agg (c_T_infer_ask t)], fun t => infer_ask_attributes fu t, e93, fun t b h => ok93 fu t  b h, Zi⟩
theorem u93 {fu : Nat} {cp : CallP} (H : Hit cp (C93 fu).ct) : K93 fu cp := ⟨fun {a0 r} h => (C93 fu).at H a0 r h⟩
structure K94 (fu : Nat) (cp : CallP) : Prop where
 ap : ∀ {a0 : T_infer_ask} {r}, infer_ask_told fu a0 = some r → cp 94 [.agg (c_T_infer_ask a0)] = some (.v (.int .i64 r))
noncomputable def C94 (fu : Nat) : Cm Tryz.prog T_infer_ask Int := ⟨94, fun t => [.agg (c_T_infer_ask t)], fun t => infer_ask_told fu t, e94, fun t b h => ok94 fu t  b h, Zi⟩
theorem u94 {fu : Nat} {cp : CallP} (H : Hit cp (C94 fu).ct) : K94 fu cp := ⟨fun {a0 r} h => (C94 fu).at H a0 r h⟩
def infer_ask_wrong.m1 : LJ 1 4 Unit Int := ⟨fun r s e => [(1, er e 1), (8, er e 8), (9, er e 9), (10, .v (.int .i64 s))], fun r s h => [((0, 1, 0), hr h (0, 1, 0))]⟩
def infer_ask_wrong.j1 : LJ 1 5 Unit Unit := ⟨fun r t e => [(1, er e 1)], fun r t h => [((0, 1, 0), hr h (0, 1, 0))]⟩
set_option maxHeartbeats 20000000 in
open infer_ask_wrong in
theorem w43 (cp : CallP) (fu : Nat) (x1 : T_infer_ask) (H1 : K39 fu cp) (H2 : K91 fu cp) (H3 : K92 fu cp) (H4 : K93 fu cp) (H5 : K94 fu cp) : J (go Tryz.prog noC cp noI 0 [] d43 fu (fin Tryz.prog [.tmp 2] [32]) (bodyOf Tryz.f43) (initE 0 [.agg (c_T_infer_ask x1)]) [] []) (infer_ask_wrong fu x1) e43 := by
 unfold infer_ask_wrong e43
 have da := d43_at
 conv => arg 1; simp only [bodyOf, Tryz.f43]
 have z0 := d43_at
 exact Wk
theorem ok43 (fu : Nat) (x1 : T_infer_ask) (r) (h : infer_ask_wrong fu x1 = some r) : PureOK Tryz.prog 43 [.agg (c_T_infer_ask x1)] (e43 r) := pureT mixed [(C39 fu).ct, (C91 fu).ct, (C92 fu).ct, (C93 fu).ct, (C94 fu).ct] (ids := [39, 91, 92, 93, 94]) rfl (by decide) i43 (C := noC) (ci := fun cp => noI) (fun cp ok => noI_ok) (fun cp H => w43 cp fu x1 (u39 H.1) (u91 H.2.1) (u92 H.2.2.1) (u93 H.2.2.2.1) (u94 H.2.2.2.2.1)) h
open Aw (d155)
def d155_at := by have h := tabL Aw.d155.eq_1; simp only [AllAt, Nat.zero_add, Nat.reduceAdd] at h; exact h
theorem i155 : finfo Tryz.prog 155 d155 = some ⟨bodyOf Tryz.f155, [.tmp 4, .tmp 5], [29, 32]⟩ := finfo_at Tryz.func155 rfl (by kernel_rfl) (by kernel_rfl)
def e155 : ((List Bool) × Int) → AV := fun r => .tuple [.fresh 1 r.1.length (lm (bk) r.1), .v (.int .i64 r.2)]
def shape_Axes.m1 : LJ 1 12 Unit ((List Bool) × Bool × Int) := ⟨fun r s e => [(1, er e 1), (6, .own (0, 19, 0) 0 s.1.length s.1.length), (7, .v (.bool s.2.1)), (20, er e 20), (21, er e 21), (22, .v (.int .i64 s.2.2))], fun r s h => [((0, 19, 0), .sl true true 1 s.1.length (lm (bk) s.1))]⟩
def shape_Axes.j2 : LJ 2 28 Unit ((List Bool) × Bool) := ⟨fun r t e => [(6, .own (0, 19, 0) 0 t.1.length t.1.length), (7, .v (.bool t.2))], fun r t h => [((0, 19, 0), .sl true true 1 t.1.length (lm (bk) t.1))]⟩
def shape_Axes.j1 : LJ 1 6 Unit Unit := ⟨fun r t e => [(0, er e 0), (1, er e 1)], fun r t h => []⟩
set_option maxHeartbeats 20000000 in
open shape_Axes in
theorem w155 (cp : CallP) (fu : Nat) (x1 : List Int) (x2 : Int) (H1 : K60 fu cp) : J (go Tryz.prog noC cp noI 0 [] d155 fu (fin Tryz.prog [.tmp 4, .tmp 5] [29, 32]) (bodyOf Tryz.f155) (initE 0 [.arr x1.length (lm (ik .i64) x1), .v (.int .i64 x2)]) [] []) (shape_Axes fu x1 x2) e155 := by
 unfold shape_Axes e155
 have da := d155_at
 conv => arg 1; simp only [bodyOf, Tryz.f155]
 have z0 := d155_at
 exact Wk
theorem ok155 (fu : Nat) (x1 : List Int) (x2 : Int) (r) (h : shape_Axes fu x1 x2 = some r) : PureOK Tryz.prog 155 [.arr x1.length (lm (ik .i64) x1), .v (.int .i64 x2)] (e155 r) := pureT mixed [(C60 fu).ct] (ids := [60]) rfl (by decide) i155 (C := noC) (ci := fun cp => noI) (fun cp ok => noI_ok) (fun cp H => w155 cp fu x1 x2 (u60 H.1)) h
open Aw (d181)
def d181_at := by have h := tabL Aw.d181.eq_1; simp only [AllAt, Nat.zero_add, Nat.reduceAdd] at h; exact h
theorem i181 : finfo Tryz.prog 181 d181 = some ⟨bodyOf Tryz.f181, [.tmp 2, .tmp 3], [29, 32]⟩ := finfo_at Tryz.func181 rfl (by kernel_rfl) (by kernel_rfl)
def e181 : ((List Bool) × Int) → AV := fun r => .tuple [.fresh 1 r.1.length (lm (bk) r.1), .v (.int .i64 r.2)]
structure K155 (fu : Nat) (cp : CallP) : Prop where
 ap : ∀ {a0 : List Int} {a1 : Int} {r}, shape_Axes fu a0 a1 = some r → cp 155 [.arr a0.length (lm (ik .i64) a0), .v (.int .i64 a1)] = some (.tuple [.fresh 1 r.1.length (lm (bk) r.1), .v (.int .i64 r.2)])
noncomputable def C155 (fu : Nat) : Cm Tryz.prog ((List Int) × Int) ((List Bool) × Int) := ⟨155, fun t => [.arr t.1.length (lm (ik .i64) t.1), .v (.int .i64 t.2)], fun t => shape_Axes fu t.1 t.2, e155, fun t b h => ok155 fu t.1 t.2  b h, Zi⟩
theorem u155 {fu : Nat} {cp : CallP} (H : Hit cp (C155 fu).ct) : K155 fu cp := ⟨fun {a0 a1 r} h => (C155 fu).at H (a0, a1) r h⟩
def infer_ask_over.j1 : LJ 1 20 T_infer_ask Unit := ⟨fun r t e => [(1, er e 1), (4, .own (0, 19, 0) 0 1 1)], fun r t h => [((0, 1, 0), hr h (0, 1, 0)), ((0, 19, 0), .sl true true 1 1 ([.v (.int .i64 r.fs.fAxis)]))]⟩
set_option maxHeartbeats 20000000 in
open infer_ask_over in
theorem w181 (cp : CallP) (fu : Nat) (x1 : T_infer_ask) (H1 : K154 fu cp) (H2 : K155 fu cp) : J (go Tryz.prog noC cp noI 0 [] d181 fu (fin Tryz.prog [.tmp 2, .tmp 3] [29, 32]) (bodyOf Tryz.f181) (initE 0 [.agg (c_T_infer_ask x1)]) [] []) (infer_ask_over fu x1) e181 := by
 unfold infer_ask_over e181
 have da := d181_at
 conv => arg 1; simp only [bodyOf, Tryz.f181]
 have z0 := d181_at
 exact Wk
theorem ok181 (fu : Nat) (x1 : T_infer_ask) (r) (h : infer_ask_over fu x1 = some r) : PureOK Tryz.prog 181 [.agg (c_T_infer_ask x1)] (e181 r) := pureT mixed [(C154 fu).ct, (C155 fu).ct] (ids := [154, 155]) rfl (by decide) i181 (C := noC) (ci := fun cp => noI) (fun cp ok => noI_ok) (fun cp H => w181 cp fu x1 (u154 H.1) (u155 H.2.1)) h
def d98 : List (Nat × List Nat) := [(0, [0, 1]), (0, []), (0, [])]
def d98_at := by have h := tabL d98.eq_1; simp only [AllAt, Nat.zero_add, Nat.reduceAdd] at h; exact h
theorem i98 : finfo Tryz.prog 98 d98 = some ⟨bodyOf Tryz.f98, [.tmp 0, .tmp 1], [68, 32]⟩ := finfo_at Tryz.func98 rfl (by kernel_rfl) (by kernel_rfl)
def e98 : ((List (List Int)) × Int) → AV := fun r => .tuple [.arr r.1.length (lm (avl (ik .i64)) r.1), .v (.int .i64 r.2)]
set_option maxHeartbeats 20000000 in
theorem w98 (cp : CallP) (fu : Nat)   : J (go Tryz.prog noC cp noI 0 [] d98 fu (finS Tryz.prog [.tmp 0, .tmp 1] [68, 32]) (bodyOf Tryz.f98) (initE 0 []) [] []) (infer_misfit fu) e98 := by
 unfold infer_misfit e98
 have da := d98_at
 conv => arg 1; simp only [bodyOf, Tryz.f98]
 have z0 := d98_at
 have z1 := SE
 exact Wk
theorem ok98 (fu : Nat)  (r) (h : infer_misfit fu = some r) : PureOK Tryz.prog 98 [] (e98 r) := pureST mixed [] (ids := []) rfl (by decide) i98 (C := noC) (ci := fun cp => noI) (fun cp ok => noI_ok) (fun cp H => w98 cp fu ) h
open Aw (d106)
def d106_at := by have h := tabL Aw.d106.eq_1; simp only [AllAt, Nat.zero_add, Nat.reduceAdd] at h; exact h
theorem i106 : finfo Tryz.prog 106 d106 = some ⟨bodyOf Tryz.f106, [.tmp 2, .tmp 3], [68, 32]⟩ := finfo_at Tryz.func106 rfl (by kernel_rfl) (by kernel_rfl)
def e106 : ((List (List Int)) × Int) → AV := fun r => .tuple [.arr r.1.length (lm (avl (ik .i64)) r.1), .v (.int .i64 r.2)]
set_option maxHeartbeats 20000000 in
theorem w106 (cp : CallP) (fu : Nat) (x1 : List Int)  : J (go Tryz.prog noC cp noI 0 [] d106 fu (finS Tryz.prog [.tmp 2, .tmp 3] [68, 32]) (bodyOf Tryz.f106) (initE 0 [.arr x1.length (lm (ik .i64) x1)]) [] []) (infer_one fu x1) e106 := by
 unfold infer_one e106
 have da := d106_at
 conv => arg 1; simp only [bodyOf, Tryz.f106]
 have z0 := d106_at
 have z1 := SE
 exact Wk
theorem ok106 (fu : Nat) (x1 : List Int) (r) (h : infer_one fu x1 = some r) : PureOK Tryz.prog 106 [.arr x1.length (lm (ik .i64) x1)] (e106 r) := pureST mixed [] (ids := []) rfl (by decide) i106 (C := noC) (ci := fun cp => noI) (fun cp ok => noI_ok) (fun cp H => w106 cp fu x1 ) h
open Aw (d100)
def d100_at := by have h := tabL Aw.d100.eq_1; simp only [AllAt, Nat.zero_add, Nat.reduceAdd] at h; exact h
theorem i100 : finfo Tryz.prog 100 d100 = some ⟨bodyOf Tryz.f100, [.tmp 2, .tmp 3], [68, 32]⟩ := finfo_at Tryz.func100 rfl (by kernel_rfl) (by kernel_rfl)
def e100 : ((List (List Int)) × Int) → AV := fun r => .tuple [.arr r.1.length (lm (avl (ik .i64)) r.1), .v (.int .i64 r.2)]
structure K181 (fu : Nat) (cp : CallP) : Prop where
 ap : ∀ {a0 : T_infer_ask} {r}, infer_ask_over fu a0 = some r → cp 181 [.agg (c_T_infer_ask a0)] = some (.tuple [.fresh 1 r.1.length (lm (bk) r.1), .v (.int .i64 r.2)])
noncomputable def C181 (fu : Nat) : Cm Tryz.prog T_infer_ask ((List Bool) × Int) := ⟨181, fun t => [.agg (c_T_infer_ask t)], fun t => infer_ask_over fu t, e181, fun t b h => ok181 fu t  b h, Zi⟩
theorem u181 {fu : Nat} {cp : CallP} (H : Hit cp (C181 fu).ct) : K181 fu cp := ⟨fun {a0 r} h => (C181 fu).at H a0 r h⟩
structure K98 (fu : Nat) (cp : CallP) : Prop where
 ap : ∀ {r}, infer_misfit fu = some r → cp 98 [] = some (.tuple [.arr r.1.length (lm (avl (ik .i64)) r.1), .v (.int .i64 r.2)])
noncomputable def C98 (fu : Nat) : Cm Tryz.prog Unit ((List (List Int)) × Int) := ⟨98, fun t => [], fun t => infer_misfit fu , e98, fun t b h => ok98 fu   b h, Zi⟩
theorem u98 {fu : Nat} {cp : CallP} (H : Hit cp (C98 fu).ct) : K98 fu cp := ⟨fun { r} h => (C98 fu).at H () r h⟩
structure K106 (fu : Nat) (cp : CallP) : Prop where
 ap : ∀ {a0 : List Int} {r}, infer_one fu a0 = some r → cp 106 [.arr a0.length (lm (ik .i64) a0)] = some (.tuple [.arr r.1.length (lm (avl (ik .i64)) r.1), .v (.int .i64 r.2)])
noncomputable def C106 (fu : Nat) : Cm Tryz.prog (List Int) ((List (List Int)) × Int) := ⟨106, fun t => [.arr t.length (lm (ik .i64) t)], fun t => infer_one fu t, e106, fun t b h => ok106 fu t  b h, Zi⟩
theorem u106 {fu : Nat} {cp : CallP} (H : Hit cp (C106 fu).ct) : K106 fu cp := ⟨fun {a0 r} h => (C106 fu).at H a0 r h⟩
def infer_ask_reduced.m1 : LJ 1 12 Unit (Bool × (List Int) × Int) := ⟨fun r s e => [(1, er e 1), (4, er e 4), (6, .own (0, 6, 77) 0 s.2.1.length s.2.1.length), (20, er e 20), (21, er e 21), (22, .v (.int .i64 s.2.2))], fun r s h => [((0, 1, 0), bs (hr h (0, 1, 0)) 4 (.v (.bool s.1))), ((0, 11, 0), hr h (0, 11, 0)), ((0, 6, 77), .sl true true 1 s.2.1.length (lm (ik .i64) s.2.1))]⟩
def infer_ask_reduced.j1 : LJ 1 30 Unit (Bool × (List Int)) := ⟨fun r t e => [(6, .own (0, 6, 77) 0 t.2.length t.2.length)], fun r t h => [((0, 1, 0), bs (hr h (0, 1, 0)) 4 (.v (.bool t.1))), ((0, 11, 0), hr h (0, 11, 0)), ((0, 6, 77), .sl true true 1 t.2.length (lm (ik .i64) t.2))]⟩
set_option maxHeartbeats 20000000 in
open infer_ask_reduced in
theorem w100 (cp : CallP) (fu : Nat) (x1 : T_infer_ask) (H1 : K181 fu cp) (H2 : K95 fu cp) (H3 : K98 fu cp) (H4 : K106 fu cp) : J (go Tryz.prog noC cp noI 0 [] d100 fu (fin Tryz.prog [.tmp 2, .tmp 3] [68, 32]) (bodyOf Tryz.f100) (initE 0 [.agg (c_T_infer_ask x1)]) [] []) (infer_ask_reduced fu x1) e100 := by
 unfold infer_ask_reduced e100
 have da := d100_at
 conv => arg 1; simp only [bodyOf, Tryz.f100]
 have z0 := d100_at
 exact Wk
theorem ok100 (fu : Nat) (x1 : T_infer_ask) (r) (h : infer_ask_reduced fu x1 = some r) : PureOK Tryz.prog 100 [.agg (c_T_infer_ask x1)] (e100 r) := pureT mixed [(C181 fu).ct, (C95 fu).ct, (C98 fu).ct, (C106 fu).ct] (ids := [181, 95, 98, 106]) rfl (by decide) i100 (C := noC) (ci := fun cp => noI) (fun cp ok => noI_ok) (fun cp H => w100 cp fu x1 (u181 H.1) (u95 H.2.1) (u98 H.2.2.1) (u106 H.2.2.2.1)) h
open Aw (d44)
def d44_at := by have h := tabL Aw.d44.eq_1; simp only [AllAt, Nat.zero_add, Nat.reduceAdd] at h; exact h
theorem i44 : finfo Tryz.prog 44 d44 = some ⟨bodyOf Tryz.f44, [.tmp 2, .tmp 3], [68, 32]⟩ := finfo_at Tryz.func44 rfl (by kernel_rfl) (by kernel_rfl)
def e44 : ((List (List Int)) × Int) → AV := fun r => .tuple [.arr r.1.length (lm (avl (ik .i64)) r.1), .v (.int .i64 r.2)]
structure K100 (fu : Nat) (cp : CallP) : Prop where
 ap : ∀ {a0 : T_infer_ask} {r}, infer_ask_reduced fu a0 = some r → cp 100 [.agg (c_T_infer_ask a0)] = some (.tuple [.arr r.1.length (lm (avl (ik .i64)) r.1), .v (.int .i64 r.2)])
noncomputable def C100 (fu : Nat) : Cm Tryz.prog T_infer_ask ((List (List Int)) × Int) := ⟨100, fun t => [.agg (c_T_infer_ask t)], fun t => infer_ask_reduced fu t, e100, fun t b h => ok100 fu t  b h, Zi⟩
theorem u100 {fu : Nat} {cp : CallP} (H : Hit cp (C100 fu).ct) : K100 fu cp := ⟨fun {a0 r} h => (C100 fu).at H a0 r h⟩
def infer_ask_shapes.j3 : LJ 3 222 Unit Unit := ⟨fun r t e => [(1, er e 1), (4, er e 4), (9, er e 9), (10, er e 10), (54, er e 54), (78, .v (.bool (decide ((70 : Int) = 70))))], fun r t h => [((0, 1, 0), hr h (0, 1, 0))]⟩
def infer_ask_shapes.j2 : LJ 2 190 Unit Unit := ⟨fun r t e => [(1, er e 1), (4, er e 4), (9, er e 9), (10, er e 10), (54, .v (.bool (decide ((70 : Int) = 64))))], fun r t h => [((0, 1, 0), hr h (0, 1, 0))]⟩
def infer_ask_shapes.j1 : LJ 1 82 Unit Unit := ⟨fun r t e => [(1, er e 1), (4, er e 4), (9, er e 9), (10, .v (.bool (decide ((70 : Int) = 42))))], fun r t h => [((0, 1, 0), hr h (0, 1, 0))]⟩
set_option maxHeartbeats 20000000 in
open infer_ask_shapes in
theorem w44 (cp : CallP) (fu : Nat) (x1 : T_infer_ask) (H1 : K95 fu cp) (H2 : K100 fu cp) : J (go Tryz.prog noC cp noI 0 [] d44 fu (finS Tryz.prog [.tmp 2, .tmp 3] [68, 32]) (bodyOf Tryz.f44) (initE 0 [.agg (c_T_infer_ask x1)]) [] []) (infer_ask_shapes fu x1) e44 := by
 unfold infer_ask_shapes e44
 have da := d44_at
 conv => arg 1; simp only [bodyOf, Tryz.f44]
 have z0 := d44_at
 have z1 := SE
 exact Wk
theorem ok44 (fu : Nat) (x1 : T_infer_ask) (r) (h : infer_ask_shapes fu x1 = some r) : PureOK Tryz.prog 44 [.agg (c_T_infer_ask x1)] (e44 r) := pureST mixed [(C95 fu).ct, (C100 fu).ct] (ids := [95, 100]) rfl (by decide) i44 (C := noC) (ci := fun cp => noI) (fun cp ok => noI_ok) (fun cp H => w44 cp fu x1 (u95 H.1) (u100 H.2.1)) h
open Aw (d45)
def d45_at := by have h := tabL Aw.d45.eq_1; simp only [AllAt, Nat.zero_add, Nat.reduceAdd] at h; exact h
theorem i45 : finfo Tryz.prog 45 d45 = some ⟨bodyOf Tryz.f45, [.tmp 2], [3]⟩ := finfo_at Tryz.func45 rfl (by kernel_rfl) (by kernel_rfl)
def e45 : Int → AV := fun r => .v (.int .i64 r)
def infer_ask_out.j2 : LJ 2 74 Unit Unit := ⟨fun r t e => [(1, er e 1), (4, er e 4), (5, er e 5), (17, .v (.bool (decide ((70 : Int) = 70))))], fun r t h => [((0, 1, 0), hr h (0, 1, 0))]⟩
def infer_ask_out.j1 : LJ 1 54 Unit Unit := ⟨fun r t e => [(1, er e 1), (4, er e 4), (5, .v (.bool (decide ((70 : Int) = 41))))], fun r t h => [((0, 1, 0), hr h (0, 1, 0))]⟩
set_option maxHeartbeats 20000000 in
open infer_ask_out in
theorem w45 (cp : CallP) (fu : Nat) (x1 : T_infer_ask)  : J (go Tryz.prog noC cp noI 0 [] d45 fu (fin Tryz.prog [.tmp 2] [3]) (bodyOf Tryz.f45) (initE 0 [.agg (c_T_infer_ask x1)]) [] []) (infer_ask_out fu x1) e45 := by
 unfold infer_ask_out e45
 have da := d45_at
 conv => arg 1; simp only [bodyOf, Tryz.f45]
 have z0 := d45_at
 exact Wk
theorem ok45 (fu : Nat) (x1 : T_infer_ask) (r) (h : infer_ask_out fu x1 = some r) : PureOK Tryz.prog 45 [.agg (c_T_infer_ask x1)] (e45 r) := pureT mixed [] (ids := []) rfl (by decide) i45 (C := noC) (ci := fun cp => noI) (fun cp ok => noI_ok) (fun cp H => w45 cp fu x1 ) h
open Aw (d25)
def d25_at := by have h := tabL Aw.d25.eq_1; simp only [AllAt, Nat.zero_add, Nat.reduceAdd] at h; exact h
theorem i25 : finfo Tryz.prog 25 d25 = some ⟨bodyOf Tryz.f25, [.tmp 8, .tmp 9], [54, 32]⟩ := finfo_at Tryz.func25 rfl (by kernel_rfl) (by kernel_rfl)
def e25 : ((List T_Val) × Int) → AV := fun r => .tuple [.arr r.1.length (fm c_T_Val r.1), .v (.int .i64 r.2)]
structure K42 (fu : Nat) (cp : CallP) : Prop where
 ap : ∀ {a0 : T_infer_ask} {r}, infer_ask_complete fu a0 = some r → cp 42 [.agg (c_T_infer_ask a0)] = some (.v (.bool r))
noncomputable def C42 (fu : Nat) : Cm Tryz.prog T_infer_ask Bool := ⟨42, fun t => [.agg (c_T_infer_ask t)], fun t => infer_ask_complete fu t, e42, fun t b h => ok42 fu t  b h, Zi⟩
theorem u42 {fu : Nat} {cp : CallP} (H : Hit cp (C42 fu).ct) : K42 fu cp := ⟨fun {a0 r} h => (C42 fu).at H a0 r h⟩
structure K43 (fu : Nat) (cp : CallP) : Prop where
 ap : ∀ {a0 : T_infer_ask} {r}, infer_ask_wrong fu a0 = some r → cp 43 [.agg (c_T_infer_ask a0)] = some (.v (.int .i64 r))
noncomputable def C43 (fu : Nat) : Cm Tryz.prog T_infer_ask Int := ⟨43, fun t => [.agg (c_T_infer_ask t)], fun t => infer_ask_wrong fu t, e43, fun t b h => ok43 fu t  b h, Zi⟩
theorem u43 {fu : Nat} {cp : CallP} (H : Hit cp (C43 fu).ct) : K43 fu cp := ⟨fun {a0 r} h => (C43 fu).at H a0 r h⟩
structure K44 (fu : Nat) (cp : CallP) : Prop where
 ap : ∀ {a0 : T_infer_ask} {r}, infer_ask_shapes fu a0 = some r → cp 44 [.agg (c_T_infer_ask a0)] = some (.tuple [.arr r.1.length (lm (avl (ik .i64)) r.1), .v (.int .i64 r.2)])
noncomputable def C44 (fu : Nat) : Cm Tryz.prog T_infer_ask ((List (List Int)) × Int) := ⟨44, fun t => [.agg (c_T_infer_ask t)], fun t => infer_ask_shapes fu t, e44, fun t b h => ok44 fu t  b h, Zi⟩
theorem u44 {fu : Nat} {cp : CallP} (H : Hit cp (C44 fu).ct) : K44 fu cp := ⟨fun {a0 r} h => (C44 fu).at H a0 r h⟩
structure K45 (fu : Nat) (cp : CallP) : Prop where
 ap : ∀ {a0 : T_infer_ask} {r}, infer_ask_out fu a0 = some r → cp 45 [.agg (c_T_infer_ask a0)] = some (.v (.int .i64 r))
noncomputable def C45 (fu : Nat) : Cm Tryz.prog T_infer_ask Int := ⟨45, fun t => [.agg (c_T_infer_ask t)], fun t => infer_ask_out fu t, e45, fun t b h => ok45 fu t  b h, Zi⟩
theorem u45 {fu : Nat} {cp : CallP} (H : Hit cp (C45 fu).ct) : K45 fu cp := ⟨fun {a0 r} h => (C45 fu).at H a0 r h⟩
def infer_Node.m1 : LJ 1 24 Unit ((List T_Val) × Int) := ⟨fun r s e => [(10, er e 10), (14, .own (0, 14, 77) 0 s.1.length s.1.length), (40, er e 40), (41, er e 41), (42, .v (.int .i64 s.2))], fun r s h => [((0, 10, 0), hr h (0, 10, 0)), ((0, 14, 77), .sl true true 8 s.1.length (fm c_T_Val s.1))]⟩
set_option maxHeartbeats 20000000 in
open infer_Node in
theorem w25 (cp : CallP) (fu : Nat) (x1 : Int) (x2 : T_Setting) (x3 : List T_Val) (x4 : Int) (H1 : K42 fu cp) (H2 : K43 fu cp) (H3 : K44 fu cp) (H4 : K39 fu cp) (H5 : K45 fu cp) (H6 : K46 fu cp) : J (go Tryz.prog noC cp noI 0 [] d25 fu (finS Tryz.prog [.tmp 8, .tmp 9] [54, 32]) (bodyOf Tryz.f25) (initE 0 [.v (.int .i64 x1), .agg (c_T_Setting x2), .arr x3.length (fm c_T_Val x3), .v (.int .i64 x4)]) [] []) (infer_Node fu x1 x2 x3 x4) e25 := by
 unfold infer_Node e25
 have da := d25_at
 conv => arg 1; simp only [bodyOf, Tryz.f25]
 have z0 := d25_at
 have z1 := SE
 exact Wk
theorem ok25 (fu : Nat) (x1 : Int) (x2 : T_Setting) (x3 : List T_Val) (x4 : Int) (r) (h : infer_Node fu x1 x2 x3 x4 = some r) : PureOK Tryz.prog 25 [.v (.int .i64 x1), .agg (c_T_Setting x2), .arr x3.length (fm c_T_Val x3), .v (.int .i64 x4)] (e25 r) := pureST mixed [(C42 fu).ct, (C43 fu).ct, (C44 fu).ct, (C39 fu).ct, (C45 fu).ct, (C46 fu).ct] (ids := [42, 43, 44, 39, 45, 46]) rfl (by decide) i25 (C := noC) (ci := fun cp => noI) (fun cp ok => noI_ok) (fun cp H => w25 cp fu x1 x2 x3 x4 (u42 H.1) (u43 H.2.1) (u44 H.2.2.1) (u39 H.2.2.2.1) (u45 H.2.2.2.2.1) (u46 H.2.2.2.2.2.1)) h
open Aw (d27)
def d27_at := by have h := tabL Aw.d27.eq_1; simp only [AllAt, Nat.zero_add, Nat.reduceAdd] at h; exact h
theorem i27 : finfo Tryz.prog 27 d27 = some ⟨bodyOf Tryz.f27, [.cell 4 31, .tmp 5], [31, 32]⟩ := finfo_at Tryz.func27 rfl (by kernel_rfl) (by kernel_rfl)
def e27 : (T_Tensor × Int) → AV := fun r => .tuple [.agg [.v (.int .i64 r.1.fType), .fresh 1 r.1.fDims.length (lm (ik .i64) r.1.fDims), .fresh 1 r.1.fF.length (lm (ik .u32) r.1.fF), .fresh 1 r.1.fI.length (lm (ik .i64) r.1.fI), .fresh 1 r.1.fB.length (lm (bk) r.1.fB)], .v (.int .i64 r.2)]
set_option maxHeartbeats 20000000 in
theorem w27 (cp : CallP) (fu : Nat) (x1 : Int) (x2 : List Int) (H1 : K38 fu cp) (H2 : K39 fu cp) (H3 : K46 fu cp) : J (go Tryz.prog noC cp noI 0 [] d27 fu (fin Tryz.prog [.cell 4 31, .tmp 5] [31, 32]) (bodyOf Tryz.f27) (initE 0 [.v (.int .i64 x1), .arr x2.length (lm (ik .i64) x2)]) [] []) (tens_New fu x1 x2) e27 := by
 unfold tens_New e27
 have da := d27_at
 conv => arg 1; simp only [bodyOf, Tryz.f27]
 have z0 := d27_at
 exact Wk
theorem ok27 (fu : Nat) (x1 : Int) (x2 : List Int) (r) (h : tens_New fu x1 x2 = some r) : PureOK Tryz.prog 27 [.v (.int .i64 x1), .arr x2.length (lm (ik .i64) x2)] (e27 r) := pureT mixed [(C38 fu).ct, (C39 fu).ct, (C46 fu).ct] (ids := [38, 39, 46]) rfl (by decide) i27 (C := noC) (ci := fun cp => noI) (fun cp ok => noI_ok) (fun cp H => w27 cp fu x1 x2 (u38 H.1) (u39 H.2.1) (u46 H.2.2.1)) h
def d108 : List (Nat × List Nat) := [(0, [2]), (0, [23, 24]), (13, [9, 10, 11, 12, 13, 14, 15, 16, 17, 18, 19]), (0, [5]), (0, [20, 21, 22]), (0, []), (0, [25]), (0, [84, 85]), (0, [26]), (0, []), (0, [27]), (0, []), (0, [28, 29, 30, 31, 32, 33]), (0, []), (0, [35]), (0, []), (0, []), (0, []), (0, [36]), (0, []), (0, [38, 39, 40, 41, 42, 43, 44, 45, 46, 47]), (0, []), (0, [49]), (0, []), (0, []), (0, []), (0, []), (0, []), (0, [50, 51]), (0, []), (0, [53, 54]), (0, []), (0, [55, 56, 57, 58]), (0, []), (0, [4, 7, 59, 60, 61, 62, 63, 64]), (0, []), (0, [0, 3, 65, 66, 67, 68, 69, 70, 71, 72, 73, 74, 75, 76, 77, 78, 79, 80, 81]), (0, []), (0, [83]), (0, []), (0, []), (0, []), (0, [87]), (0, []), (0, [8, 88, 89, 90]), (0, []), (0, [91]), (0, []), (0, [6, 92]), (1, [])]
def d108_at := by have h := tabL d108.eq_1; simp only [AllAt, Nat.zero_add, Nat.reduceAdd] at h; exact h
theorem i108 : finfo Tryz.prog 108 d108 = some ⟨bodyOf Tryz.f108, [.tmp 2], [29]⟩ := finfo_at Tryz.func108 rfl (by kernel_rfl) (by kernel_rfl)
def e108 : (List Bool) → AV := fun r => .fresh 1 r.length (lm (bk) r)
def reduce_work_over.j1 : LJ 1 34 T_reduce_work Unit := ⟨fun r t e => [(0, er e 0), (3, .own (0, 33, 0) 0 1 1), (4, er e 4)], fun r t h => [((0, 33, 0), .sl true true 1 1 ([.v (.int .i64 r.fs.fAxis)]))]⟩
set_option maxHeartbeats 20000000 in
open reduce_work_over in
theorem w108 (cp : CallP) (fu : Nat) (x1 : T_reduce_work) (H1 : K155 fu cp) : J (go Tryz.prog noC cp noI 0 [] d108 fu (fin Tryz.prog [.tmp 2] [29]) (bodyOf Tryz.f108) (initE 0 [.ref (c_T_reduce_work x1) 0]) [] []) (reduce_work_over fu x1) e108 := by
 unfold reduce_work_over e108
 have da := d108_at
 conv => arg 1; simp only [bodyOf, Tryz.f108]
 have z0 := d108_at
 exact Wk
theorem ok108 (fu : Nat) (x1 : T_reduce_work) (r) (h : reduce_work_over fu x1 = some r) : PureOK Tryz.prog 108 [.ref (c_T_reduce_work x1) 0] (e108 r) := pureT mixed [(C155 fu).ct] (ids := [155]) rfl (by decide) i108 (C := noC) (ci := fun cp => noI) (fun cp ok => noI_ok) (fun cp H => w108 cp fu x1 (u155 H.1)) h
open Aw (d120)
def d120_at := by have h := tabL Aw.d120.eq_1; simp only [AllAt, Nat.zero_add, Nat.reduceAdd] at h; exact h
theorem i120 : finfo Tryz.prog 120 d120 = some ⟨bodyOf Tryz.f120, [.tmp 2], [27]⟩ := finfo_at Tryz.func120 rfl (by kernel_rfl) (by kernel_rfl)
def e120 : (List Int) → AV := fun r => .fresh 1 r.length (lm (ik .i64) r)
def shape_strides.m1 : LJ 1 8 Unit ((List Int) × Int × Int) := ⟨fun r s e => [(0, er e 0), (3, .own (0, 8, 0) 0 s.1.length s.1.length), (4, .v (.int .i64 s.2.1)), (5, .v (.int .i64 s.2.2))], fun r s h => [((0, 8, 0), .sl true true 1 s.1.length (lm (ik .i64) s.1))]⟩
set_option maxHeartbeats 20000000 in
open shape_strides in
theorem w120 (cp : CallP) (fu : Nat) (x1 : List Int)  : J (go Tryz.prog noC cp noI 0 [] d120 fu (fin Tryz.prog [.tmp 2] [27]) (bodyOf Tryz.f120) (initE 0 [.arr x1.length (lm (ik .i64) x1)]) [] []) (shape_strides fu x1) e120 := by
 unfold shape_strides e120
 have da := d120_at
 conv => arg 1; simp only [bodyOf, Tryz.f120]
 have z0 := d120_at
 exact Wk
theorem ok120 (fu : Nat) (x1 : List Int) (r) (h : shape_strides fu x1 = some r) : PureOK Tryz.prog 120 [.arr x1.length (lm (ik .i64) x1)] (e120 r) := pureT mixed [] (ids := []) rfl (by decide) i120 (C := noC) (ci := fun cp => noI) (fun cp ok => noI_ok) (fun cp H => w120 cp fu x1 ) h
open Aw (d54)
def d54_at := by have h := tabL Aw.d54.eq_1; simp only [AllAt, Nat.zero_add, Nat.reduceAdd] at h; exact h
theorem i54 : finfo Tryz.prog 54 d54 = some ⟨bodyOf Tryz.f54, [.tmp 2, .tmp 3], [27, 32]⟩ := finfo_at Tryz.func54 rfl (by kernel_rfl) (by kernel_rfl)
def e54 : ((List Int) × Int) → AV := fun r => .tuple [.fresh 1 r.1.length (lm (ik .i64) r.1), .v (.int .i64 r.2)]
structure K120 (fu : Nat) (cp : CallP) : Prop where
 ap : ∀ {a0 : List Int} {r}, shape_strides fu a0 = some r → cp 120 [.arr a0.length (lm (ik .i64) a0)] = some (.fresh 1 r.length (lm (ik .i64) r))
noncomputable def C120 (fu : Nat) : Cm Tryz.prog (List Int) (List Int) := ⟨120, fun t => [.arr t.length (lm (ik .i64) t)], fun t => shape_strides fu t, e120, fun t b h => ok120 fu t  b h, Zi⟩
theorem u120 {fu : Nat} {cp : CallP} (H : Hit cp (C120 fu).ct) : K120 fu cp := ⟨fun {a0 r} h => (C120 fu).at H a0 r h⟩
set_option maxHeartbeats 20000000 in
theorem w54 (cp : CallP) (fu : Nat) (x1 : List Int) (H1 : K39 fu cp) (H2 : K120 fu cp) : J (go Tryz.prog noC cp noI 0 [] d54 fu (fin Tryz.prog [.tmp 2, .tmp 3] [27, 32]) (bodyOf Tryz.f54) (initE 0 [.arr x1.length (lm (ik .i64) x1)]) [] []) (shape_Strides fu x1) e54 := by
 unfold shape_Strides e54
 have da := d54_at
 conv => arg 1; simp only [bodyOf, Tryz.f54]
 have z0 := d54_at
 exact Wk
theorem ok54 (fu : Nat) (x1 : List Int) (r) (h : shape_Strides fu x1 = some r) : PureOK Tryz.prog 54 [.arr x1.length (lm (ik .i64) x1)] (e54 r) := pureT mixed [(C39 fu).ct, (C120 fu).ct] (ids := [39, 120]) rfl (by decide) i54 (C := noC) (ci := fun cp => noI) (fun cp ok => noI_ok) (fun cp H => w54 cp fu x1 (u39 H.1) (u120 H.2.1)) h
def d109 : List (Nat × List Nat) := [(0, [4]), (0, [1, 13, 14, 15]), (0, [12, 1000000005]), (0, []), (0, [0]), (0, [6, 7, 20, 21, 22]), (0, []), (0, []), (0, [17, 18, 19]), (0, [10, 26, 27]), (0, [1000008]), (0, []), (0, []), (0, []), (0, []), (0, []), (0, [24, 25]), (0, []), (0, []), (0, []), (0, []), (0, []), (0, [29]), (0, []), (0, [11, 30, 31, 32, 33, 34, 35, 36, 37, 38, 39, 40]), (0, []), (0, [41]), (0, []), (0, [42]), (0, []), (0, [8, 43, 1000000005]), (0, []), (0, [44]), (0, []), (0, [5, 45])]
def d109_at := by have h := tabL d109.eq_1; simp only [AllAt, Nat.zero_add, Nat.reduceAdd] at h; exact h
theorem i109 : finfo Tryz.prog 109 d109 = some ⟨bodyOf Tryz.f109, [.tmp 4], [27]⟩ := finfo_at Tryz.func109 rfl (by kernel_rfl) (by kernel_rfl)
def e109 : (List Int) → AV := fun r => .arr r.length (lm (ik .i64) r)
def reduce_places.m3 : LJ 3 20 Unit ((List Int) × Int) := ⟨fun r s e => [(1, er e 1), (5, er e 5), (6, er e 6), (7, er e 7), (8, .own (0, 8, 77) 0 s.1.length s.1.length), (10, er e 10), (13, er e 13), (14, er e 14), (15, er e 15), (20, er e 20), (21, er e 21), (22, er e 22), (26, er e 26), (27, .v (.int .i64 s.2))], fun r s h => [((0, 8, 77), .sl true true 1 s.1.length (lm (ik .i64) s.1))]⟩
def reduce_places.m2 : LJ 2 14 Unit ((List Int) × Int) := ⟨fun r s e => [(1, er e 1), (5, er e 5), (6, er e 6), (7, er e 7), (8, .own (0, 8, 77) 0 s.1.length s.1.length), (13, er e 13), (14, er e 14), (15, er e 15), (20, er e 20), (21, er e 21), (22, .v (.int .i64 s.2))], fun r s h => [((0, 8, 77), .sl true true 1 s.1.length (lm (ik .i64) s.1))]⟩
def reduce_places.m1 : LJ 1 6 Unit ((List Int) × Int) := ⟨fun r s e => [(1, er e 1), (5, .arr s.1.length (lm (ik .i64) s.1)), (13, er e 13), (14, er e 14), (15, .v (.int .i64 s.2))], fun r s h => []⟩
set_option maxHeartbeats 20000000 in
open reduce_places in
theorem w109 (cp : CallP) (fu : Nat) (x1 : List Int) (x2 : List Int)  : J (go Tryz.prog noC cp noI 0 [] d109 fu (fin Tryz.prog [.tmp 4] [27]) (bodyOf Tryz.f109) (initE 0 [.arr x1.length (lm (ik .i64) x1), .arr x2.length (lm (ik .i64) x2)]) [] []) (reduce_places fu x1 x2) e109 := by
 unfold reduce_places e109
 have da := d109_at
 conv => arg 1; simp only [bodyOf, Tryz.f109]
 have z0 := d109_at
 exact Wk
theorem ok109 (fu : Nat) (x1 : List Int) (x2 : List Int) (r) (h : reduce_places fu x1 x2 = some r) : PureOK Tryz.prog 109 [.arr x1.length (lm (ik .i64) x1), .arr x2.length (lm (ik .i64) x2)] (e109 r) := pureT mixed [] (ids := []) rfl (by decide) i109 (C := noC) (ci := fun cp => noI) (fun cp ok => noI_ok) (fun cp H => w109 cp fu x1 x2 ) h
open Aw (d185)
def d185_at := by have h := tabL Aw.d185.eq_1; simp only [AllAt, Nat.zero_add, Nat.reduceAdd] at h; exact h
theorem i185 : finfo Tryz.prog 185 d185 = some ⟨bodyOf Tryz.f185, [.tmp 2], [3]⟩ := finfo_at Tryz.func185 rfl (by kernel_rfl) (by kernel_rfl)
def e185 : Int → AV := fun r => .v (.int .i64 r)
set_option maxHeartbeats 20000000 in
theorem w185 (cp : CallP) (fu : Nat) (x1 : Int) (H1 : K150 fu cp) : J (go Tryz.prog noC cp noI 0 [] d185 fu (fin Tryz.prog [.tmp 2] [3]) (bodyOf Tryz.f185) (initE 0 [.v (.int .u32 x1)]) [] []) (soft_place fu x1) e185 := by
 unfold soft_place e185
 have da := d185_at
 conv => arg 1; simp only [bodyOf, Tryz.f185]
 have z0 := d185_at
 exact Wk
theorem ok185 (fu : Nat) (x1 : Int) (r) (h : soft_place fu x1 = some r) : PureOK Tryz.prog 185 [.v (.int .u32 x1)] (e185 r) := pureT mixed [(C150 fu).ct] (ids := [150]) rfl (by decide) i185 (C := noC) (ci := fun cp => noI) (fun cp ok => noI_ok) (fun cp H => w185 cp fu x1 (u150 H.1)) h
open Aw (d111)
def d111_at := by have h := tabL Aw.d111.eq_1; simp only [AllAt, Nat.zero_add, Nat.reduceAdd] at h; exact h
theorem i111 : finfo Tryz.prog 111 d111 = some ⟨bodyOf Tryz.f111, [.tmp 4], [4]⟩ := finfo_at Tryz.func111 rfl (by kernel_rfl) (by kernel_rfl)
def e111 : Bool → AV := fun r => .v (.bool r)
structure K185 (fu : Nat) (cp : CallP) : Prop where
 ap : ∀ {a0 : Int} {r}, soft_place fu a0 = some r → cp 185 [.v (.int .u32 a0)] = some (.v (.int .i64 r))
noncomputable def C185 (fu : Nat) : Cm Tryz.prog Int Int := ⟨185, fun t => [.v (.int .u32 t)], fun t => soft_place fu t, e185, fun t b h => ok185 fu t  b h, Zi⟩
theorem u185 {fu : Nat} {cp : CallP} (H : Hit cp (C185 fu).ct) : K185 fu cp := ⟨fun {a0 r} h => (C185 fu).at H a0 r h⟩
set_option maxHeartbeats 20000000 in
theorem w111 (cp : CallP) (fu : Nat) (x1 : Int) (x2 : Int) (H1 : K89 fu cp) (H2 : K185 fu cp) : J (go Tryz.prog noC cp noI 0 [] d111 fu (fin Tryz.prog [.tmp 4] [4]) (bodyOf Tryz.f111) (initE 0 [.v (.int .u32 x1), .v (.int .u32 x2)]) [] []) (soft_Less fu x1 x2) e111 := by
 unfold soft_Less e111
 have da := d111_at
 conv => arg 1; simp only [bodyOf, Tryz.f111]
 have z0 := d111_at
 exact Wk
theorem ok111 (fu : Nat) (x1 : Int) (x2 : Int) (r) (h : soft_Less fu x1 x2 = some r) : PureOK Tryz.prog 111 [.v (.int .u32 x1), .v (.int .u32 x2)] (e111 r) := pureT mixed [(C89 fu).ct, (C185 fu).ct] (ids := [89, 185]) rfl (by decide) i111 (C := noC) (ci := fun cp => noI) (fun cp ok => noI_ok) (fun cp H => w111 cp fu x1 x2 (u89 H.1) (u185 H.2.1)) h
open Aw (d112)
def d112_at := by have h := tabL Aw.d112.eq_1; simp only [AllAt, Nat.zero_add, Nat.reduceAdd] at h; exact h
theorem i112 : finfo Tryz.prog 112 d112 = some ⟨bodyOf Tryz.f112, [.tmp 4], [4]⟩ := finfo_at Tryz.func112 rfl (by kernel_rfl) (by kernel_rfl)
def e112 : Bool → AV := fun r => .v (.bool r)
set_option maxHeartbeats 20000000 in
theorem w112 (cp : CallP) (fu : Nat) (x1 : Int) (x2 : Int) (H1 : K89 fu cp) (H2 : K185 fu cp) : J (go Tryz.prog noC cp noI 0 [] d112 fu (fin Tryz.prog [.tmp 4] [4]) (bodyOf Tryz.f112) (initE 0 [.v (.int .u32 x1), .v (.int .u32 x2)]) [] []) (soft_Equal fu x1 x2) e112 := by
 unfold soft_Equal e112
 have da := d112_at
 conv => arg 1; simp only [bodyOf, Tryz.f112]
 have z0 := d112_at
 exact Wk
theorem ok112 (fu : Nat) (x1 : Int) (x2 : Int) (r) (h : soft_Equal fu x1 x2 = some r) : PureOK Tryz.prog 112 [.v (.int .u32 x1), .v (.int .u32 x2)] (e112 r) := pureT mixed [(C89 fu).ct, (C185 fu).ct] (ids := [89, 185]) rfl (by decide) i112 (C := noC) (ci := fun cp => noI) (fun cp ok => noI_ok) (fun cp H => w112 cp fu x1 x2 (u89 H.1) (u185 H.2.1)) h
open Aw (d48)
def d48_at := by have h := tabL Aw.d48.eq_1; simp only [AllAt, Nat.zero_add, Nat.reduceAdd] at h; exact h
theorem i48 : finfo Tryz.prog 48 d48 = some ⟨bodyOf Tryz.f48, [.tmp 6], [4]⟩ := finfo_at Tryz.func48 rfl (by kernel_rfl) (by kernel_rfl)
def e48 : Bool → AV := fun r => .v (.bool r)
structure K111 (fu : Nat) (cp : CallP) : Prop where
 ap : ∀ {a0 : Int} {a1 : Int} {r}, soft_Less fu a0 a1 = some r → cp 111 [.v (.int .u32 a0), .v (.int .u32 a1)] = some (.v (.bool r))
noncomputable def C111 (fu : Nat) : Cm Tryz.prog (Int × Int) Bool := ⟨111, fun t => [.v (.int .u32 t.1), .v (.int .u32 t.2)], fun t => soft_Less fu t.1 t.2, e111, fun t b h => ok111 fu t.1 t.2  b h, Zi⟩
theorem u111 {fu : Nat} {cp : CallP} (H : Hit cp (C111 fu).ct) : K111 fu cp := ⟨fun {a0 a1 r} h => (C111 fu).at H (a0, a1) r h⟩
structure K112 (fu : Nat) (cp : CallP) : Prop where
 ap : ∀ {a0 : Int} {a1 : Int} {r}, soft_Equal fu a0 a1 = some r → cp 112 [.v (.int .u32 a0), .v (.int .u32 a1)] = some (.v (.bool r))
noncomputable def C112 (fu : Nat) : Cm Tryz.prog (Int × Int) Bool := ⟨112, fun t => [.v (.int .u32 t.1), .v (.int .u32 t.2)], fun t => soft_Equal fu t.1 t.2, e112, fun t b h => ok112 fu t.1 t.2  b h, Zi⟩
theorem u112 {fu : Nat} {cp : CallP} (H : Hit cp (C112 fu).ct) : K112 fu cp := ⟨fun {a0 a1 r} h => (C112 fu).at H (a0, a1) r h⟩
def reduce_work_beats.j2 : LJ 2 0 Unit Bool := ⟨fun r t e => [(0, er e 0), (1, er e 1), (2, er e 2), (6, .v (.bool t))], fun r t h => []⟩
def reduce_work_beats.j1 : LJ 1 10 Unit Unit := ⟨fun r t e => [(0, er e 0), (1, er e 1), (2, er e 2), (7, er e 7), (8, er e 8)], fun r t h => []⟩
def reduce_work_beats.j4 : LJ 4 22 Unit Unit := ⟨fun r t e => [(0, er e 0), (9, er e 9), (10, er e 10)], fun r t h => []⟩
def reduce_work_beats.j3 : LJ 3 18 Unit Unit := ⟨fun r t e => [(0, er e 0), (9, er e 9), (10, er e 10)], fun r t h => []⟩
set_option maxHeartbeats 20000000 in
open reduce_work_beats in
theorem w48 (cp : CallP) (fu : Nat) (x1 : T_reduce_work) (x2 : Int) (x3 : Int) (H1 : K89 fu cp) (H2 : K111 fu cp) (H3 : K112 fu cp) : J (go Tryz.prog noC cp noI 0 [] d48 fu (fin Tryz.prog [.tmp 6] [4]) (bodyOf Tryz.f48) (initE 0 [.ref (c_T_reduce_work x1) 0, .v (.int .i64 x2), .v (.int .i64 x3)]) [] []) (reduce_work_beats fu x1 x2 x3) e48 := by
 unfold reduce_work_beats e48
 have da := d48_at
 conv => arg 1; simp only [bodyOf, Tryz.f48]
 have z0 := d48_at
 exact Wk
theorem ok48 (fu : Nat) (x1 : T_reduce_work) (x2 : Int) (x3 : Int) (r) (h : reduce_work_beats fu x1 x2 x3 = some r) : PureOK Tryz.prog 48 [.ref (c_T_reduce_work x1) 0, .v (.int .i64 x2), .v (.int .i64 x3)] (e48 r) := pureT mixed [(C89 fu).ct, (C111 fu).ct, (C112 fu).ct] (ids := [89, 111, 112]) rfl (by decide) i48 (C := noC) (ci := fun cp => noI) (fun cp ok => noI_ok) (fun cp H => w48 cp fu x1 x2 x3 (u89 H.1) (u111 H.2.1) (u112 H.2.2.1)) h
open Aw (d28)
def d28_at := by have h := tabL Aw.d28.eq_1; simp only [AllAt, Nat.zero_add, Nat.reduceAdd] at h; exact h
noncomputable def b28 : Code := bodyOf Tryz.f28
theorem go_b28 {C : Cfg} {cp : CallP} {ci : CallI} {lvl : Nat} {prot : List Id} {D : List (Nat × List Nat)} {n : Nat} {K : KK} {e : Env} {h : Heap} {fs : List Fr} : go Tryz.prog C cp ci lvl prot D n K b28 e h fs = go Tryz.prog C cp ci lvl prot D n K (bodyOf Tryz.f28) e h fs := rfl
theorem i28 : finfo Tryz.prog 28 d28 = some ⟨b28, [], []⟩ := finfo_at Tryz.func28 rfl (by kernel_rfl) (by kernel_rfl)
open Aw (d47)
def d47_at := by have h := tabL Aw.d47.eq_1; simp only [AllAt, Nat.zero_add, Nat.reduceAdd] at h; exact h
noncomputable def b47 : Code := bodyOf Tryz.f47
theorem go_b47 {C : Cfg} {cp : CallP} {ci : CallI} {lvl : Nat} {prot : List Id} {D : List (Nat × List Nat)} {n : Nat} {K : KK} {e : Env} {h : Heap} {fs : List Fr} : go Tryz.prog C cp ci lvl prot D n K b47 e h fs = go Tryz.prog C cp ci lvl prot D n K (bodyOf Tryz.f47) e h fs := rfl
theorem i47 : finfo Tryz.prog 47 d47 = some ⟨b47, [.tmp 2], [74]⟩ := finfo_at Tryz.func47 rfl (by kernel_rfl) (by kernel_rfl)
open Aw (d13)
def d13_at := by have h := tabL Aw.d13.eq_1; simp only [AllAt, Nat.zero_add, Nat.reduceAdd] at h; exact h
theorem i13 : finfo Tryz.prog 13 d13 = some ⟨bodyOf Tryz.f13, [.cell 6 31, .tmp 7], [31, 32]⟩ := finfo_at Tryz.func13 rfl (by kernel_rfl) (by kernel_rfl)
def e13 : (T_Tensor × Int) → AV := fun r => .tuple [.agg [.v (.int .i64 r.1.fType), .arr r.1.fDims.length (lm (ik .i64) r.1.fDims), .arr r.1.fF.length (lm (ik .u32) r.1.fF), .arr r.1.fI.length (lm (ik .i64) r.1.fI), .arr r.1.fB.length (lm (bk) r.1.fB)], .v (.int .i64 r.2)]
structure K22 (fu : Nat) (cp : CallP) : Prop where
 ap : ∀ {a0 : Int} {r}, reduce_Has fu a0 = some r → cp 22 [.v (.int .i64 a0)] = some (.v (.bool r))
noncomputable def C22 (fu : Nat) : Cm Tryz.prog Int Bool := ⟨22, fun t => [.v (.int .i64 t)], fun t => reduce_Has fu t, e22, fun t b h => ok22 fu t  b h, Zi⟩
theorem u22 {fu : Nat} {cp : CallP} (H : Hit cp (C22 fu).ct) : K22 fu cp := ⟨fun {a0 r} h => (C22 fu).at H a0 r h⟩
structure K24 (fu : Nat) (cp : CallP) : Prop where
 ap : ∀ {a0 : T_Tensor} {r}, tens_Canon fu a0 = some r → cp 24 [.agg (c_T_Tensor a0)] = some (.agg [.v (.int .i64 r.fType), .fresh 1 r.fDims.length (lm (ik .i64) r.fDims), .fresh 1 r.fF.length (lm (ik .u32) r.fF), .fresh 1 r.fI.length (lm (ik .i64) r.fI), .fresh 1 r.fB.length (lm (bk) r.fB)])
noncomputable def C24 (fu : Nat) : Cm Tryz.prog T_Tensor T_Tensor := ⟨24, fun t => [.agg (c_T_Tensor t)], fun t => tens_Canon fu t, e24, fun t b h => ok24 fu t  b h, Zi⟩
theorem u24 {fu : Nat} {cp : CallP} (H : Hit cp (C24 fu).ct) : K24 fu cp := ⟨fun {a0 r} h => (C24 fu).at H a0 r h⟩
structure K26 (fu : Nat) (cp : CallP) : Prop where
 ap : ∀ {a0 : List T_Tensor} {r}, ewise_Vals fu a0 = some r → cp 26 [.arr a0.length (fm c_T_Tensor a0)] = some (.arr r.length (fm c_T_Val r))
noncomputable def C26 (fu : Nat) : Cm Tryz.prog (List T_Tensor) (List T_Val) := ⟨26, fun t => [.arr t.length (fm c_T_Tensor t)], fun t => ewise_Vals fu t, e26, fun t b h => ok26 fu t  b h, Zi⟩
theorem u26 {fu : Nat} {cp : CallP} (H : Hit cp (C26 fu).ct) : K26 fu cp := ⟨fun {a0 r} h => (C26 fu).at H a0 r h⟩
structure K25 (fu : Nat) (cp : CallP) : Prop where
 ap : ∀ {a0 : Int} {a1 : T_Setting} {a2 : List T_Val} {a3 : Int} {r}, infer_Node fu a0 a1 a2 a3 = some r → cp 25 [.v (.int .i64 a0), .agg (c_T_Setting a1), .arr a2.length (fm c_T_Val a2), .v (.int .i64 a3)] = some (.tuple [.arr r.1.length (fm c_T_Val r.1), .v (.int .i64 r.2)])
noncomputable def C25 (fu : Nat) : Cm Tryz.prog (Int × T_Setting × (List T_Val) × Int) ((List T_Val) × Int) := ⟨25, fun t => [.v (.int .i64 t.1), .agg (c_T_Setting t.2.1), .arr t.2.2.1.length (fm c_T_Val t.2.2.1), .v (.int .i64 t.2.2.2)], fun t => infer_Node fu t.1 t.2.1 t.2.2.1 t.2.2.2, e25, fun t b h => ok25 fu t.1 t.2.1 t.2.2.1 t.2.2.2  b h, Zi⟩
theorem u25 {fu : Nat} {cp : CallP} (H : Hit cp (C25 fu).ct) : K25 fu cp := ⟨fun {a0 a1 a2 a3 r} h => (C25 fu).at H (a0, a1, a2, a3) r h⟩
structure K27 (fu : Nat) (cp : CallP) : Prop where
 ap : ∀ {a0 : Int} {a1 : List Int} {r}, tens_New fu a0 a1 = some r → cp 27 [.v (.int .i64 a0), .arr a1.length (lm (ik .i64) a1)] = some (.tuple [.agg [.v (.int .i64 r.1.fType), .fresh 1 r.1.fDims.length (lm (ik .i64) r.1.fDims), .fresh 1 r.1.fF.length (lm (ik .u32) r.1.fF), .fresh 1 r.1.fI.length (lm (ik .i64) r.1.fI), .fresh 1 r.1.fB.length (lm (bk) r.1.fB)], .v (.int .i64 r.2)])
noncomputable def C27 (fu : Nat) : Cm Tryz.prog (Int × (List Int)) (T_Tensor × Int) := ⟨27, fun t => [.v (.int .i64 t.1), .arr t.2.length (lm (ik .i64) t.2)], fun t => tens_New fu t.1 t.2, e27, fun t b h => ok27 fu t.1 t.2  b h, Zi⟩
theorem u27 {fu : Nat} {cp : CallP} (H : Hit cp (C27 fu).ct) : K27 fu cp := ⟨fun {a0 a1 r} h => (C27 fu).at H (a0, a1) r h⟩
structure K108 (fu : Nat) (cp : CallP) : Prop where
 ap : ∀ {a0 : T_reduce_work} {r}, reduce_work_over fu a0 = some r → cp 108 [.ref (c_T_reduce_work a0) 0] = some (.fresh 1 r.length (lm (bk) r))
noncomputable def C108 (fu : Nat) : Cm Tryz.prog T_reduce_work (List Bool) := ⟨108, fun t => [.ref (c_T_reduce_work t) 0], fun t => reduce_work_over fu t, e108, fun t b h => ok108 fu t  b h, Zi⟩
theorem u108 {fu : Nat} {cp : CallP} (H : Hit cp (C108 fu).ct) : K108 fu cp := ⟨fun {a0 r} h => (C108 fu).at H a0 r h⟩
structure K54 (fu : Nat) (cp : CallP) : Prop where
 ap : ∀ {a0 : List Int} {r}, shape_Strides fu a0 = some r → cp 54 [.arr a0.length (lm (ik .i64) a0)] = some (.tuple [.fresh 1 r.1.length (lm (ik .i64) r.1), .v (.int .i64 r.2)])
noncomputable def C54 (fu : Nat) : Cm Tryz.prog (List Int) ((List Int) × Int) := ⟨54, fun t => [.arr t.length (lm (ik .i64) t)], fun t => shape_Strides fu t, e54, fun t b h => ok54 fu t  b h, Zi⟩
theorem u54 {fu : Nat} {cp : CallP} (H : Hit cp (C54 fu).ct) : K54 fu cp := ⟨fun {a0 r} h => (C54 fu).at H a0 r h⟩
structure K109 (fu : Nat) (cp : CallP) : Prop where
 ap : ∀ {a0 : List Int} {a1 : List Int} {r}, reduce_places fu a0 a1 = some r → cp 109 [.arr a0.length (lm (ik .i64) a0), .arr a1.length (lm (ik .i64) a1)] = some (.arr r.length (lm (ik .i64) r))
noncomputable def C109 (fu : Nat) : Cm Tryz.prog ((List Int) × (List Int)) (List Int) := ⟨109, fun t => [.arr t.1.length (lm (ik .i64) t.1), .arr t.2.length (lm (ik .i64) t.2)], fun t => reduce_places fu t.1 t.2, e109, fun t b h => ok109 fu t.1 t.2  b h, Zi⟩
theorem u109 {fu : Nat} {cp : CallP} (H : Hit cp (C109 fu).ct) : K109 fu cp := ⟨fun {a0 a1 r} h => (C109 fu).at H (a0, a1) r h⟩
structure K48 (fu : Nat) (cp : CallP) : Prop where
 ap : ∀ {a0 : T_reduce_work} {a1 : Int} {a2 : Int} {r}, reduce_work_beats fu a0 a1 a2 = some r → cp 48 [.ref (c_T_reduce_work a0) 0, .v (.int .i64 a1), .v (.int .i64 a2)] = some (.v (.bool r))
noncomputable def C48 (fu : Nat) : Cm Tryz.prog (T_reduce_work × Int × Int) Bool := ⟨48, fun t => [.ref (c_T_reduce_work t.1) 0, .v (.int .i64 t.2.1), .v (.int .i64 t.2.2)], fun t => reduce_work_beats fu t.1 t.2.1 t.2.2, e48, fun t b h => ok48 fu t.1 t.2.1 t.2.2  b h, Zi⟩
theorem u48 {fu : Nat} {cp : CallP} (H : Hit cp (C48 fu).ct) : K48 fu cp := ⟨fun {a0 a1 a2 r} h => (C48 fu).at H (a0, a1, a2) r h⟩
def cA : Code → Code
  | .seq a _ => a
  | .block _ c => c
  | .loop c => c
  | c => c
def cD : Code → Code
  | .seq _ b => b
  | .block _ c => c
  | .loop c => c
  | c => c
def dY : List (Nat × List Nat) := [(0, [1, 2, 10, 11]), (0, [0, 3, 12, 13, 14]), (0, []), (0, []), (0, [16, 17, 18]), (0, [6, 19, 20, 21]), (0, [1000007]), (0, []), (0, []), (0, []), (0, []), (0, []), (0, [23, 24]), (0, []), (0, [9, 25, 26, 27, 28, 29, 30]), (0, []), (0, [31]), (0, []), (0, [5, 7, 33, 34, 35]), (0, []), (0, [37])]
def dY_at := by have h := tabL dY.eq_1; simp only [AllAt, Nat.zero_add, Nat.reduceAdd] at h; exact h
theorem iY : finfoY Tryz.prog 110 dY = some ⟨bodyOf Tryz.f110, [], []⟩ := finfoY_at Tryz.func110 rfl (by kernel_rfl) (by kernel_rfl) (by kernel_rfl)
noncomputable def cO : Code := cA (cA (cD (bodyOf Tryz.f110)))
noncomputable def cI : Code := cA (cA (cD (cA (cD (cD (cA (cA (cD (cD cO)))))))))
section
variable (S fs : List Int) (k x : Int)
def eI (row : List Int) (j : Int) : Env := [(3, .ref [.arr S.length (lm (ik .i64) S)] 0), (5, .v (.int .i64 k)), (6, .v (.int .i64 x)), (7, .own (0, 7, 77) 0 row.length row.length), (12, .arr fs.length (lm (ik .i64) fs)), (13, .v (.int .i64 (fs.length : Int))), (14, .v (.int .i64 k)), (19, .arr S.length (lm (ik .i64) S)), (20, .v (.int .i64 (S.length : Int))), (21, .v (.int .i64 j))]
def hI (row : List Int) : Heap := [((0, 7, 77), .sl true true 1 row.length (lm (ik .i64) row))]
def eO (k : Int) : Env := [(3, .ref [.arr S.length (lm (ik .i64) S)] 0), (12, .arr fs.length (lm (ik .i64) fs)), (13, .v (.int .i64 (fs.length : Int))), (14, .v (.int .i64 k))]
end
set_option maxHeartbeats 20000000 in
theorem rI_step {cp : CallP} {n q : Nat} {K : KY} {acc : List AV} {S fs row : List Int} {k x s : Int} {j : Nat} {h : Heap} (hj : S[j]? = some s) (hr : (row.length + 1 : Int) * 8 ≤ 140737488355328) (hS : S.length ≤ 140737488355328) (hh : sweep [] (eI S fs k x row j) h = hI row) :
    ∃ h', sweep [] (eI S fs k x (row ++ [wk .i64 (x + s)]) ((j : Int) + 1)) h' = hI (row ++ [wk .i64 (x + s)]) ∧
    glY Tryz.prog noC cp noI 0 [] dY n cI (q + 1) (eI S fs k x row j) h acc K = glY Tryz.prog noC cp noI 0 [] dY n cI q (eI S fs k x (row ++ [wk .i64 (x + s)]) ((j : Int) + 1)) h' acc K := by
  have hl : (j : Int) < (S.length : Int) := by have := (List.getElem?_eq_some_iff.1 hj).1; omega
  have h1 : decide ((j : Int) < (S.length : Int)) = true := decide_eq_true hl
  have h2 := lm_ik (k := .i64) hj
  have h3 : wk .i64 ((j : Int) + 1) = (j : Int) + 1 := wk_i64 (by omega) (by omega)
  have da := dY_at
  have e : (row ++ [wk .i64 (x + s)]).length = row.length + 1 := by simp
  rw [glY_succ, hh]
  refine ⟨[((0, 7, 77), Blk.sl true true 1 (row.length + 1) (lm (ik IntKind.i64) (row ++ [wk IntKind.i64 (x + s)]))), ((0, 29, 0), Blk.sl true true 1 1 [AV.v (Value.int IntKind.i64 (wk IntKind.i64 (x + s)))])], ?_, ?_⟩
  · simp only [eI, hI, e]
    simp (disch := first | exact Zd | fail) only [ZZ, simprocAttr]
  clear hh
  conv => lhs; simp only [cI, cO, cA, cD, bodyOf, Tryz.f110, Option.getD, eI, hI]
  conv => lhs; simp (disch := first | exact Zd | fail) only [RQ, ZZ, simprocAttr, *]
  simp only [eI, hI, e]
  rfl
set_option maxHeartbeats 20000000 in
theorem rI_end {cp : CallP} {n q : Nat} {K : KY} {acc : List AV} {S fs row : List Int} {k x : Int} {h : Heap} (hh : sweep [] (eI S fs k x row S.length) h = hI row) : glY Tryz.prog noC cp noI 0 [] dY n cI (q + 1) (eI S fs k x row S.length) h acc K = K (.exit 2) (eI S fs k x row S.length) (hI row) acc := by
  have h1 : decide ((S.length : Int) < (S.length : Int)) = false := decide_eq_false (by omega)
  have da := dY_at
  rw [glY_succ, hh]
  clear hh
  conv => lhs; simp only [cI, cO, cA, cD, bodyOf, Tryz.f110, Option.getD, eI, hI]
  conv => lhs; simp (disch := first | exact Zd | fail) only [RQ, ZZ, simprocAttr, *]
  rfl
theorem rI_all {cp : CallP} {n : Nat} {K : KY} {acc : List AV} {S fs : List Int} {k x : Int} (hS : S.length * 8 ≤ 140737488355328) : ∀ (m q j : Nat) (row : List Int) (h : Heap), S.length - j = m → j ≤ S.length → row.length = j → m < q → sweep [] (eI S fs k x row j) h = hI row →
    glY Tryz.prog noC cp noI 0 [] dY n cI q (eI S fs k x row j) h acc K = K (.exit 2) (eI S fs k x (row ++ rowL (S.drop j) x) S.length) (hI (row ++ rowL (S.drop j) x)) acc
  | 0, q, j, row, h, hm, hj, hr, hq, hh => by
    obtain ⟨q, rfl⟩ : ∃ i, q = i + 1 := ⟨q - 1, by omega⟩
    obtain rfl : j = S.length := by omega
    rw [rI_end hh, List.drop_length]
    simp only [rowL, List.map_nil, List.append_nil]
  | m + 1, q, j, row, h, hm, hj, hr, hq, hh => by
    obtain ⟨q, rfl⟩ : ∃ i, q = i + 1 := ⟨q - 1, by omega⟩
    have hlt : j < S.length := by omega
    obtain ⟨h', h1, h2⟩ := rI_step (cp := cp) (n := n) (q := q) (K := K) (acc := acc) (List.getElem?_eq_getElem hlt) (by omega) (by omega) hh
    rw [h2]
    rw [show ((j : Int) + 1) = ((j + 1 : Nat) : Int) by omega] at h1 ⊢
    rw [rI_all hS m q (j + 1) (row ++ [wk .i64 (x + S[j])]) h' (by omega) (by omega) (by simp [hr]) (by omega) h1, List.drop_eq_getElem_cons hlt]
    simp only [rowL, List.map_cons, List.append_assoc, List.singleton_append]
set_option maxHeartbeats 20000000 in
theorem rO_step {cp : CallP} {n q : Nat} {K : KY} {acc : List AV} {S fs : List Int} {x : Int} {k : Nat} {h : Heap} (hS : S.length * 8 ≤ 140737488355328) (hn : S.length < n) (hk : fs[k]? = some x) (hf : fs.length ≤ 140737488355328) (hh : sweep [] (eO S fs k) h = []) :
    ∃ h', sweep [] (eO S fs ((k : Int) + 1)) h' = [] ∧ glY Tryz.prog noC cp noI 0 [] dY n cO (q + 1) (eO S fs k) h acc K = glY Tryz.prog noC cp noI 0 [] dY n cO q (eO S fs ((k : Int) + 1)) h' (acc ++ [.tuple (eyI ((k : Int), rowL S x))]) K := by
  have hl : (k : Int) < (fs.length : Int) := by have := (List.getElem?_eq_some_iff.1 hk).1; omega
  have h1 : decide ((k : Int) < (fs.length : Int)) = true := decide_eq_true hl
  have h2 := lm_ik (k := .i64) hk
  have h3 : wk .i64 ((k : Int) + 1) = (k : Int) + 1 := wk_i64 (by omega) (by omega)
  have da := dY_at
  have hI0 := fun K => @rI_all cp n K acc S fs k x hS S.length n 0 [] _ (by omega) (by omega) rfl (by omega) (show sweep [] (eI S fs k x [] 0) (hI []) = hI [] by
    simp only [eI, hI]
    simp (disch := first | exact Zd | fail) only [ZZ, simprocAttr])
  rw [glY_succ, hh]
  clear hh
  simp only [List.drop_zero, List.nil_append, show ((0 : Nat) : Int) = 0 from rfl] at hI0
  simp only [cI, cO, cA, cD, bodyOf, Tryz.f110, Option.getD, eI, hI, List.length_nil, lm_nil] at hI0
  refine ⟨[((0, 7, 77), .sl true false 1 (rowL S x).length (lm (ik .i64) (rowL S x)))], ?_, ?_⟩
  · simp only [eO]
    simp (disch := first | exact Zd | fail) only [ZZ, simprocAttr]
  · conv => lhs; simp only [cO, cA, cD, bodyOf, Tryz.f110, Option.getD, eO]
    conv => lhs; simp (disch := first | exact Zd | fail) only [RQ, ZZ, simprocAttr, da, h1, h2, h3, hI0]
    simp only [eO, eyI, cO, cA, cD, bodyOf, Tryz.f110, Option.getD]
set_option maxHeartbeats 20000000 in
theorem rO_end {cp : CallP} {n q : Nat} {K : KY} {acc : List AV} {S fs : List Int} {h : Heap} (hh : sweep [] (eO S fs fs.length) h = []) : glY Tryz.prog noC cp noI 0 [] dY n cO (q + 1) (eO S fs fs.length) h acc K = K (.exit 0) (eO S fs fs.length) [] acc := by
  have h1 : decide ((fs.length : Int) < (fs.length : Int)) = false := decide_eq_false (by omega)
  have da := dY_at
  rw [glY_succ, hh]
  clear hh
  conv => lhs; simp only [cO, cA, cD, bodyOf, Tryz.f110, Option.getD, eO]
  conv => lhs; simp (disch := first | exact Zd | fail) only [RQ, ZZ, simprocAttr, da, h1]
  rfl
theorem rO_all {cp : CallP} {n : Nat} {K : KY} {S fs : List Int} (hS : S.length * 8 ≤ 140737488355328) (hn : S.length < n) (hf : fs.length ≤ 140737488355328) : ∀ (m q k : Nat) (h : Heap) (acc : List AV), fs.length - k = m → k ≤ fs.length → m < q → sweep [] (eO S fs k) h = [] →
    glY Tryz.prog noC cp noI 0 [] dY n cO q (eO S fs k) h acc K = K (.exit 0) (eO S fs fs.length) [] (acc ++ (rowsL S k (fs.drop k)).map fun y => .tuple (eyI y))
  | 0, q, k, h, acc, hm, hk, hq, hh => by
    obtain ⟨q, rfl⟩ : ∃ i, q = i + 1 := ⟨q - 1, by omega⟩
    obtain rfl : k = fs.length := by omega
    rw [rO_end hh, List.drop_length]
    simp only [rowsL, List.map_nil, List.append_nil]
  | m + 1, q, k, h, acc, hm, hk, hq, hh => by
    obtain ⟨q, rfl⟩ : ∃ i, q = i + 1 := ⟨q - 1, by omega⟩
    have hlt : k < fs.length := by omega
    obtain ⟨h', h1, h2⟩ := rO_step (cp := cp) (n := n) (q := q) (K := K) (acc := acc) hS hn (List.getElem?_eq_getElem hlt) hf hh
    rw [h2]
    rw [show ((k : Int) + 1) = ((k + 1 : Nat) : Int) by omega] at h1 ⊢
    rw [rO_all hS hn hf m q (k + 1) h' _ (by omega) (by omega) (by omega) h1, List.drop_eq_getElem_cons hlt]
    simp only [rowsL, List.map_cons, List.append_assoc, List.singleton_append]
def aY (a b c : List Int) : List AV := [.ref [.arr a.length (lm (ik .i64) a)] 0, .ref [.arr b.length (lm (ik .i64) b)] 0, .ref [.arr c.length (lm (ik .i64) c)] 0]
set_option maxHeartbeats 20000000 in
theorem rY_all {cp : CallP} {fu : Nat} {outer far S : List Int} {ys : List (Int × List Int)} (H : K109 fu cp) (h : reduce_rowsIt fu outer far S = some ys) : bodyY Tryz.prog noC cp noI fu dY ⟨bodyOf Tryz.f110, [], []⟩ (aY outer far S) = some (ys.map fun y => .tuple (eyI y)) := by
  unfold reduce_rowsIt at h
  obtain ⟨fs, hp, h⟩ := Option.bind_eq_some_iff.1 h
  unfold chk at h
  split at h
  · rename_i hc
    injection h with h
    subst h
    obtain ⟨c1, c2, c3, c4⟩ := hc
    have hp' := H.ap hp
    refine bodyY_of rfl ?_
    have da := dY_at
    have hall := fun K => @rO_all cp fu K S fs c4 c2 c3 fs.length fu 0 [] [] (by omega) (by omega) c1 (by
      simp only [eO]
      simp (disch := first | exact Zd | fail) only [ZZ, simprocAttr])
    simp only [List.drop_zero, List.nil_append, show ((0 : Nat) : Int) = 0 from rfl] at hall
    simp only [cO, cA, cD, bodyOf, Tryz.f110, Option.getD, eO] at hall
    conv => lhs; simp only [bodyOf, Tryz.f110, Option.getD, aY, initE]
    conv => lhs; simp (disch := first | exact Zd | fail) only [RQ, ZZ, simprocAttr, da, hp', hall]
    rfl
  · cases h
noncomputable def cy110 (fu : Nat) : List AV → Option (List AV) := fun xs => (mkC (fun (t : List Int × List Int × List Int) => aY t.1 t.2.1 t.2.2) (fun t => reduce_rowsIt fu t.1 t.2.1 t.2.2) (fun ys => .tuple (ys.map fun y => .tuple (eyI y))) xs).bind tupL
theorem cy110_ok (fu : Nat) (xs ys : List AV) (h : cy110 fu xs = some ys) : ItOK Tryz.prog 110 xs ys := by
  unfold cy110 at h
  obtain ⟨r, hr, h⟩ := Option.bind_eq_some_iff.1 h
  obtain ⟨t, zs, rfl, hz, rfl⟩ := mkC_some hr
  injection h with h
  subst h
  have ok := tabC_ok [(C109 fu).ct]
  have hit := tabC_hits [(C109 fu).ct] (by simp)
  exact bodyY_ok mixed ok noI_ok iY (rY_all (u109 hit.1) hz)
theorem aY_inj : Inj (fun (t : List Int × List Int × List Int) => aY t.1 t.2.1 t.2.2) := by
  intro a b h
  simp only [aY, INJ, IJ] at h
  first | exact h | simp_all [Prod.ext_iff]
theorem cy110_ap {fu : Nat} {a b c : List Int} {r : List (Int × List Int)} (h : reduce_rowsIt fu a b c = some r) : cy110 fu [.ref [.arr a.length (lm (ik .i64) a)] 0, .ref [.arr b.length (lm (ik .i64) b)] 0, .ref [.arr c.length (lm (ik .i64) c)] 0] = some (r.map fun y => .tuple (eyI y)) := by
  have := mkC_at (F := fun (t : List Int × List Int × List Int) => reduce_rowsIt fu t.1 t.2.1 t.2.2) (eb := fun ys => AV.tuple (ys.map fun y => .tuple (eyI y))) aY_inj (a := (a, b, c)) h
  show (mkC _ _ _ (aY a b c)).bind tupL = _
  rw [this]
  rfl
def reduce_Do.m1 : LJ 1 12 Unit (Int × Int) := ⟨fun r s e => [(1, er e 1), (2, er e 2), (3, er e 3), (4, .v (.int .i64 s.1)), (11, er e 11), (12, .v (.int .i64 s.2))], fun r s h => [((0, 6, 0), hr h (0, 6, 0)), ((0, 21, 0), hr h (0, 21, 0)), ((0, 8, 115), hr h (0, 8, 115)), ((0, 80, 0), hr h (0, 80, 0)), ((0, 80, 1), hr h (0, 80, 1)), ((0, 80, 2), hr h (0, 80, 2)), ((0, 80, 3), hr h (0, 80, 3)), ((1, 1, 0), hr h (1, 1, 0)), ((2, 4, 0), hr h (2, 4, 0)), ((2, 4, 78), hr h (2, 4, 78)), ((2, 6, 0), hr h (2, 6, 0)), ((2, 6, 78), hr h (2, 6, 78)), ((2, 12, 0), hr h (2, 12, 0))]⟩
def reduce_Do.j3 : LJ 3 22 Unit Int := ⟨fun r t e => [(1, er e 1), (2, er e 2), (4, .v (.int .i64 t))], fun r t h => [((0, 6, 0), hr h (0, 6, 0)), ((0, 21, 0), hr h (0, 21, 0)), ((0, 8, 115), hr h (0, 8, 115)), ((0, 80, 0), hr h (0, 80, 0)), ((0, 80, 1), hr h (0, 80, 1)), ((0, 80, 2), hr h (0, 80, 2)), ((0, 80, 3), hr h (0, 80, 3)), ((1, 1, 0), hr h (1, 1, 0)), ((2, 4, 0), hr h (2, 4, 0)), ((2, 4, 78), hr h (2, 4, 78)), ((2, 6, 0), hr h (2, 6, 0)), ((2, 6, 78), hr h (2, 6, 78)), ((2, 12, 0), hr h (2, 12, 0))]⟩
def reduce_Do.r1 : LJ 1 3 Unit (List Int) := ⟨fun r s e => e, fun r s h => [((0, 6, 0), hr h (0, 6, 0)), ((0, 21, 0), hr h (0, 21, 0)), ((0, 8, 115), hr h (0, 8, 115)), ((0, 80, 0), hr h (0, 80, 0)), ((0, 80, 1), hr h (0, 80, 1)), ((0, 80, 2), .sl true true 1 (hx h (0, 80, 2)) (lm (ik .i64) s)), ((0, 80, 3), hr h (0, 80, 3)), ((1, 1, 0), hr h (1, 1, 0)), ((2, 4, 0), hr h (2, 4, 0)), ((2, 4, 78), hr h (2, 4, 78)), ((2, 6, 0), hr h (2, 6, 0)), ((2, 6, 78), hr h (2, 6, 78)), ((2, 12, 0), hr h (2, 12, 0))]⟩
def reduce_Do.m2 : LJ 2 12 Unit ((List Int) × (List Int) × (List Int) × (List Int) × Int) := ⟨fun r s e => [(3, er e 3), (4, er e 4), (5, .own (2, 5, 77) 0 s.1.length s.1.length), (6, er e 6), (7, .own (2, 7, 77) 0 s.2.2.1.length s.2.2.1.length), (8, er e 8), (28, er e 28), (29, er e 29), (30, .v (.int .i64 s.2.2.2.2))], fun r s h => [((0, 6, 0), hr h (0, 6, 0)), ((0, 21, 0), hr h (0, 21, 0)), ((0, 8, 115), hr h (0, 8, 115)), ((0, 80, 0), hr h (0, 80, 0)), ((0, 80, 1), hr h (0, 80, 1)), ((0, 80, 2), hr h (0, 80, 2)), ((0, 80, 3), hr h (0, 80, 3)), ((1, 1, 0), hr h (1, 1, 0)), ((2, 14, 0), hr h (2, 14, 0)), ((2, 4, 0), bs (hr h (2, 4, 0)) 0 (.own (2, 4, 78) 0 s.2.1.length s.2.1.length)), ((2, 5, 77), .sl true true 1 s.1.length (lm (ik .i64) s.1)), ((2, 4, 78), .sl true true 1 s.2.1.length (lm (ik .i64) s.2.1)), ((2, 6, 0), bs (hr h (2, 6, 0)) 0 (.own (2, 6, 78) 0 s.2.2.2.1.length s.2.2.2.1.length)), ((2, 7, 77), .sl true true 1 s.2.2.1.length (lm (ik .i64) s.2.2.1)), ((2, 6, 78), .sl true true 1 s.2.2.2.1.length (lm (ik .i64) s.2.2.2.1))]⟩
def reduce_Do.j2 : LJ 2 24 Unit ((List Int) × (List Int) × (List Int) × (List Int)) := ⟨fun r t e => [(4, er e 4), (5, .own (2, 5, 77) 0 t.1.length t.1.length), (6, er e 6), (7, .own (2, 7, 77) 0 t.2.2.1.length t.2.2.1.length)], fun r t h => [((0, 6, 0), hr h (0, 6, 0)), ((0, 21, 0), hr h (0, 21, 0)), ((0, 8, 115), hr h (0, 8, 115)), ((0, 80, 0), hr h (0, 80, 0)), ((0, 80, 1), hr h (0, 80, 1)), ((0, 80, 2), hr h (0, 80, 2)), ((0, 80, 3), hr h (0, 80, 3)), ((1, 1, 0), hr h (1, 1, 0)), ((2, 14, 0), hr h (2, 14, 0)), ((2, 4, 0), bs (hr h (2, 4, 0)) 0 (.own (2, 4, 78) 0 t.2.1.length t.2.1.length)), ((2, 5, 77), .sl true true 1 t.1.length (lm (ik .i64) t.1)), ((2, 4, 78), .sl true true 1 t.2.1.length (lm (ik .i64) t.2.1)), ((2, 6, 0), bs (hr h (2, 6, 0)) 0 (.own (2, 6, 78) 0 t.2.2.2.length t.2.2.2.length)), ((2, 7, 77), .sl true true 1 t.2.2.1.length (lm (ik .i64) t.2.2.1)), ((2, 6, 78), .sl true true 1 t.2.2.2.length (lm (ik .i64) t.2.2.2))]⟩
def reduce_Do.m3 : LJ 3 10 Unit ((List T_Tensor) × Int) := ⟨fun r s e => [(0, er e 0), (2, er e 2), (4, er e 4), (6, er e 6), (8, er e 8), (22, er e 22), (23, er e 23), (24, .v (.int .i64 s.2))], fun r s h => [((0, 4, 0), hr h (0, 4, 0)), ((0, 6, 0), hr h (0, 6, 0)), ((0, 21, 0), bs (hr h (0, 21, 0)) 37 (.own (0, 8, 115) 0 s.1.length s.1.length)), ((0, 8, 115), .sl true true 5 s.1.length (fm c_T_Tensor s.1))]⟩
def reduce_Do.j1 : LJ 1 26 Unit (List T_Tensor) := ⟨fun r t e => [(0, er e 0), (2, er e 2), (4, er e 4), (6, er e 6), (8, er e 8)], fun r t h => [((0, 4, 0), hr h (0, 4, 0)), ((0, 6, 0), hr h (0, 6, 0)), ((0, 21, 0), bs (hr h (0, 21, 0)) 37 (.own (0, 8, 115) 0 t.length t.length)), ((0, 8, 115), .sl true true 5 t.length (fm c_T_Tensor t))]⟩
set_option maxHeartbeats 400000000 in
open reduce_Do in
theorem w13 (cp : CallP) (fu : Nat) (x1 : Int) (x2 : T_Setting) (x3 : List T_Tensor) (H1 : K22 fu cp) (H2 : K23 fu cp) (H3 : K24 fu cp) (H4 : K26 fu cp) (H5 : K25 fu cp) (H6 : K27 fu cp) (H7 : K108 fu cp) (H8 : K54 fu cp) (H9 : K109 fu cp) (H10 : K48 fu cp) : J (go Tryz.prog (inlC [28, 47]) cp (ciE Tryz.prog (inlC [28, 47]) cp (ciE Tryz.prog (inlC [28, 47]) cp (ciY 110 (cy110 fu) noI) fu 47 d47 ⟨b47, [.tmp 2], [74]⟩ (ciY 110 (cy110 fu) noI)) fu 28 d28 ⟨b28, [], []⟩ (ciE Tryz.prog (inlC [28, 47]) cp (ciY 110 (cy110 fu) noI) fu 47 d47 ⟨b47, [.tmp 2], [74]⟩ (ciY 110 (cy110 fu) noI))) 0 [] d13 fu (finS Tryz.prog [.cell 6 31, .tmp 7] [31, 32]) (bodyOf Tryz.f13) (initE 0 [.v (.int .i64 x1), .agg (c_T_Setting x2), .arr x3.length (fm c_T_Tensor x3)]) [] []) (reduce_Do fu x1 x2 x3) e13 := by
 unfold reduce_Do e13
 have da := d13_at
 conv => arg 1; simp only [bodyOf, Tryz.f13]
 have z0 := d13_at
 have z1 := SE
 have z2 := RL
 have z3 := d28_at
 have z4 := Tryz.f28.eq_1
 have z5 := @go_b28
 have z6 := d47_at
 have z7 := Tryz.f47.eq_1
 have z8 := @go_b47
 have z9 := RI
 have z10 := RIk
 have z11 := @bodyOf.eq_1
 have z12 := RY
 exact Wk
theorem ok13 (fu : Nat) (x1 : Int) (x2 : T_Setting) (x3 : List T_Tensor) (r) (h : reduce_Do fu x1 x2 x3 = some r) : PureOK Tryz.prog 13 [.v (.int .i64 x1), .agg (c_T_Setting x2), .arr x3.length (fm c_T_Tensor x3)] (e13 r) := pureST mixed [(C22 fu).ct, (C23 fu).ct, (C24 fu).ct, (C26 fu).ct, (C25 fu).ct, (C27 fu).ct, (C108 fu).ct, (C54 fu).ct, (C109 fu).ct, (C48 fu).ct] (ids := [22, 23, 24, 26, 25, 27, 108, 54, 109, 48]) rfl (by decide) i13 (C := (inlC [28, 47])) (ci := fun cp => (ciE Tryz.prog (inlC [28, 47]) cp (ciE Tryz.prog (inlC [28, 47]) cp (ciY 110 (cy110 fu) noI) fu 47 d47 ⟨b47, [.tmp 2], [74]⟩ (ciY 110 (cy110 fu) noI)) fu 28 d28 ⟨b28, [], []⟩ (ciE Tryz.prog (inlC [28, 47]) cp (ciY 110 (cy110 fu) noI) fu 47 d47 ⟨b47, [.tmp 2], [74]⟩ (ciY 110 (cy110 fu) noI)))) (fun cp ok => (ciE_ok mixed ok (ciE_ok mixed ok (ciY_ok noI_ok (cy110_ok fu)) i47 (ciY_ok noI_ok (cy110_ok fu))) i28 (ciE_ok mixed ok (ciY_ok noI_ok (cy110_ok fu)) i47 (ciY_ok noI_ok (cy110_ok fu))))) (fun cp H => w13 cp fu x1 x2 x3 (u22 H.1) (u23 H.2.1) (u24 H.2.2.1) (u26 H.2.2.2.1) (u25 H.2.2.2.2.1) (u27 H.2.2.2.2.2.1) (u108 H.2.2.2.2.2.2.1) (u54 H.2.2.2.2.2.2.2.1) (u109 H.2.2.2.2.2.2.2.2.1) (u48 H.2.2.2.2.2.2.2.2.2.1)) h
def d5 : List (Nat × List Nat) := [(0, [0, 4]), (0, [1, 2, 6, 8, 10, 11]), (0, [12]), (0, []), (0, [13, 14, 15]), (0, []), (0, [16, 17, 18, 19, 20, 21, 22, 23, 24, 25, 26]), (0, []), (0, [28]), (0, []), (0, [29, 30]), (0, []), (0, [31, 32, 33]), (0, []), (0, [7, 34, 35, 36, 37, 38, 39, 40, 41]), (0, []), (0, [9, 42, 43, 44, 45, 46, 47, 48, 49, 50, 51, 52, 53, 54, 55, 56, 57, 58, 59, 60, 61, 62, 63]), (0, []), (0, []), (0, []), (9, [65, 66, 67, 68, 69, 70, 71, 72]), (0, []), (0, []), (0, []), (0, [73, 74]), (0, []), (0, [76, 77]), (0, []), (0, [78, 79, 80, 81, 82, 83, 84, 85, 86, 87, 88, 89, 90, 91, 92, 93, 94, 95, 96, 97, 98, 99, 100, 101, 102, 103, 104, 105, 106, 107, 108, 109, 110, 111, 112, 113, 114, 115]), (0, []), (0, []), (0, []), (0, [5, 117])]
def d5_at := by have h := tabL d5.eq_1; simp only [AllAt, Nat.zero_add, Nat.reduceAdd] at h; exact h
theorem i5 : finfo Tryz.prog 5 d5 = some ⟨bodyOf Tryz.f5, [.tmp 4], [4]⟩ := finfo_at Tryz.func5 rfl (by kernel_rfl) (by kernel_rfl)
def e5 : Bool → AV := fun r => .v (.bool r)
noncomputable def C8 : Cm Tryz.prog Unit Bool := ⟨8, fun _ => [], fun _ => some true, fun b => .v (.bool b), fun _ b h => by injection h with h; subst h; exact awake8, fun _ _ _ => rfl⟩
structure K11 (fu : Nat) (cp : CallP) : Prop where
 ap : ∀ {a0 : T_Tensor} {r}, ref05_Check fu a0 = some r → cp 11 [.agg (c_T_Tensor a0)] = some (.v (.int .i64 r))
noncomputable def C11 (fu : Nat) : Cm Tryz.prog T_Tensor Int := ⟨11, fun t => [.agg (c_T_Tensor t)], fun t => ref05_Check fu t, e11, fun t b h => ok11 fu t  b h, Zi⟩
theorem u11 {fu : Nat} {cp : CallP} (H : Hit cp (C11 fu).ct) : K11 fu cp := ⟨fun {a0 r} h => (C11 fu).at H a0 r h⟩
structure K12 (fu : Nat) (cp : CallP) : Prop where
 ap : ∀ {a0 : T_Tensor} {r}, ref05_Copy fu a0 = some r → cp 12 [.agg (c_T_Tensor a0)] = some (.agg [.v (.int .i64 r.fType), .fresh 1 r.fDims.length (lm (ik .i64) r.fDims), .fresh 1 r.fF.length (lm (ik .u32) r.fF), .fresh 1 r.fI.length (lm (ik .i64) r.fI), .fresh 1 r.fB.length (lm (bk) r.fB)])
noncomputable def C12 (fu : Nat) : Cm Tryz.prog T_Tensor T_Tensor := ⟨12, fun t => [.agg (c_T_Tensor t)], fun t => ref05_Copy fu t, e12, fun t b h => ok12 fu t  b h, Zi⟩
theorem u12 {fu : Nat} {cp : CallP} (H : Hit cp (C12 fu).ct) : K12 fu cp := ⟨fun {a0 r} h => (C12 fu).at H a0 r h⟩
structure K13 (fu : Nat) (cp : CallP) : Prop where
 ap : ∀ {a0 : Int} {a1 : T_Setting} {a2 : List T_Tensor} {r}, reduce_Do fu a0 a1 a2 = some r → cp 13 [.v (.int .i64 a0), .agg (c_T_Setting a1), .arr a2.length (fm c_T_Tensor a2)] = some (.tuple [.agg [.v (.int .i64 r.1.fType), .arr r.1.fDims.length (lm (ik .i64) r.1.fDims), .arr r.1.fF.length (lm (ik .u32) r.1.fF), .arr r.1.fI.length (lm (ik .i64) r.1.fI), .arr r.1.fB.length (lm (bk) r.1.fB)], .v (.int .i64 r.2)])
noncomputable def C13 (fu : Nat) : Cm Tryz.prog (Int × T_Setting × (List T_Tensor)) (T_Tensor × Int) := ⟨13, fun t => [.v (.int .i64 t.1), .agg (c_T_Setting t.2.1), .arr t.2.2.length (fm c_T_Tensor t.2.2)], fun t => reduce_Do fu t.1 t.2.1 t.2.2, e13, fun t b h => ok13 fu t.1 t.2.1 t.2.2  b h, Zi⟩
theorem u13 {fu : Nat} {cp : CallP} (H : Hit cp (C13 fu).ct) : K13 fu cp := ⟨fun {a0 a1 a2 r} h => (C13 fu).at H (a0, a1, a2) r h⟩
def law13_ReduceBest.m1 : LJ 1 24 Unit (Bool × Int) := ⟨fun r s e => [(1, .v (.bool s.1)), (2, er e 2), (5, er e 5), (6, er e 6), (8, er e 8), (10, er e 10), (11, .v (.int .i64 s.2))], fun r s h => [((0, 2, 0), hr h (0, 2, 0)), ((0, 8, 0), hr h (0, 8, 0))]⟩
def law13_ReduceBest.j2 : LJ 2 20 Unit Unit := ⟨fun r t e => [(1, er e 1), (2, er e 2), (5, er e 5), (6, er e 6), (8, er e 8)], fun r t h => [((0, 2, 0), hr h (0, 2, 0)), ((0, 8, 0), hr h (0, 8, 0))]⟩
def law13_ReduceBest.j1 : LJ 1 10 Unit Unit := ⟨fun r t e => [(1, er e 1), (2, er e 2), (5, er e 5), (6, er e 6)], fun r t h => [((0, 2, 0), hr h (0, 2, 0))]⟩
set_option maxHeartbeats 20000000 in
open law13_ReduceBest in
theorem w5 (cp : CallP) (fu : Nat) (x1 : T_Tensor) (x2 : Bool) (H1 : cp 8 [] = some (.v (.bool true))) (H2 : K11 fu cp) (H3 : K12 fu cp) (H4 : K13 fu cp) : J (go Tryz.prog noCs cp noI 0 [] d5 fu (fin Tryz.prog [.tmp 4] [4]) (bodyOf Tryz.f5) (initE 0 [.agg (c_T_Tensor x1), .v (.bool x2)]) [] []) (law13_ReduceBest fu x1 x2) e5 := by
 unfold law13_ReduceBest e5
 have da := d5_at
 conv => arg 1; simp only [bodyOf, Tryz.f5]
 have z0 := d5_at
 have z1 := @aop_callC
 have z2 := @aq_callC
 exact Wk
theorem ok5 (fu : Nat) (x1 : T_Tensor) (x2 : Bool) (r) (h : law13_ReduceBest fu x1 x2 = some r) : PureOK Tryz.prog 5 [.agg (c_T_Tensor x1), .v (.bool x2)] (e5 r) := pureT mixed [C8.ct, (C11 fu).ct, (C12 fu).ct, (C13 fu).ct] (ids := [8, 11, 12, 13]) rfl (by decide) i5 (C := noCs) (ci := fun cp => noI) (fun cp ok => noI_ok) (fun cp H => w5 cp fu x1 x2 (C8.at H.1 () true rfl) (u11 H.2.1) (u12 H.2.2.1) (u13 H.2.2.2.1)) h
end Go.Av
