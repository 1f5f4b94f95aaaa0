/- More equations; all of them in one. Conditions: those that each names. -/
import Derived.Test.YteafmomjfnlkgaaGreatMq
set_option linter.unusedVariables false
set_option linter.defProp false
namespace Go.Av
section
variable {P : Program} {C : Cfg} {cp : CallP} {ci : CallI} {lvl n : Nat} {e : Env} {h : Heap} {g : Id → Option Blk} {α : Type} {f : α → AV} {c : α → List AV} {l : List α}
theorem optD_some {x y : α} : (some x).getD y = x := rfl
theorem optD_none {y : α} : (none : Option α).getD y = y := rfl
theorem b_nt : (!true) = false := rfl
theorem b_nf : (!false) = true := rfl
def wtd (want : Bool) : AV → Option Bool
  | .v (.bool b) => some (b == want)
  | .v _ => some false
  | _ => none
def wtD (want : Bool) (e : Nat → Option AV) : Option Tmp → Option Bool
  | some d => (e d).bind (wtd want)
  | none => some false
theorem wanted_at {all : List Oper} {e : Nat → Option AV} {d op ty pos after j want} : wantedF all e ⟨d, op, ty, pos, after, some (j, want)⟩ = wtD want e ((all[j]?).bind (·.dst)) := by
  rw [wanted_guard]
  cases (all[j]?).bind (·.dst) with
  | none => rfl
  | some d =>
    simp only [wtD]
    congr 1
theorem wtD_at {want : Bool} {e : Nat → Option AV} {d : Tmp} : wtD want e (some d) = (e d).bind (wtd want) := rfl
theorem wtd_b {want b : Bool} : wtd want (.v (.bool b)) = some (b == want) := rfl
theorem wtd_u {want : Bool} : wtd want (.v undef) = some false := rfl
theorem ev_int {d k x} : exportV g d (.v (.int k x)) = some (.v (.int k x)) := by cases d <;> rfl
theorem ev_bool {d x} : exportV g d (.v (.bool x)) = some (.v (.bool x)) := by cases d <;> rfl
theorem ev_str {d x} : exportV g d (.v (.string x)) = some (.v (.string x)) := by cases d <;> rfl
theorem ev_nil {d cc} : exportV g d (.v (.slice none 0 cc)) = some (.arr 0 []) := by cases d <;> rfl
theorem ev_arr {d m xs} : exportV g d (.arr m xs) = some (.arr m xs) := by cases d <;> rfl
theorem ev_ref {d o xs} : exportV g d (.ref xs o) = some (.ref xs o) := by cases d <;> rfl
theorem ev_fn {d k} : exportV g d (.fn k [] []) = some (.fn k [] []) := by cases d <;> rfl
theorem mapM_optL {F : AV → Option AV} : ∀ {xs : List AV}, xs.mapM F = optL F xs
  | [] => rfl
  | x :: xs => by
    rw [List.mapM_cons, mapM_optL]
    rfl
def exO (g : Id → Option Blk) (d off m ext : Nat) : Blk → Option AV
  | .sl true _ sz e cells => if e = ext then some (.arr m (cut cells off m sz e)) else none
  | .sl false _ sz e cells => match d with
    | 0 => none
    | d + 1 => if e = ext then (optL (exportV g d) cells).bind fun cs => some (.arr m (cut cs off m sz e)) else none
  | _ => none
theorem ev_own {d : Nat} {id : Id} {off m ext : Nat} : exportV g d (.own id off m ext) = (g id).bind (exO g d off m ext) := by
  cases d with
  | zero =>
    simp only [exportV]
    cases g id with
    | none => rfl
    | some b => cases b with
      | bx => rfl
      | sl cl => cases cl <;> rfl
  | succ d =>
    simp only [exportV, mapM_optL]
    cases g id with
    | none => rfl
    | some b => cases b with
      | bx => rfl
      | sl cl => cases cl <;> rfl
theorem exO_at {d off m ext r sz cells} : exO g d off m ext (.sl true r sz ext cells) = some (.arr m (cut cells off m sz ext)) := by simp [exO]
theorem exO_open {d off m ext r sz cells} : exO g (d + 1) off m ext (.sl false r sz ext cells) = (optL (exportV g d) cells).bind fun cs => some (.arr m (cut cs off m sz ext)) := by simp [exO]
def exP (g : Id → Option Blk) (d off ext : Nat) : Blk → Option AV
  | .bx _ cells => if ext = 0 then (optL (exportV g d) cells).bind fun xs => some (.ref xs off) else none
  | _ => none
theorem ev_ptr {d : Nat} {id : Id} {off ext : Nat} : exportV g (d + 1) (.ptr id off ext) = (g id).bind (exP g d off ext) := by
  simp only [exportV, mapM_optL]
  cases g id with
  | none => rfl
  | some b => cases b <;> rfl
theorem exP_at {d off r cells} : exP g d off 0 (.bx r cells) = (optL (exportV g d) cells).bind fun xs => some (.ref xs off) := rfl
theorem ev_agg {d : Nat} {xs : List AV} : exportV g (d + 1) (.agg xs) = (optL (exportV g d) xs).bind fun ys => some (.agg ys) := by
  simp only [exportV, mapM_optL]
theorem ev_clo {d : Nat} {k : FuncId} {a b : List AV} : exportV g (d + 1) (.fn k a b) = (optL (exportV g d) a).bind fun a' => (optL (exportV g d) b).bind fun b' => some (.fn k a' b') := by
  cases a <;> cases b <;> simp [exportV, mapM_optL, optL]
theorem cut_at {cells : List AV} {m sz ext : Nat} (h : m = ext) : cut cells 0 m sz ext = cells := by simp [cut, h]
theorem bow_v {d x} : borrowed g d (.v x) = [] := by cases d <;> rfl
theorem bow_arr {d m xs} : borrowed g d (.arr m xs) = [] := by cases d <;> rfl
theorem bow_ref {d o xs} : borrowed g d (.ref xs o) = [] := by cases d <;> rfl
theorem bow_fn {d k} : borrowed g d (.fn k [] []) = [] := by cases d <;> rfl
def boB (g : Id → Option Blk) (d : Nat) : Option Blk → List Id
  | some (.sl false _ _ _ cells) => (cells.map (borrowed g d)).flatten
  | _ => []
theorem bow_own {d : Nat} {id : Id} {off m ext : Nat} : borrowed g (d + 1) (.own id off m ext) = id :: boB g d (g id) := by
  have : ∀ b, g id = b → borrowed g (d + 1) (.own id off m ext) = id :: boB g d b := fun b hb => by
    unfold borrowed
    rw [hb]
    rfl
  exact this _ rfl
theorem bow_own0 {id : Id} {off m ext : Nat} : borrowed g 0 (.own id off m ext) = [id] := rfl
theorem boB_at {d r sz ext cells} : boB g d (some (.sl true r sz ext cells)) = [] := rfl
theorem boB_open {d r sz ext cells} : boB g d (some (.sl false r sz ext cells)) = (cells.map (borrowed g d)).flatten := rfl
def boP (g : Id → Option Blk) (d : Nat) : Option Blk → List Id
  | some (.bx _ cells) => (cells.map (borrowed g d)).flatten
  | _ => []
theorem bow_ptr {d : Nat} {id : Id} {off ext : Nat} : borrowed g (d + 1) (.ptr id off ext) = id :: boP g d (g id) := by
  have : ∀ b, g id = b → borrowed g (d + 1) (.ptr id off ext) = id :: boP g d b := fun b hb => by
    unfold borrowed
    rw [hb]
    rfl
  exact this _ rfl
theorem boP_at {d r cells} : boP g d (some (.bx r cells)) = (cells.map (borrowed g d)).flatten := rfl
theorem bow_agg {d : Nat} {xs : List AV} : borrowed g (d + 1) (.agg xs) = (xs.map (borrowed g d)).flatten := rfl
theorem bow_clo {d : Nat} {k : FuncId} {a b : List AV} : borrowed g (d + 1) (.fn k a b) = (a.map (borrowed g d)).flatten ++ (b.map (borrowed g d)).flatten := rfl
theorem callX_fl {d : Nat} {r : AV} {fl : List Id} : callX lvl d h (some (r, fl)) = qo lvl d (freezeAll h fl) (some r) := rfl
theorem al_v {d x} : alias d (.v x) = false := by cases d <;> rfl
theorem al_arr {d m xs} : alias d (.arr m xs) = true := by cases d <;> rfl
theorem al_agg {d xs} : alias (d + 1) (.agg xs) = xs.any (alias d) := rfl
theorem al_tuple {d xs} : alias (d + 1) (.tuple xs) = xs.any (alias d) := rfl
theorem al_fresh {d sz m xs} : alias (d + 1) (.fresh sz m xs) = xs.any (alias d) := rfl
theorem al_ik {d : Nat} {k : IntKind} {l : List Int} : (lm (ik k) l).any (alias d) = false := by
  simp only [List.any_eq_false, lm, List.mem_map]
  rintro x ⟨y, _, rfl⟩
  simp [ik, al_v]
theorem al_bk {d : Nat} {l : List Bool} : (lm bk l).any (alias d) = false := by
  simp only [List.any_eq_false, lm, List.mem_map]
  rintro x ⟨y, _, rfl⟩
  simp [bk, al_v]
def subN {α : Type} (l : List α) (a b : Nat) : List α := (l.drop a).take (b - a)
theorem subN_length {a b : Nat} (h : b ≤ l.length) : (subN l a b).length = b - a := by
  simp only [subN, List.length_take, List.length_drop]; omega
def slA (sz n : Nat) (xs : List AV) (l r : Nat) : Option AV := if l ≤ r ∧ r ≤ n then some (.arr (r - l) (if l = 0 ∧ r = n then xs else (xs.drop (l * sz)).take ((r - l) * sz))) else none
theorem slA_lm {l : List α} {a b : Nat} (h1 : a ≤ b) (h2 : b ≤ l.length) : slA 1 l.length (lm f l) a b = some (.arr (subN l a b).length (lm f (subN l a b))) := by
  simp only [slA]
  rw [if_pos ⟨h1, h2⟩, subN_length h2]
  by_cases hh : a = 0 ∧ b = l.length
  · obtain ⟨rfl, rfl⟩ := hh
    rw [if_pos ⟨rfl, rfl⟩]
    simp [subN]
  · rw [if_neg hh]
    simp [subN, lm, List.map_take, List.map_drop]
theorem slim_none {d : Nat} : sliceLim none d = some d := rfl
theorem slim_int {k : IntKind} {x : Int} {d : Nat} (h : 0 ≤ x) : sliceLim (some (.v (.int k x))) d = some x.toNat := by simp [sliceLim, h]
theorem optS_none {α β : Type} {F : α → Option β} : optS F none = some none := rfl
theorem optS_some {α β : Type} {F : α → Option β} {x : α} : optS F (some x) = (F x).bind fun y => some (some y) := rfl
def slO (id : Id) (off ext sz l r : Nat) : Blk → Option AV
  | .sl _ _ sz' ext' _ => if sz' = sz ∧ ext' = ext ∧ l ≤ r ∧ off + r * sz ≤ ext * sz ∧ 0 < sz then some (.own id (off + l * sz) (r - l) ext) else none
  | _ => none
theorem slO_at {id : Id} {off ext sz l r : Nat} {cl rw cells} (h1 : l ≤ r) (h2 : off + r * sz ≤ ext * sz) (h3 : 0 < sz) : slO id off ext sz l r (.sl cl rw sz ext cells) = some (.own id (off + l * sz) (r - l) ext) := by
  simp [slO, h1, h2, h3]
def aflB (place : Nat → Option (Nat × Nat)) (cells : List AV) (x : AV) (rest : List (Nat × AV)) (r : Nat × Nat) : Option (List AV) :=
  if x.cells.length = r.2 ∧ r.1 + r.2 ≤ cells.length ∧ x.cells.all AV.one = true then afill place (putCells cells r.1 x.cells) rest else none
theorem afl_nil {place : Nat → Option (Nat × Nat)} {cells : List AV} : afill place cells [] = some cells := rfl
theorem afl_cons {place : Nat → Option (Nat × Nat)} {cells : List AV} {i : Nat} {x : AV} {rest : List (Nat × AV)} : afill place cells ((i, x) :: rest) = (place i).bind (aflB place cells x rest) := rfl
theorem aflB_at {place : Nat → Option (Nat × Nat)} {cells : List AV} {x : AV} {rest : List (Nat × AV)} {o s : Nat} :
  aflB place cells x rest (o, s) = if x.cells.length = s ∧ o + s ≤ cells.length ∧ x.cells.all AV.one = true then afill place (putCells cells o x.cells) rest else none := rfl
def flP (P : Program) (t i : Nat) : Option (Nat × Nat) := (fieldOf P t i).map fun r => (r.1, tsize P r.2)
def elP (sz i : Nat) : Option (Nat × Nat) := some (i * sz, sz)
theorem elP_at {sz i : Nat} : elP sz i = some (i * sz, sz) := rfl
theorem bld_struct {t : TypeId} {z : List AV} {parts : List (Nat × AV)} (hz : tzero P t = some z) (ht : tview P t = some .struct) : abuild P t parts = (afill (flP P t) z parts).bind fun xs => some (.agg xs) := by
  simp only [abuild, hz, ht, ob_some]; rfl
def bslE (sz len : Nat) (xs : List AV) : Option AV := some (if xs.all AV.isC = true then .fresh sz len xs else .freshO sz len xs)
theorem bslE_at {sz len : Nat} {xs : List AV} : bslE sz len xs = some (if xs.all AV.isC = true then .fresh sz len xs else .freshO sz len xs) := rfl
theorem bsl_at {t el : TypeId} {sz by_ len : Nat} {z : List AV} {parts : List (Nat × AV)} (ht : tview P t = some (.slice el sz by_)) (hz : tzero P el = some z) (h1 : len * sz ≤ 16777216) (h2 : z.length = sz) (h3 : 0 < sz) :
    abuildSlice P t len parts = (afill (elP sz) (List.replicate len z).flatten parts).bind (bslE sz len) := by
  simp only [abuildSlice, hz, ht, ob_some]
  rw [if_pos ⟨by omega, h2, h3⟩]
  rfl
theorem isC_v {k x} : AV.isC (.v (.int k x)) = true := rfl
theorem isC_b {x} : AV.isC (.v (.bool x)) = true := rfl
theorem isC_s {x} : AV.isC (.v (.string x)) = true := rfl
theorem isC_n {a b c} : AV.isC (.v (.slice a b c)) = false := rfl
theorem isC_arr {m xs} : AV.isC (.arr m xs) = true := rfl
theorem isC_ref {o xs} : AV.isC (.ref xs o) = true := rfl
theorem isC_own {id o m x} : AV.isC (.own id o m x) = false := rfl
theorem isC_ptr {id o x} : AV.isC (.ptr id o x) = false := rfl
theorem isC_fn {k a b} : AV.isC (.fn k a b) = false := rfl
theorem one_int {k x} : AV.one (.v (.int k x)) = true := rfl
theorem one_bool {x} : AV.one (.v (.bool x)) = true := rfl
theorem one_str {x} : AV.one (.v (.string x)) = true := rfl
theorem one_sl {a m x} : AV.one (.v (.slice a m x)) = true := rfl
theorem one_arr {m xs} : AV.one (.arr m xs) = true := rfl
theorem one_own {id o m x} : AV.one (.own id o m x) = true := rfl
theorem one_ptr {id o x} : AV.one (.ptr id o x) = true := rfl
theorem one_ref {o xs} : AV.one (.ref xs o) = true := rfl
theorem one_fn {k a b} : AV.one (.fn k a b) = true := rfl
theorem cells_int {k x} : AV.cells (.v (.int k x)) = [.v (.int k x)] := rfl
theorem cells_bool {x} : AV.cells (.v (.bool x)) = [.v (.bool x)] := rfl
theorem cells_str {x} : AV.cells (.v (.string x)) = [.v (.string x)] := rfl
theorem cells_sl {a m x} : AV.cells (.v (.slice a m x)) = [.v (.slice a m x)] := rfl
theorem opnd_str {e : Nat → Option AV} {x} : opnd e (.const (.string x)) = some (.v (.string x)) := rfl
def nckB (y : AV) (ext : Nat) (b : Blk) : Option AV := if b.ext == ext then some y else none
def nck (g : Id → Option Blk) (y : AV) : Option AV := match y with
    | .ptr id _ ext => (g id).bind (nckB y ext)
    | .ref _ _ => some y
    | .fn _ _ _ => some y
    | _ => none
theorem aop_nck {d : Option Tmp} {x : Operand} : aop P C cp ci lvl e h d (.nilCheck x) = qo lvl (d.getD 0) h ((opnd e.get x).bind (nck h.get)) := by
  rw [aop_nilCheck]
  congr 2
  funext y
  cases y <;> try rfl
  rename_i id off ext
  have : ∀ b, h.get id = b → (if live h.get id ext = true then some (AV.ptr id off ext) else none) = b.bind (nckB (.ptr id off ext) ext) := fun b hb => by
    unfold live
    rw [hb]
    cases b <;> rfl
  exact this _ rfl
theorem nck_ptr {id : Id} {off ext : Nat} : nck g (.ptr id off ext) = (g id).bind (nckB (.ptr id off ext) ext) := rfl
theorem nck_refv {xs off} : nck g (.ref xs off) = some (.ref xs off) := rfl
theorem nckB_sl {y : AV} {cl rw sz ext cells} : nckB y ext (.sl cl rw sz ext cells) = some y := by simp [nckB, Blk.ext]
theorem nckB_bx {y : AV} {rw cells} : nckB y 0 (.bx rw cells) = some y := by simp [nckB, Blk.ext]
theorem abin_bool {op : BinOp} {t : TypeId} {a b : Bool} (ht : tview P t = some .bool) : abin P op t (.v (.bool a)) (.v (.bool b)) = abinB op a b := by simp [abin, ht]
def cvX (P : Program) (src dst : TypeId) (a : AV) : Option AV := (tview P src).bind fun _ => (tview P dst).bind fun tv => (asI a).bind fun n => match tv with
      | .int k => some (.v (.int k (k.wrap n)))
      | _ => none
theorem aop_conv {d : Option Tmp} {src dst : TypeId} {x : Operand} : aop P C cp ci lvl e h d (.convert src dst x) = qo lvl (d.getD 0) h ((opnd e.get x).bind (cvX P src dst)) := aop_any (fun _ _ _ h => by cases h) rfl
def fdX (P : Program) (t i : Nat) (a : AV) : Option AV := (fieldOf P t i).bind fun r => match a with
    | .agg xs => part P xs r.2 r.1
    | _ => none
theorem aop_fd {d : Option Tmp} {t i : Nat} {x : Operand} : aop P C cp ci lvl e h d (.field t x i) = qo lvl (d.getD 0) h ((opnd e.get x).bind (fdX P t i)) := aop_field
end
section
variable {P : Program} {C : Cfg} {cp : CallP} {ci : CallI} {lvl n : Nat} {e : Env} {h : Heap} {all : Heap} {g : Id → Option Blk} {prot : List Id}
theorem es_nil {k : Nat} {y : AV} : Env.set [] k y = [(k, y)] := rfl
theorem es_cons {j k : Nat} {x y : AV} : Env.set ((j, x) :: e) k y = if j = k then (j, y) :: e else if k < j then (k, y) :: (j, x) :: e else (j, x) :: Env.set e k y := rfl
theorem ed_nil {ds : List Nat} : Env.drop ds [] = [] := rfl
theorem ed_cons {ds : List Nat} {j : Nat} {x : AV} : Env.drop ds ((j, x) :: e) = if memN ds j = true then Env.drop ds e else (j, x) :: Env.drop ds e := rfl
theorem mn_nil {k : Nat} : memN [] k = false := rfl
theorem mn_cons {l : List Nat} {j k : Nat} : memN (j :: l) k = if j = k then true else memN l k := rfl
theorem hs_nil {k : Id} {y : Blk} : Heap.set [] k y = [(k, y)] := rfl
theorem hs_cons {j k : Id} {x y : Blk} : Heap.set ((j, x) :: h) k y = if j = k then (j, y) :: h else (j, x) :: Heap.set h k y := rfl
def hnB (h : Heap) (k : Id) (y : Blk) : Option Blk → Option Heap
  | none => some (Heap.set h k y)
  | some _ => none
theorem hn_at {k : Id} {y : Blk} : Heap.new h k y = hnB h k y (h.get k) := by
  unfold Heap.new
  cases h.get k <;> rfl
theorem hnB_none {k : Id} {y : Blk} : hnB h k y none = some (Heap.set h k y) := rfl
theorem sw_at : sweep prot e h = sweep1 prot e (sweep1 prot e h) := rfl
theorem sw1_at : sweep1 prot e h = sweepFrom prot e h h := rfl
theorem sw_nil : sweepFrom prot e all [] = [] := rfl
theorem sw_cons {id : Id} {b : Blk} : sweepFrom prot e all ((id, b) :: h) = if (memI prot id || (namedE id e || namedH id all)) = true then (id, b) :: sweepFrom prot e all h else sweepFrom prot e all h := rfl
theorem mi_nil {k : Id} : memI [] k = false := rfl
theorem mi_cons {l : List Id} {j k : Id} : memI (j :: l) k = if j = k then true else memI l k := rfl
theorem ne_nil {id : Id} : namedE id [] = false := rfl
theorem ne_cons {id : Id} {j : Nat} {x : AV} : namedE id ((j, x) :: e) = (names id 4 x || namedE id e) := rfl
theorem nh_nil {id : Id} : namedH id [] = false := rfl
theorem nh_cons {id j : Id} {b : Blk} : namedH id ((j, b) :: h) = (namedB id b || namedH id h) := rfl
theorem nb_sl {id : Id} {r s x c} : namedB id (.sl true r s x c) = false := rfl
theorem nb_open {id : Id} {r s x c} : namedB id (.sl false r s x c) = c.any (names id 4) := rfl
theorem nb_bx {id : Id} {r c} : namedB id (.bx r c) = c.any (names id 4) := rfl
theorem nm_v {id : Id} {d x} : names id d (.v x) = false := by cases d <;> rfl
theorem nm_arr {id : Id} {d m xs} : names id d (.arr m xs) = false := by cases d <;> rfl
theorem nm_ref {id : Id} {d o xs} : names id d (.ref xs o) = false := by cases d <;> rfl
theorem nm_own {id j : Id} {d o m x} : names id d (.own j o m x) = (j == id) := by cases d <;> rfl
theorem nm_ptr {id j : Id} {d o x} : names id d (.ptr j o x) = (j == id) := by cases d <;> rfl
theorem nm_fn0 {id : Id} {d f} : names id d (.fn f [] []) = false := by
  cases d with
  | zero => rfl
  | succ d => simp [names]
theorem nm_agg {id : Id} {d xs} : names id (d + 1) (.agg xs) = xs.any (names id d) := rfl
theorem nm_fn {id : Id} {d f a b} : names id (d + 1) (.fn f a b) = (a.any (names id d) || b.any (names id d)) := by
  cases a <;> cases b <;> simp [names]
theorem any_nil' {p : AV → Bool} : ([] : List AV).any p = false := rfl
theorem any_cons' {p : AV → Bool} {x : AV} {xs : List AV} : (x :: xs).any p = (p x || xs.any p) := rfl
theorem all_nil' {p : AV → Bool} : ([] : List AV).all p = true := rfl
theorem all_cons' {p : AV → Bool} {x : AV} {xs : List AV} : (x :: xs).all p = (p x && xs.all p) := rfl
theorem ie_nil {k : Nat} : initE k [] = [] := rfl
theorem ie_cons {k : Nat} {x : AV} {xs : List AV} : initE k (x :: xs) = (k, x) :: initE (k + 1) xs := rfl
end
def RR0 := And.intro @go_skip <| And.intro @go_label <| And.intro @go_ret <| And.intro @go_exit <| And.intro @go_scope <| And.intro @go_seqr <| And.intro @ret_seqr <| And.intro @ret_seqr_ret <| And.intro @ret_seqr_exit <| And.intro @go_block <| And.intro @go_loop <| And.intro @go_cond <| And.intro @gcond_t <| And.intro @gcond_f <| And.intro @go_region <| And.intro @go_draw <| And.intro @ret_nil <| And.intro @ret_seq_ret <| And.intro @ret_seq_exit <| And.intro @ret_block <| And.intro @ret_block_ret <| And.intro @ret_block_exit <| And.intro @ret_loop <| And.intro @ret_loop_ret <| And.intro @ret_loop_exit <| And.intro @ret_bar_ret <| And.intro @ret_bar_exit <| And.intro @gops_nil <| And.intro @gops_free <| And.intro @gnext_at <| And.intro @gops_guard <| And.intro @gwant_t <| And.intro @gwant_f <| And.intro @gopsQ_zero <| And.intro @gopsQ_nil <| And.intro @gopsQ_free <| And.intro @gnextQ_at <| And.intro @gopsQ_guard <| And.intro @gwantQ_t <| And.intro @gwantQ_f <| And.intro @gpost_nil <| @gpost_drop
def RR1 := And.intro @gpost_open <| And.intro @gopen_at <| And.intro @gpost_seal <| And.intro @gpost_sweep <| And.intro @ret_sw <| And.intro @ret_sw_ret <| And.intro @ret_sw_exit <| And.intro @fin_ret <| And.intro @fin_normal <| And.intro @wanted_at <| And.intro @wtD_at <| And.intro @wtd_b <| And.intro @wtd_u <| And.intro @putE_some <| And.intro @putE_none <| And.intro @optD_some <| And.intro @optD_none <| And.intro @b_nt <| And.intro @b_nf <| And.intro @bq_tt <| And.intro @bq_tf <| And.intro @bq_ft <| And.intro @bq_ff <| And.intro @ob_some <| And.intro @ob_none <| And.intro @aop_pick <| And.intro @aop_move <| And.intro @aop_assign <| And.intro @aop_bin <| And.intro @aop_un <| And.intro @aop_load <| And.intro @aop_indexAddr <| And.intro @aop_fieldAddr <| And.intro @aop_len <| And.intro @aop_callv <| And.intro @fnX_no <| And.intro @aop_call0 <| And.intro @aop_ext <| And.intro @exT_at <| And.intro @aop_mk <| And.intro @aop_st <| And.intro @aop_app <| And.intro @aop_nck <| And.intro @aop_conv <| And.intro @aop_fd <| And.intro @aop_box <| And.intro @aop_build <| And.intro @aop_buildSlice <| @aop_slice
def RR2 := And.intro @optS_none <| And.intro @optS_some <| And.intro @callX_nil <| And.intro @callX_fl <| And.intro @acall_eq <| And.intro @opnd_tmp <| And.intro @opnd_int <| And.intro @opnd_bool <| And.intro @opnd_nil <| And.intro @opnd_str <| And.intro @opnd_func <| And.intro @optL_nil <| And.intro @optL_cons <| And.intro @qo_v <| And.intro @qo_arr <| And.intro @qo_own <| And.intro @qo_ptr <| And.intro @qo_ref <| And.intro @qo_fn <| And.intro @qo_fresh <| And.intro @qo_freshO <| And.intro @qo_agg <| And.intro @qo_tuple <| And.intro @qo_newbx <| And.intro @imp_v <| And.intro @imp_arr <| And.intro @imp_own <| And.intro @imp_ptr <| And.intro @imp_ref <| And.intro @imp_fn <| And.intro @imp_fresh <| And.intro @imp_freshO <| And.intro @imp_agg <| And.intro @imp_tuple <| And.intro @mapSt_nil <| And.intro @mapSt_cons <| And.intro @eg_nil <| And.intro @eg_cons <| And.intro @hg_nil <| @hg_cons
def RR3 := And.intro @abin_int <| And.intro @alen_arr <| And.intro @alen_own <| And.intro @alen_nil <| And.intro @aint <| And.intro @aload_ref <| And.intro @aload_ptr <| And.intro @ldB_sl <| And.intro @ldB_bx <| And.intro @ident_eq <| And.intro @fiB_sl <| And.intro @fiB_bx <| And.intro @nck_ptr <| And.intro @nck_refv <| And.intro @nckB_sl <| And.intro @nckB_bx <| And.intro @fz_nil <| And.intro @fz_cons <| And.intro @fzB_at <| And.intro @frz_sl <| And.intro @frz_bx <| And.intro @ev_int <| And.intro @ev_bool <| And.intro @ev_str <| And.intro @ev_nil <| And.intro @ev_arr <| And.intro @ev_ref <| And.intro @ev_fn <| And.intro @ev_own <| And.intro @exO_at <| And.intro @exO_open <| And.intro @ev_ptr <| And.intro @exP_at <| And.intro @ev_agg <| And.intro @ev_clo <| And.intro @cut_at <| And.intro @bow_v <| And.intro @bow_arr <| And.intro @bow_ref <| @bow_fn
def RR4 := And.intro @bow_own <| And.intro @bow_own0 <| And.intro @boB_at <| And.intro @boB_open <| And.intro @bow_ptr <| And.intro @boP_at <| And.intro @bow_agg <| And.intro @bow_clo <| And.intro @al_v <| And.intro @al_arr <| And.intro @al_agg <| And.intro @al_tuple <| And.intro @al_fresh <| And.intro @al_ik <| And.intro @al_bk <| And.intro @bi_lss <| And.intro @bi_leq <| And.intro @bi_gtr <| And.intro @bi_geq <| And.intro @bi_eql <| And.intro @bi_neq <| And.intro @bw_add <| And.intro @bw_sub <| And.intro @bw_mul <| And.intro @bw_quo <| And.intro @bw_rem <| And.intro @bw_and <| And.intro @bw_or <| And.intro @bw_xor <| And.intro @bw_andn <| And.intro @bw_shl <| And.intro @bw_shr <| And.intro @au_not <| And.intro @au_neg <| And.intro @ab_eql <| And.intro @ab_neq <| And.intro @aq_move <| And.intro @aq_assign <| And.intro @aq_bin <| @aq_un
def RR5 := And.intro @aq_load <| And.intro @aq_indexAddr <| And.intro @aq_fieldAddr <| And.intro @aq_len <| And.intro @aq_pick <| And.intro @aq_call0 <| And.intro @id_beq <| And.intro @lm_setik <| And.intro @lm_setbk <| And.intro @lm_setavl <| And.intro @iaB_at <| And.intro @stI_sl <| And.intro @stI_bx <| And.intro @stO_bx <| And.intro @stG_bx <| And.intro @putCells_nil <| And.intro @putCells_cons <| And.intro @boxX_at <| And.intro @cells_agg <| And.intro @cells_arr <| And.intro @cells_own <| And.intro @cells_ref <| And.intro @cells_ptr <| And.intro @cells_fn <| And.intro @cells_int <| And.intro @cells_bool <| And.intro @cells_str <| And.intro @cells_sl <| And.intro @appN_own <| And.intro @appJ_cl <| And.intro @appN_nil <| And.intro @news_arr <| And.intro @news_nil <| And.intro @news_own <| And.intro @newB_at <| And.intro @inner_own <| And.intro @innerB_at <| And.intro @inner_arr <| And.intro @inner_nil <| @slA_lm
def RR6 := And.intro @slim_none <| And.intro @slim_int <| And.intro @slO_at <| And.intro @afl_nil <| And.intro @afl_cons <| And.intro @aflB_at <| And.intro @elP_at <| And.intro @bslE_at <| And.intro @isC_v <| And.intro @isC_b <| And.intro @isC_s <| And.intro @isC_n <| And.intro @isC_arr <| And.intro @isC_ref <| And.intro @isC_own <| And.intro @isC_ptr <| And.intro @isC_fn <| And.intro @one_int <| And.intro @one_bool <| And.intro @one_str <| And.intro @one_sl <| And.intro @one_arr <| And.intro @one_own <| And.intro @one_ptr <| And.intro @one_ref <| And.intro @one_fn <| And.intro @one_ik <| And.intro @one_bk <| And.intro @one_avl <| And.intro @one_avf <| And.intro @dropO_tmp <| And.intro @dropO_const <| And.intro @es_nil <| And.intro @es_cons <| And.intro @ed_nil <| And.intro @ed_cons <| And.intro @mn_nil <| And.intro @mn_cons <| And.intro @hs_nil <| And.intro @hs_cons <| And.intro @hn_at <| And.intro @hnB_none <| And.intro @freB_none <| And.intro @sw1_at <| @sw_at
def RR7 := And.intro @sw_nil <| And.intro @sw_cons <| And.intro @mi_nil <| And.intro @mi_cons <| And.intro @ne_nil <| And.intro @ne_cons <| And.intro @nh_nil <| And.intro @nh_cons <| And.intro @nb_sl <| And.intro @nb_open <| And.intro @nb_bx <| And.intro @nm_v <| And.intro @nm_arr <| And.intro @nm_ref <| And.intro @nm_own <| And.intro @nm_ptr <| And.intro @nm_fn0 <| And.intro @nm_agg <| And.intro @nm_fn <| And.intro @any_nil' <| And.intro @any_cons' <| And.intro @all_nil' <| And.intro @all_cons' <| And.intro @ie_nil <| @ie_cons
theorem eq_true_le {n : Nat} : (n ≤ n) = True := eq_true (Nat.le_refl n)
def RR8 := And.intro @List.getElem?_cons_zero.{0} <| And.intro @List.getElem?_cons_succ.{0} <| And.intro @List.set_cons_zero.{0} <| And.intro @List.set_cons_succ.{0} <| And.intro @List.drop_zero.{0} <| And.intro @List.drop_succ_cons.{0} <| And.intro @List.take_zero.{0} <| And.intro @List.take_succ_cons.{0} <| And.intro @List.length_cons.{0} <| And.intro @List.length_nil.{0} <| And.intro @List.map_cons.{0,0} <| And.intro @List.map_nil.{0,0} <| And.intro @List.flatten_cons.{0} <| And.intro @List.flatten_nil.{0} <| And.intro @List.nil_append.{0} <| And.intro @List.append_nil.{0} <| And.intro @List.cons_append.{0} <| And.intro @List.isEmpty_nil.{0} <| And.intro @List.isEmpty_cons.{0} <| And.intro @List.replicate_succ.{0} <| @List.replicate_zero.{0}
def RR9 := And.intro @and_true <| And.intro @true_and <| And.intro @and_false <| And.intro @false_and <| And.intro @Bool.or_false <| And.intro @Bool.false_or <| And.intro @Bool.or_true <| And.intro @Bool.true_or <| And.intro @Bool.and_true <| And.intro @Bool.true_and <| And.intro @Bool.and_false <| And.intro @Bool.false_and <| And.intro @Bool.and_self <| And.intro @Bool.false_eq_true <| And.intro @Nat.mul_one <| And.intro @Nat.zero_add <| And.intro @Nat.add_zero <| And.intro @Nat.zero_mul <| And.intro @Int.toNat_natCast <| And.intro @decide_true <| And.intro @decide_false <| @eq_true_le
def RR := And.intro RR0 <| And.intro RR1 <| And.intro RR2 <| And.intro RR3 <| And.intro RR4 <| And.intro RR5 <| And.intro RR6 <| And.intro RR7 <| And.intro RR8 <| RR9
end Go.Av
