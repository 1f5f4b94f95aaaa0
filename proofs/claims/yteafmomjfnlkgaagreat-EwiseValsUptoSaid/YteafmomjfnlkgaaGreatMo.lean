/- Results; contracts as tables; what closures hold. Conditions: those that each names. -/
import Derived.Test.YteafmomjfnlkgaaGreatMp
set_option linter.unusedVariables false
set_option linter.defProp false
namespace Go.Av
section
variable {P : Program} {C : Cfg} {cp : CallP} {ci : CallI} {lvl n : Nat} {e : Env} {h : Heap} {g : Id → Option Blk} {us : List Id} {α : Type}
def finB (P : Program) (ts : List TypeId) (h : Heap) (rs : List AV) : Option AV :=
  (mapSt (exportR (freezeAll h ((rs.map (toFreeze h.get 4)).flatten)).get 4) rs []).bind fun r => some (one (typedL P ts r.1))
theorem finX_at {rs ts} : finX P ⟨.skip, rs, ts⟩ e h = (optL (resultV P e h) rs).bind (finB P ts h) := rfl
theorem finB_at {ts rs} : finB P ts h rs = (mapSt (exportR (freezeAll h ((rs.map (toFreeze h.get 4)).flatten)).get 4) rs []).bind fun r => some (one (typedL P ts r.1)) := rfl
theorem rv_tmp {t} : resultV P e h (.tmp t) = e.get t := rfl
theorem rv_cell {t ty} : resultV P e h (.cell t ty) = (e.get t).bind fun p => aload P h.get ty p := rfl
theorem tf_v {d x} : toFreeze g d (.v x) = [] := by cases d <;> rfl
theorem tf_arr {d m xs} : toFreeze g d (.arr m xs) = [] := by cases d <;> rfl
theorem tf_ref {d o xs} : toFreeze g d (.ref xs o) = [] := by cases d <;> rfl
theorem tf_fn {d k} : toFreeze g d (.fn k [] []) = [] := by cases d <;> rfl
def tfB (g : Id → Option Blk) (d : Nat) (id : Id) (off n ext : Nat) : Option Blk → List Id
  | some (.sl false _ _ _ _) => borrowed g (d + 1) (.own id off n ext)
  | _ => []
theorem tf_own {d : Nat} {id : Id} {off m ext : Nat} : toFreeze g (d + 1) (.own id off m ext) = tfB g d id off m ext (g id) := by
  have : ∀ b, g id = b → toFreeze g (d + 1) (.own id off m ext) = tfB g d id off m ext b := fun b hb => by
    unfold toFreeze
    rw [hb]
    rfl
  exact this _ rfl
theorem tfB_at {d id off m ext r s x c} : tfB g d id off m ext (some (.sl true r s x c)) = [] := rfl
theorem tf_agg {d xs} : toFreeze g (d + 1) (.agg xs) = (xs.map (toFreeze g d)).flatten := rfl
theorem tf_tuple {d xs} : toFreeze g (d + 1) (.tuple xs) = (xs.map (toFreeze g d)).flatten := rfl
theorem er_v {d x} : exportR g d (.v x) us = some (.v x, us) := by cases d <;> rfl
theorem er_arr {d m xs} : exportR g d (.arr m xs) us = some (.arr m xs, us) := by cases d <;> rfl
theorem er_ref {d o xs} : exportR g d (.ref xs o) us = some (.ref xs o, us) := by cases d <;> rfl
def erB (g : Id → Option Blk) (d : Nat) (id : Id) (off n ext : Nat) (us : List Id) : Blk → Option (AV × List Id)
  | .sl true true sz e cells => if e = ext ∧ off = 0 ∧ n ≤ e ∧ us.contains id = false then some (.fresh sz n (cut cells off n sz e), id :: us) else none
  | .sl true false sz e cells => if e = ext then some (.arr n (cut cells off n sz e), us) else none
  | .sl false false sz e cells => match d with
    | 0 => none
    | d + 1 => if e = ext ∧ ((cells.map (borrowed g d)).flatten).all (frozenId g) = true then
            (cells.mapM (exportV g d)).bind fun cs => some (.arr n (cut cs off n sz e), us) else none
  | _ => none
theorem er_own {d : Nat} {id : Id} {off m ext : Nat} : exportR g d (.own id off m ext) us = (g id).bind (erB g d id off m ext us) := by
  cases d with
  | zero =>
    simp only [exportR]
    cases g id with
    | none => rfl
    | some b => cases b with
      | bx => rfl
      | sl cl rw => cases cl <;> cases rw <;> rfl
  | succ d =>
    simp only [exportR]
    cases g id with
    | none => rfl
    | some b => cases b with
      | bx => rfl
      | sl cl rw => cases cl <;> cases rw <;> rfl
theorem erB_fresh {d id m ext sz cells} (h1 : m = ext) (hu : us.contains id = false) : erB g d id 0 m ext us (.sl true true sz ext cells) = some (.fresh sz m cells, id :: us) := by
  subst h1; simp only [erB, cut, hu]; simp
theorem erB_arr {d id off m ext sz cells} : erB g d id off m ext us (.sl true false sz ext cells) = some (.arr m (cut cells off m sz ext), us) := by simp [erB]
theorem er_agg {d xs} : exportR g (d + 1) (.agg xs) us = (mapSt (exportR g d) xs us).bind fun r => some (.agg r.1, r.2) := rfl
theorem er_tuple {d xs} : exportR g (d + 1) (.tuple xs) us = (mapSt (exportR g d) xs us).bind fun r => some (.tuple r.1, r.2) := rfl
theorem ct_nil {id : Id} : ([] : List Id).contains id = false := rfl
theorem ct_cons {id j : Id} : (j :: us).contains id = (id == j || us.contains id) := List.contains_cons
theorem tl_cons {t ts x xs} : typedL P (t :: ts) (x :: xs) = typed P t x :: typedL P ts xs := rfl
theorem tl_nil {ts} : typedL P ts [] = [] := by cases ts <;> rfl
theorem one_1 {x : AV} : Go.Av.one [x] = x := rfl
theorem one_0 : Go.Av.one [] = .tuple [] := rfl
theorem one_2 {x y : AV} {l} : Go.Av.one (x :: y :: l) = .tuple (x :: y :: l) := rfl
theorem ty_other {t x} (h1 : ∀ xs, x ≠ .agg xs) (h2 : x ≠ .v (.slice none 0 0)) : typed P t x = x := by
  unfold typed
  split
  · exact absurd rfl (h1 _)
  · split
    · rename_i y hy
      unfold nilNew at hy
      split at hy
      · rename_i hq _; injection hq with hq; exact absurd hq h2
      · rename_i hq _; injection hq with hq hq2; subst hq2; subst hq
        simp at hy; rcases hy with hy | hy <;> first | exact hy.symm | simp_all
      · rename_i hq _; injection hy with hy; exact hy.symm
      · cases hy
    · rfl
theorem ty_int {t k z} : typed P t (.v (.int k z)) = .v (.int k z) := ty_other (fun _ h => by cases h) (fun h => by cases h)
theorem ty_bool {t z} : typed P t (.v (.bool z)) = .v (.bool z) := ty_other (fun _ h => by cases h) (fun h => by cases h)
theorem ty_str {t z} : typed P t (.v (.string z)) = .v (.string z) := ty_other (fun _ h => by cases h) (fun h => by cases h)
theorem ty_arr {t m xs} : typed P t (.arr m xs) = .arr m xs := ty_other (fun _ h => by cases h) (fun h => by cases h)
theorem ty_fresh {t m s xs} : typed P t (.fresh s m xs) = .fresh s m xs := ty_other (fun _ h => by cases h) (fun h => by cases h)
theorem ty_nil {t s} (h : sliceCells P 4 t = [s + 1]) : typed P t (.v (.slice none 0 0)) = .fresh s 0 [] := by simp [typed, h, nilNew]
theorem ty_agg {t xs ss} (h : sliceCells P 4 t = ss) : typed P t (.agg xs) = .agg (nilNew xs ss) := by simp [typed, h]
theorem nn_nil {ss} : nilNew [] ss = [] := by cases ss <;> rfl
theorem nn_end {xs} : nilNew xs [] = xs := by
  cases xs with
  | nil => rfl
  | cons x xs =>
    unfold nilNew
    split
    · rename_i h1 h2; cases h2
    · rename_i h1 h2; cases h2
    · rfl
    · rename_i h1 h2 h3; exact absurd rfl h3
theorem nn_int {k z s xs ss} : nilNew (.v (.int k z) :: xs) (s :: ss) = .v (.int k z) :: nilNew xs ss := by simp [nilNew]
theorem nn_bool {z s xs ss} : nilNew (.v (.bool z) :: xs) (s :: ss) = .v (.bool z) :: nilNew xs ss := by simp [nilNew]
theorem nn_str {z s xs ss} : nilNew (.v (.string z) :: xs) (s :: ss) = .v (.string z) :: nilNew xs ss := by simp [nilNew]
theorem nn_arr {m ys s xs ss} : nilNew (.arr m ys :: xs) (s :: ss) = .arr m ys :: nilNew xs ss := by simp [nilNew]
theorem nn_fresh {m w ys s xs ss} : nilNew (.fresh w m ys :: xs) (s :: ss) = .fresh w m ys :: nilNew xs ss := by simp [nilNew]
theorem nn_sl {s xs ss} : nilNew (.v (.slice none 0 0) :: xs) ((s + 1) :: ss) = .fresh s 0 [] :: nilNew xs ss := rfl
def Capt (caps : List AV) : Prop := (∀ g : Id → Option Blk, optL (exportV g 4) caps = some caps ∧ optL (exportV g 3) caps = some caps ∧ (caps.map (borrowed g 4)).flatten = [] ∧ (caps.map (borrowed g 3)).flatten = []) ∧ ∀ id, caps.any (names id 3) = false
theorem Capt.nil : Capt [] := ⟨fun _ => ⟨rfl, rfl, rfl, rfl⟩, fun _ => rfl⟩
theorem Capt.ref {xs : List AV} {o : Nat} {l : List AV} (hl : Capt l) : Capt (.ref xs o :: l) :=
  ⟨fun g => ⟨by simp only [optL_cons, ev_ref, ob_some, (hl.1 g).1], by simp only [optL_cons, ev_ref, ob_some, (hl.1 g).2.1], by simp [bow_ref, (hl.1 g).2.2.1], by simp [bow_ref, (hl.1 g).2.2.2]⟩, fun id => by simp [nm_ref, hl.2 id]⟩
section
variable {caps : List AV} (hc : Capt caps)
include hc
theorem Capt.e4 : optL (exportV g 4) caps = some caps := (hc.1 g).1
theorem Capt.e3 : optL (exportV g 3) caps = some caps := (hc.1 g).2.1
theorem Capt.b4 : (caps.map (borrowed g 4)).flatten = [] := (hc.1 g).2.2.1
theorem Capt.b3 : (caps.map (borrowed g 3)).flatten = [] := (hc.1 g).2.2.2
end
def Inj {α β : Type} (f : α → β) : Prop := ∀ a b, f a = f b → a = b
open Classical in
noncomputable def mkC {α β : Type} (ea : α → List AV) (F : α → Option β) (eb : β → AV) : List AV → Option AV := fun args =>
  if h : ∃ a, ea a = args then (F (Classical.choose h)).map eb else none
theorem mkC_at {α β : Type} {ea : α → List AV} {F : α → Option β} {eb : β → AV} (hi : Inj ea) {a : α} {b : β} (hb : F a = some b) : mkC ea F eb (ea a) = some (eb b) := by
  unfold mkC
  have hx : ∃ x, ea x = ea a := ⟨a, rfl⟩
  rw [dif_pos hx]
  have := hi _ _ (Classical.choose_spec hx)
  rw [this, hb]
  rfl
theorem mkC_some {α β : Type} {ea : α → List AV} {F : α → Option β} {eb : β → AV} {args : List AV} {r : AV} (h : mkC ea F eb args = some r) : ∃ a b, ea a = args ∧ F a = some b ∧ r = eb b := by
  unfold mkC at h
  split at h
  · rename_i hx
    cases hF : F (Classical.choose hx) with
    | none => rw [hF] at h; cases h
    | some b =>
      rw [hF] at h
      injection h with h
      exact ⟨_, b, Classical.choose_spec hx, hF, h.symm⟩
  · cases h
noncomputable def orE (f : FuncId) (c : List AV → Option AV) (cp : CallP) : CallP := fun g args => if g = f then (match c args with | some r => some r | none => cp g args) else cp g args
theorem orE_ok {f : FuncId} {c : List AV → Option AV} (hcp : CpOK P cp) (hc : ∀ args r, c args = some r → PureOK P f args r) : CpOK P (orE f c cp) := fun g args r h => by
  unfold orE at h
  split at h
  · rename_i hg; subst hg
    split at h
    · rename_i hh; injection h with h; subst h; exact hc args _ hh
    · exact hcp g args r h
  · exact hcp g args r h
theorem orE_hit {f : FuncId} {c : List AV → Option AV} {args r} (h : c args = some r) : orE f c cp f args = some r := by simp [orE, h]
theorem orE_miss {f g : FuncId} {c : List AV → Option AV} {args r} (hn : ¬ g = f) (h : cp g args = some r) : orE f c cp g args = some r := by simp [orE, hn, h]
theorem mkC_ok {α β : Type} {f : FuncId} {ea : α → List AV} {F : α → Option β} {eb : β → AV} (h : ∀ a b, F a = some b → PureOK P f (ea a) (eb b)) : ∀ args r, mkC ea F eb args = some r → PureOK P f args r := fun args r hr => by
  obtain ⟨a, b, rfl, hb, rfl⟩ := mkC_some hr
  exact h a b hb
theorem inj_ik {k : IntKind} : Inj (ik k) := fun a b h => by injection h with h; injection h
theorem inj_bk : Inj bk := fun a b h => by injection h with h; injection h
theorem inj_map {α β : Type} {f : α → β} (hf : Inj f) : ∀ a b : List α, a.map f = b.map f → a = b
  | [], [], _ => rfl
  | [], _ :: _, h => by cases h
  | _ :: _, [], h => by cases h
  | x :: a, y :: b, h => by
    rw [List.map_cons, List.map_cons] at h
    injection h with h1 h2
    rw [hf _ _ h1, inj_map hf a b h2]
theorem inj_lm {f : α → AV} (hf : Inj f) : Inj (lm f) := fun a b h => inj_map hf a b h
theorem inj_fm {c : α → List AV} {w : Nat} (hw : ∀ x, (c x).length = w) (h0 : 0 < w) (hc : Inj c) : Inj (fm c) := fun a => by
  induction a with
  | nil =>
    intro b h
    cases b with
    | nil => rfl
    | cons y b =>
      have := congrArg List.length h
      rw [fm_length hw, fm_length hw, List.length_nil, List.length_cons, Nat.succ_mul] at this
      omega
  | cons x a ih =>
    intro b h
    cases b with
    | nil =>
      have := congrArg List.length h
      rw [fm_length hw, fm_length hw, List.length_nil, List.length_cons, Nat.succ_mul] at this
      omega
    | cons y b =>
      rw [fm_cons, fm_cons] at h
      obtain ⟨h1, h2⟩ := List.append_inj h (by rw [hw, hw])
      rw [hc _ _ h1, ih _ h2]
theorem inj_avl {f : α → AV} (hf : Inj f) : Inj (avl f) := fun a b h => by injection h with _ h; exact inj_lm hf a b h
theorem inj_avf {c : α → List AV} (hf : Inj (fm c)) : Inj (avf c) := fun a b h => by injection h with _ h; exact hf a b h
theorem lm_ik_inj {k : IntKind} {a b : List Int} : lm (ik k) a = lm (ik k) b ↔ a = b := ⟨inj_lm inj_ik a b, fun h => by rw [h]⟩
theorem lm_bk_inj {a b : List Bool} : lm bk a = lm bk b ↔ a = b := ⟨inj_lm inj_bk a b, fun h => by rw [h]⟩
theorem lm_avl_inj {k : IntKind} {a b : List (List Int)} : lm (avl (ik k)) a = lm (avl (ik k)) b ↔ a = b := ⟨inj_lm (inj_avl inj_ik) a b, fun h => by rw [h]⟩
end
theorem lm_inj_iff {α : Type} {f : α → AV} (hf : Inj f) {a b : List α} : lm f a = lm f b ↔ a = b := ⟨inj_lm hf a b, fun h => by rw [h]⟩
theorem fm_inj_iff {α : Type} {c : α → List AV} (hf : Inj (fm c)) {a b : List α} : fm c a = fm c b ↔ a = b := ⟨hf a b, fun h => by rw [h]⟩
theorem c_inj_iff {α : Type} {c : α → List AV} (hf : Inj c) {a b : α} : c a = c b ↔ a = b := ⟨hf a b, fun h => by rw [h]⟩
def INJ := And.intro @List.cons.injEq.{0} <| And.intro @AV.arr.injEq <| And.intro @AV.v.injEq <| And.intro @Value.int.injEq <| And.intro @Value.bool.injEq <| And.intro @Value.string.injEq <| And.intro @AV.agg.injEq <| And.intro @AV.ref.injEq <| And.intro @AV.fn.injEq <|
  And.intro @lm_ik_inj <| And.intro @lm_bk_inj <| And.intro @lm_avl_inj <| And.intro @and_true <| @true_and
section
variable {P : Program}
end
section
variable {P : Program}
theorem abin_sl {op : BinOp} {t el : TypeId} {sz by_ : Nat} {a m c c' m'} (ht : tview P t = some (.slice el sz by_)) : abin P op t (.v (.slice a m c)) (.v (.slice none m' c')) = anil op a.isNone := by simp [abin, ht]
theorem abin_an {op : BinOp} {t el : TypeId} {sz by_ : Nat} {m c' m' xs} (ht : tview P t = some (.slice el sz by_)) (hm : m ≠ 0) : abin P op t (.arr m xs) (.v (.slice none m' c')) = anil op false := by simp [abin, ht, hm]
theorem anil_eq {b : Bool} : anil .eql b = some (.v (.bool b)) := rfl
theorem isN_none : (none : Option Addr).isNone = true := rfl
theorem isN_some {a : Addr} : (some a).isNone = false := rfl
theorem news_v0 {g : Id → Option Blk} {a c} : newsOf g (.v (.slice a 0 c)) = some (0, []) := rfl
theorem inner_v {g : Id → Option Blk} {x} : inner g (.v x) = [] := rfl
theorem PureOK.arr0 {f : FuncId} {r : AV} (h : ∀ a c, PureOK P f [.v (.slice a 0 c)] r) : PureOK P f [.arr 0 []] r := by
  refine ⟨(h none 0).1, fun w F us hF hl hx => ?_⟩
  match us, hl with
  | [u], _ =>
    have hv := hx 0 (.arr 0 []) u rfl rfl
    have : ∃ a c, u = .slice a 0 c := by
      cases hv with
      | @arr0 a c => exact ⟨a, c, rfl⟩
      | @arr _ _ b o c us => exact ⟨_, c, rfl⟩
    obtain ⟨a, c, rfl⟩ := this
    refine (h a c).2 w F [.slice a 0 c] hF rfl fun i x u hi hu => ?_
    cases i with
    | zero => simp at hi hu; subst hi hu; exact .v
    | succ i => simp at hi
end
section
variable {h : Heap} {lvl d by_ : Nat} {id : Id} {n m : Nat} {α : Type} {f : α → AV}
theorem appI_lm {l b : List α} (hm : m = b.length) (h3 : n + m ≤ 140737488355328) (h4 : (n + m) * by_ ≤ 140737488355328) (h5 : (lm f b).all AV.one = true) :
    appI lvl d 1 by_ h m (lm f b) id n n (.sl true true 1 n (lm f l)) = some (.own id 0 (n + m) (n + m), h.set id (.sl true true 1 (n + m) (lm f (l ++ b)))) := by
  rw [appI_at (by rw [lm_length, hm, Nat.mul_one]) h3 h4 h5, lm_app]
theorem appI_1 {l : List α} {x : α} (h3 : n + 1 ≤ 140737488355328) (h4 : (n + 1) * by_ ≤ 140737488355328) (h5 : AV.one (f x) = true) :
    appI lvl d 1 by_ h 1 [f x] id n n (.sl true true 1 n (lm f l)) = some (.own id 0 (n + 1) (n + 1), h.set id (.sl true true 1 (n + 1) (lm f (l ++ [x])))) := by
  rw [appI_at (by rfl) h3 h4 (by simp [h5]), lm_app]; rfl
theorem appI_1ik {l : List Int} {x : Int} {k : IntKind} (h3 : n + 1 ≤ 140737488355328) (h4 : (n + 1) * by_ ≤ 140737488355328) :
    appI lvl d 1 by_ h 1 [.v (.int k x)] id n n (.sl true true 1 n (lm (ik k) l)) = some (.own id 0 (n + 1) (n + 1), h.set id (.sl true true 1 (n + 1) (lm (ik k) (l ++ [x])))) := appI_1 (f := ik k) h3 h4 rfl
theorem appI_1bk {l : List Bool} {x : Bool} (h3 : n + 1 ≤ 140737488355328) (h4 : (n + 1) * by_ ≤ 140737488355328) :
    appI lvl d 1 by_ h 1 [.v (.bool x)] id n n (.sl true true 1 n (lm bk l)) = some (.own id 0 (n + 1) (n + 1), h.set id (.sl true true 1 (n + 1) (lm bk (l ++ [x])))) := appI_1 (f := bk) h3 h4 rfl
theorem appI_1avl {l : List (List α)} {x : List α} (h3 : n + 1 ≤ 140737488355328) (h4 : (n + 1) * by_ ≤ 140737488355328) :
    appI lvl d 1 by_ h 1 [.arr x.length (lm f x)] id n n (.sl true true 1 n (lm (avl f) l)) = some (.own id 0 (n + 1) (n + 1), h.set id (.sl true true 1 (n + 1) (lm (avl f) (l ++ [x])))) := appI_1 (f := avl f) h3 h4 rfl
theorem appI_fm {c : α → List AV} {w : Nat} (hw : ∀ x, (c x).length = w) {l b : List α} (hm : m = b.length) (h3 : n + m ≤ 140737488355328) (h4 : (n + m) * by_ ≤ 140737488355328) (h5 : (fm c b).all AV.one = true) :
    appI lvl d w by_ h m (fm c b) id n n (.sl true true w n (fm c l)) = some (.own id 0 (n + m) (n + m), h.set id (.sl true true w (n + m) (fm c (l ++ b)))) := by
  rw [appI_at (by rw [fm_length hw, hm]) h3 h4 h5, fm_app]
end
def imin (a b : Int) : Int := if b < a then b else a
def imax (a b : Int) : Int := if b > a then b else a
section
variable {P : Program} {C : Cfg} {cp : CallP} {ci : CallI} {lvl : Nat} {e : Env} {h : Heap}
theorem mx_at {ts k a b} : abuiltin P .max ts [.v (.int k a), .v (.int k b)] = some (.v (.int k (imax a b))) := by simp [abuiltin, imax]
theorem mn_at {ts k a b} : abuiltin P .min ts [.v (.int k a), .v (.int k b)] = some (.v (.int k (imin a b))) := by simp [abuiltin, imin]
theorem aop_min {d : Option Tmp} {x y : Operand} {ts} : aop P C cp ci lvl e h d (.call ⟨.builtin .min, ⟨[x, y]⟩, ts⟩) = qo lvl (d.getD 0) h ((opnd e.get x).bind fun a => (opnd e.get y).bind fun b => abuiltin P .min ts [a, b]) := by
  rw [aop_any (fun _ _ _ h => by cases h) rfl]
  simp only [aq, optL]
  cases opnd e.get x <;> cases opnd e.get y <;> rfl
end
theorem len_at {P : Program} {t el : TypeId} {sz by_ : Nat} {x : AV} (htv : tview P t = some (.slice el sz by_)) : abuiltin P .len #[t] [x] = (alen x).bind fun n => some (.v (.int .i64 n)) := by
  have h0 : (#[t])[0]? = some t := rfl
  simp only [abuiltin, h0, ob_some, htv]
theorem appI_e {lvl d esz by_ m : Nat} {h : Heap} {id : Id} {ys : List AV} (h2 : ys.length = m * esz) (h3 : m ≤ 140737488355328) (h4 : m * by_ ≤ 140737488355328) (h5 : ys.all AV.one = true) :
    appI lvl d esz by_ h m ys id 0 0 (.sl true true esz 0 []) = some (.own id 0 m m, h.set id (.sl true true esz m ys)) := by
  rw [appI_at h2 (by omega) (by rw [Nat.zero_add]; exact h4) h5, Nat.zero_add, List.nil_append]
theorem appI_cs {lvl d esz by_ m n : Nat} {h : Heap} {id : Id} {ys cs : List AV} {c : AV} (h2 : ys.length = m * esz) (h3 : n + m ≤ 140737488355328) (h4 : (n + m) * by_ ≤ 140737488355328) (h5 : ys.all AV.one = true) :
    appI lvl d esz by_ h m ys id n n (.sl true true esz n (c :: cs)) = some (.own id 0 (n + m) (n + m), h.set id (.sl true true esz (n + m) (c :: cs ++ ys))) := appI_at h2 h3 h4 h5
def RM := And.intro @appI_e <| And.intro @appI_cs <| And.intro @anil_eq <| And.intro @isN_none <| And.intro @isN_some <| And.intro @news_v0 <| And.intro @inner_v <| And.intro @appI_1ik <| And.intro @appI_1bk <| And.intro @appI_1avl <| And.intro @appI_lm <| And.intro @mx_at <| And.intro @mn_at <| And.intro @aop_min <| @aop_max
def RO := And.intro @one_ik <| And.intro @one_bk <| And.intro @one_avl <| And.intro @one_avf <| And.intro @all_cons' <| And.intro @all_nil' <| And.intro @one_int <| And.intro @one_bool <| And.intro @one_str <| And.intro @one_sl <| And.intro @one_arr <| And.intro @one_own <| And.intro @one_ptr <| And.intro @one_ref <| And.intro @one_fn <| And.intro @Bool.and_self <| @Bool.and_true
def cpL {α : Type} (l s : List α) : List α := (s ++ l.drop s.length).take l.length
theorem cpL_length {α : Type} {l s : List α} : (cpL l s).length = l.length := by simp [cpL]; omega
def LN := And.intro @cpL_length <| And.intro @List.length_set.{0} <| And.intro @List.length_replicate.{0} <| And.intro @List.length_append.{0} <| And.intro @List.length_cons.{0} <| And.intro @List.length_nil.{0} <| And.intro @lm_length <| And.intro @Nat.zero_add <| @Int.toNat_natCast
def FF := And.intro @finX_at <| And.intro @finB_at <| And.intro @rv_tmp <| And.intro @rv_cell <| And.intro @tf_v <| And.intro @tf_arr <| And.intro @tf_ref <| And.intro @tf_fn <| And.intro @tf_own <| And.intro @tfB_at <| And.intro @tf_agg <| And.intro @tf_tuple <|
  And.intro @er_v <| And.intro @er_arr <| And.intro @er_ref <| And.intro @er_own <| And.intro @erB_fresh <| And.intro @erB_arr <| And.intro @er_agg <| And.intro @er_tuple <| And.intro @ct_nil <| And.intro @ct_cons <| And.intro @tl_cons <| And.intro @tl_nil <|
  And.intro @one_1 <| And.intro @one_0 <| And.intro @one_2 <| And.intro @ty_int <| And.intro @ty_bool <| And.intro @ty_str <| And.intro @ty_arr <| And.intro @ty_fresh <| And.intro @nn_nil <| And.intro @nn_end <| And.intro @nn_int <| And.intro @nn_bool <|
  And.intro @nn_str <| And.intro @nn_arr <| And.intro @nn_fresh <| @nn_sl
theorem avl_eq {α : Type} {f : α → AV} {l : List α} : avl f l = .arr l.length (lm f l) := rfl
theorem avf_eq {α : Type} {c : α → List AV} {l : List α} : avf c l = .arr l.length (fm c l) := rfl
def NN := And.intro @avl_eq <| And.intro @avf_eq <| And.intro @lm_nil <| And.intro @lm_cons <| And.intro @ik_at <| And.intro @bk_at <| And.intro @fm_nil <| And.intro @fm_cons <| And.intro @List.length_cons.{0} <| And.intro @List.length_nil.{0} <| And.intro @List.cons_append.{0} <| And.intro @List.nil_append.{0} <| @frl.eq_1
end Go.Av
