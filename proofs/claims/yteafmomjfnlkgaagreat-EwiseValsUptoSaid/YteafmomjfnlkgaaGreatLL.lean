/- What the interpreter's data have to do with the model's memory; what stays when memory grows. A tree that an operation yields is taken into the list of rows: what then holds. What a value is to a function that only reads it; rows that are not written any more. Conditions: those that each names. -/
import Derived.Test.YteafmomjfnlkgaaGreatEv
namespace Go.Av
def rowSize (H : Array Obj) (b : Nat) : Option Nat :=
  match H[b]? with
  | some (.cells cur _ _) => some cur.size
  | _ => none
def Row (H : Array Obj) (b o : Nat) (us : List Value) : Prop :=
  ∃ cur e fz, H[b]? = some (.cells cur e fz) ∧ ∀ i u, us[i]? = some u → cur[o + i]? = some u
inductive VC (H : Array Obj) (F : Nat → Prop) : AV → Value → Prop
  | v {x} : VC H F (.v x) x
  | arr0 {a c} : VC H F (.arr 0 []) (.slice a 0 c)
  | arr {n xs b o c us} (hc : n ≤ c) (hF : F b) (hr : Row H b o us) (hl : xs.length = us.length)
      (hx : ∀ (i : Nat) x u, xs[i]? = some x → us[i]? = some u → VC H F x u) : VC H F (.arr n xs) (.slice (some ⟨b, o, none⟩) n c)
  | ref {xs off b o us} (hF : F b) (hr : Row H b o us) (hl : xs.length = us.length)
      (hx : ∀ (i : Nat) x u, xs[i]? = some x → us[i]? = some u → VC H F x u) : VC H F (.ref xs off) (.pointer (some ⟨b, o + off, none⟩))
  | fn {f first cap us vs} (h1 : first.length = us.length) (h2 : ∀ (i : Nat) x u, first[i]? = some x → us[i]? = some u → VC H F x u)
      (h3 : cap.length = vs.length) (h4 : ∀ (i : Nat) x u, cap[i]? = some x → vs[i]? = some u → VC H F x u) : VC H F (.fn f first cap) (.func (.func f) ⟨us⟩ ⟨vs⟩)
  | agg {xs us} (hl : xs.length = us.length) (hx : ∀ (i : Nat) x u, xs[i]? = some x → us[i]? = some u → VC H F x u) : VC H F (.agg xs) (.agg ⟨us⟩)
  | tuple {xs us} (hl : xs.length = us.length) (hx : ∀ (i : Nat) x u, xs[i]? = some x → us[i]? = some u → VC H F x u) : VC H F (.tuple xs) (.tuple ⟨us⟩)
def OwnAt (H : Array Obj) (M : Id → Option Nat) (id : Id) (off n ext sz : Nat) (a : Option Addr) (c : Nat) : Prop :=
  ext * sz ≤ off + c * sz ∧ ((n = 0 ∧ c = 0) ∨ ∃ b S, M id = some b ∧ a = some ⟨b, off, none⟩ ∧ rowSize H b = some S ∧ off + c * sz ≤ S)
inductive VR (H : Array Obj) (F : Nat → Prop) (h : Heap) (M : Id → Option Nat) : AV → Value → Prop
  | c {x u} (hc : VC H F x u) : VR H F h M x u
  | own {id off n ext a c cl rw sz e cells} (hg : h.get id = some (.sl cl rw sz e cells)) (hn : n ≤ c) (hle : ext ≤ e) (ho : e = ext → OwnAt H M id off n ext sz a c) :
      VR H F h M (.own id off n ext) (.slice a n c)
  | ptr {id off ext blk a} (hg : h.get id = some blk) (hle : ext ≤ blk.ext) (ho : blk.ext = ext → ∃ b, M id = some b ∧ a = some ⟨b, off, none⟩) : VR H F h M (.ptr id off ext) (.pointer a)
  | fn {f first cap us vs} (h1 : first.length = us.length) (h2 : ∀ (i : Nat) x u, first[i]? = some x → us[i]? = some u → VR H F h M x u)
      (h3 : cap.length = vs.length) (h4 : ∀ (i : Nat) x u, cap[i]? = some x → vs[i]? = some u → VR H F h M x u) : VR H F h M (.fn f first cap) (.func (.func f) ⟨us⟩ ⟨vs⟩)
  | agg {xs us} (hl : xs.length = us.length) (hx : ∀ (i : Nat) x u, xs[i]? = some x → us[i]? = some u → VR H F h M x u) : VR H F h M (.agg xs) (.agg ⟨us⟩)
  | tuple {xs us} (hl : xs.length = us.length) (hx : ∀ (i : Nat) x u, xs[i]? = some x → us[i]? = some u → VR H F h M x u) : VR H F h M (.tuple xs) (.tuple ⟨us⟩)
def RowOK (H : Array Obj) (F : Nat → Prop) (h : Heap) (M : Id → Option Nat) (id : Id) : Blk → Prop
  | .sl cl rw sz ext cells => cells.length = ext * sz ∧ ((ext = 0 ∧ M id = none) ∨ ∃ b cur e, M id = some b ∧ H[b]? = some (.cells cur e (0, 0)) ∧
      (rw = true → ¬ F b) ∧ (rw = false → F b) ∧ ∀ (i : Nat) x, cells[i]? = some x → ∃ u, cur[i]? = some u ∧ (cl = true → VC H F x u) ∧ (cl = false → VR H F h M x u))
  | .bx rw cells => ∃ b cur e, M id = some b ∧ H[b]? = some (.cells cur e (0, 0)) ∧ cells.length = cur.size ∧
      (rw = true → ¬ F b) ∧ (rw = false → F b) ∧ ∀ (i : Nat) x, cells[i]? = some x → ∃ u, cur[i]? = some u ∧ VR H F h M x u
structure HOK (H : Array Obj) (F : Nat → Prop) (h : Heap) (M : Id → Option Nat) : Prop where
  row : ∀ id blk, h.get id = some blk → RowOK H F h M id blk
  inj : ∀ id id' blk blk' b, h.get id = some blk → h.get id' = some blk' → M id = some b → M id' = some b → id = id'
  fb : ∀ b, F b → b < H.size
theorem get_set_same : ∀ (h : Heap) (k : Id) (y : Blk), (h.set k y).get k = some y
  | [], k, y => by simp [Heap.set, Heap.get]
  | (j, x) :: h, k, y => by
    by_cases e : j = k
    · simp [Heap.set, Heap.get, e]
    · simp [Heap.set, Heap.get, e, get_set_same h k y]
theorem get_set_ne : ∀ (h : Heap) (k i : Id) (y : Blk), i ≠ k → (h.set k y).get i = h.get i
  | [], k, i, y, hn => by simp [Heap.set, Heap.get, Ne.symm hn]
  | (j, x) :: h, k, i, y, hn => by
    by_cases e : j = k
    · subst e; simp [Heap.set, Heap.get, Ne.symm hn]
    · by_cases e2 : j = i
      · simp only [Heap.set, if_neg e]; simp [Heap.get, e2]
      · simp [Heap.set, Heap.get, e, e2, get_set_ne h k i y hn]
theorem get_set (h : Heap) (k i : Id) (y : Blk) : (h.set k y).get i = if i = k then some y else h.get i := by
  by_cases e : i = k
  · subst e; simp [get_set_same]
  · simp [e, get_set_ne h k i y e]
theorem new_some {h h' : Heap} {k : Id} {y : Blk} (e : h.new k y = some h') : h.get k = none ∧ h' = h.set k y := by
  unfold Heap.new at e
  split at e
  · injection e with e; exact ⟨by assumption, e.symm⟩
  · cases e
theorem envGet_set_same : ∀ (e : Env) (k : Nat) (y : AV), (e.set k y).get k = some y
  | [], k, y => by simp [Env.set, Env.get]
  | (j, x) :: e, k, y => by
    unfold Env.set
    split
    · rename_i h; simp [Env.get, h]
    · rename_i h
      split
      · simp [Env.get]
      · simp [Env.get, h, envGet_set_same e k y]
theorem envGet_set_ne : ∀ (e : Env) (k i : Nat) (y : AV), i ≠ k → (e.set k y).get i = e.get i
  | [], k, i, y, hn => by simp [Env.set, Env.get, Ne.symm hn]
  | (j, x) :: e, k, i, y, hn => by
    unfold Env.set
    split
    · rename_i h; subst h; simp [Env.get, Ne.symm hn]
    · split
      · simp [Env.get, Ne.symm hn]
      · by_cases e2 : j = i
        · simp [Env.get, e2]
        · simp [Env.get, e2, envGet_set_ne e k i y hn]
theorem all2_get {α β : Type} {R : α → β → Prop} {xs : List α} {us : List β} (hl : xs.length = us.length) (h : ∀ (i : Nat) x u, xs[i]? = some x → us[i]? = some u → R x u)
    {i : Nat} {x : α} (hx : xs[i]? = some x) : ∃ u, us[i]? = some u ∧ R x u := by
  have hi : i < xs.length := (List.getElem?_eq_some_iff.1 hx).1
  have : us[i]? = some us[i] := List.getElem?_eq_getElem (by omega)
  exact ⟨_, this, h i _ _ hx this⟩
theorem Row.keep {H H' : Array Obj} {b o : Nat} {us : List Value} (h : Row H b o us) (hk : H'[b]? = H[b]?) : Row H' b o us := by
  obtain ⟨cur, e, fz, h1, h2⟩ := h
  exact ⟨cur, e, fz, hk.trans h1, h2⟩
theorem VC.keep {H H' : Array Obj} {F F' : Nat → Prop} (hF : ∀ b, F b → F' b) (hk : ∀ b, F b → H'[b]? = H[b]?) {x : AV} {u : Value} (h : VC H F x u) : VC H' F' x u := by
  induction h with
  | v => exact .v
  | arr0 => exact .arr0
  | arr hc hf hr hl _ ih => exact .arr hc (hF _ hf) (hr.keep (hk _ hf)) hl ih
  | ref hf hr hl _ ih => exact .ref (hF _ hf) (hr.keep (hk _ hf)) hl ih
  | fn h1 _ h3 _ i1 i2 => exact .fn h1 i1 h3 i2
  | agg hl _ ih => exact .agg hl ih
  | tuple hl _ ih => exact .tuple hl ih
structure Held (H H' : Array Obj) (M M' : Id → Option Nat) (id : Id) (x y : Blk) : Prop where
  sl : ∀ cl rw sz e cs, x = .sl cl rw sz e cs → ∃ cl' rw' e' cs', y = .sl cl' rw' sz e' cs' ∧ e ≤ e'
  ext : x.ext ≤ y.ext
  same : x.ext = y.ext → M' id = M id ∧ ∀ b, M id = some b → rowSize H' b = rowSize H b
theorem VR.keep {H H' : Array Obj} {F F' : Nat → Prop} {h h' : Heap} {M M' : Id → Option Nat} (hF : ∀ b, F b → F' b) (hk : ∀ b, F b → H'[b]? = H[b]?)
    (hh : ∀ id x, h.get id = some x → ∃ y, h'.get id = some y ∧ Held H H' M M' id x y) {x : AV} {u : Value} (hv : VR H F h M x u) : VR H' F' h' M' x u := by
  induction hv with
  | c hc => exact .c (hc.keep hF hk)
  | @own id off n ext a c cl rw sz e cells hg hn hle ho =>
    obtain ⟨y, hy, hd⟩ := hh _ _ hg
    obtain ⟨cl', rw', e', cs', rfl, hle'⟩ := hd.sl _ _ _ _ _ rfl
    refine .own hy hn (by omega) fun he => ?_
    obtain rfl : e = ext := by omega
    obtain ⟨hM, hS⟩ := hd.same (by simp only [Blk.ext]; omega)
    obtain ⟨hx, ho⟩ := ho rfl
    refine ⟨hx, ?_⟩
    rcases ho with h0 | ⟨b, S, h1, h2, h3, h4⟩
    · exact .inl h0
    · exact .inr ⟨b, S, hM.trans h1, h2, (hS b h1).trans h3, h4⟩
  | @ptr id off ext blk a hg hle ho =>
    obtain ⟨y, hy, hd⟩ := hh _ _ hg
    have hx := hd.ext
    refine .ptr hy (by omega) fun he => ?_
    obtain ⟨hM, _⟩ := hd.same (by omega)
    obtain ⟨b, h1, h2⟩ := ho (by omega)
    exact ⟨b, hM.trans h1, h2⟩
  | fn h1 _ h3 _ i1 i2 => exact .fn h1 i1 h3 i2
  | agg hl _ ih => exact .agg hl ih
  | tuple hl _ ih => exact .tuple hl ih
theorem RowOK.keep {H H' : Array Obj} {F F' : Nat → Prop} {h h' : Heap} {M M' : Id → Option Nat} (hF : ∀ b, F b → F' b) (hk : ∀ b, F b → H'[b]? = H[b]?)
    (hh : ∀ id x, h.get id = some x → ∃ y, h'.get id = some y ∧ Held H H' M M' id x y) {id : Id} {blk : Blk} (hr : RowOK H F h M id blk)
    (hM : M' id = M id) (hb : ∀ b, M id = some b → H'[b]? = H[b]? ∧ (blk.rw = true → F' b → F b)) : RowOK H' F' h' M' id blk := by
  cases blk with
  | sl cl rw sz ext cells =>
    obtain ⟨hl, hr⟩ := hr
    refine ⟨hl, ?_⟩
    rcases hr with ⟨h0, h1⟩ | ⟨b, cur, e, h1, h2, h3, h4, h5⟩
    · exact .inl ⟨h0, hM.trans h1⟩
    · refine .inr ⟨b, cur, e, hM.trans h1, (hb b h1).1.trans h2, fun e1 e2 => h3 e1 ((hb b h1).2 e1 e2), fun e1 => hF _ (h4 e1), fun i x hx => ?_⟩
      obtain ⟨u, a1, a2, a3⟩ := h5 i x hx
      exact ⟨u, a1, fun e => (a2 e).keep hF hk, fun e => (a3 e).keep hF hk hh⟩
  | bx rw cells =>
    obtain ⟨b, cur, e, h1, h2, hl, h3, h4, h5⟩ := hr
    refine ⟨b, cur, e, hM.trans h1, (hb b h1).1.trans h2, hl, fun e1 e2 => h3 e1 ((hb b h1).2 e1 e2), fun e1 => hF _ (h4 e1), fun i x hx => ?_⟩
    obtain ⟨u, a1, a2⟩ := h5 i x hx
    exact ⟨u, a1, a2.keep hF hk hh⟩
theorem Held.refl {H H' : Array Obj} {M M' : Id → Option Nat} {id : Id} {x : Blk} (hM : M' id = M id) (hb : ∀ b, M id = some b → rowSize H' b = rowSize H b) : Held H H' M M' id x x :=
  ⟨fun _ _ _ _ _ e => ⟨_, _, _, _, e, Nat.le_refl _⟩, Nat.le_refl _, fun _ => ⟨hM, hb⟩⟩
theorem rowSize_of {H H' : Array Obj} {b : Nat} (h : H'[b]? = H[b]?) : rowSize H' b = rowSize H b := by unfold rowSize; rw [h]
mutual
inductive TR (H : Array Obj) (C R : AV → Value → Prop) : AV → Value → List Nat → Prop
  | base {x u} (h : R x u) : TR H C R x u []
  | nil {sz a} : TR H C R (.fresh sz 0 []) (.slice a 0 0) []
  | fresh {sz n xs b cur e c} (hb : H[b]? = some (.cells cur e (0, 0))) (hc : n ≤ c) (hs : c * sz ≤ cur.size) (hl : xs.length = n * sz)
      (hx : ∀ (i : Nat) x, xs[i]? = some x → ∃ u, cur[i]? = some u ∧ C x u) : TR H C R (.fresh sz n xs) (.slice (some ⟨b, 0, none⟩) n c) [b]
  | open_ {sz n xs b cur e c} (hb : H[b]? = some (.cells cur e (0, 0))) (hc : n ≤ c) (hs : c * sz ≤ cur.size) (hl : xs.length = n * sz)
      (hx : ∀ (i : Nat) x, xs[i]? = some x → ∃ u, cur[i]? = some u ∧ R x u) : TR H C R (.freshO sz n xs) (.slice (some ⟨b, 0, none⟩) n c) [b]
  | newbx {xs us b e bs} (hb : H[b]? = some (.cells ⟨us⟩ e (0, 0))) (hx : TRL H C R xs us bs) : TR H C R (.newbx xs) (.pointer (some ⟨b, 0, none⟩)) (b :: bs)
  | agg {xs us bs} (hx : TRL H C R xs us bs) : TR H C R (.agg xs) (.agg ⟨us⟩) bs
  | tuple {xs us bs} (hx : TRL H C R xs us bs) : TR H C R (.tuple xs) (.tuple ⟨us⟩) bs
inductive TRL (H : Array Obj) (C R : AV → Value → Prop) : List AV → List Value → List Nat → Prop
  | nil : TRL H C R [] [] []
  | cons {x xs u us bs bs'} (h : TR H C R x u bs) (hs : TRL H C R xs us bs') : TRL H C R (x :: xs) (u :: us) (bs ++ bs')
end
end Go.Av
namespace Go.Av
mutual
theorem TR.mono {H : Array Obj} {C R C' R' : AV → Value → Prop} (hC : ∀ x u, C x u → C' x u) (hR : ∀ x u, R x u → R' x u) : ∀ {x : AV} {u : Value} {bs : List Nat}, TR H C R x u bs → TR H C' R' x u bs
  | _, _, _, .base h => .base (hR _ _ h)
  | _, _, _, .nil => .nil
  | _, _, _, .fresh hb hc hs hl hx => .fresh hb hc hs hl fun i x h => (hx i x h).imp fun _ h => ⟨h.1, hC _ _ h.2⟩
  | _, _, _, .open_ hb hc hs hl hx => .open_ hb hc hs hl fun i x h => (hx i x h).imp fun _ h => ⟨h.1, hR _ _ h.2⟩
  | _, _, _, .newbx hb hx => .newbx hb (TRL.mono hC hR hx)
  | _, _, _, .agg hx => .agg (TRL.mono hC hR hx)
  | _, _, _, .tuple hx => .tuple (TRL.mono hC hR hx)
theorem TRL.mono {H : Array Obj} {C R C' R' : AV → Value → Prop} (hC : ∀ x u, C x u → C' x u) (hR : ∀ x u, R x u → R' x u) : ∀ {xs : List AV} {us : List Value} {bs : List Nat}, TRL H C R xs us bs → TRL H C' R' xs us bs
  | _, _, _, .nil => .nil
  | _, _, _, .cons h hs => .cons (TR.mono hC hR h) (TRL.mono hC hR hs)
end
def Ext (h : Heap) (M : Id → Option Nat) (h' : Heap) (M' : Id → Option Nat) : Prop := ∀ id x, h.get id = some x → h'.get id = some x ∧ M' id = M id
theorem Ext.refl (h : Heap) (M : Id → Option Nat) : Ext h M h M := fun _ _ e => ⟨e, rfl⟩
theorem Ext.trans {h h1 h2 : Heap} {M M1 M2 : Id → Option Nat} (a : Ext h M h1 M1) (b : Ext h1 M1 h2 M2) : Ext h M h2 M2 :=
  fun id x e => let ⟨e1, m1⟩ := a id x e; let ⟨e2, m2⟩ := b id x e1; ⟨e2, m2.trans m1⟩
theorem Ext.held {H : Array Obj} {h h' : Heap} {M M' : Id → Option Nat} (a : Ext h M h' M') : ∀ id x, h.get id = some x → ∃ y, h'.get id = some y ∧ Held H H M M' id x y :=
  fun id x e => ⟨x, (a id x e).1, Held.refl (a id x e).2 fun _ _ => rfl⟩
theorem VR.ext {H : Array Obj} {F : Nat → Prop} {h h' : Heap} {M M' : Id → Option Nat} (a : Ext h M h' M') {x : AV} {u : Value} (hv : VR H F h M x u) : VR H F h' M' x u :=
  hv.keep (fun _ h => h) (fun _ _ => rfl) a.held
theorem RowOK.ext {H : Array Obj} {F : Nat → Prop} {h h' : Heap} {M M' : Id → Option Nat} (a : Ext h M h' M') {id : Id} {x : Blk} (e : h.get id = some x) (hr : RowOK H F h M id x) : RowOK H F h' M' id x :=
  hr.keep (fun _ h => h) (fun _ _ => rfl) a.held (a id x e).2 fun _ _ => ⟨rfl, fun _ h => h⟩
structure Imp (H : Array Obj) (F : Nat → Prop) (bs : List Nat) (h : Heap) (M : Id → Option Nat) (h' : Heap) (M' : Id → Option Nat) : Prop where
  ext : Ext h M h' M'
  ok : HOK H F h' M'
  new : ∀ id x, h'.get id = some x → h.get id = none → x.rw = true ∧ ∀ b, M' id = some b → b ∈ bs
def updM (M : Id → Option Nat) (k : Id) (o : Option Nat) : Id → Option Nat := fun i => if i = k then o else M i
theorem updM_same {M : Id → Option Nat} {k : Id} {o : Option Nat} : updM M k o k = o := by simp [updM]
theorem updM_ne {M : Id → Option Nat} {k i : Id} {o : Option Nat} (h : i ≠ k) : updM M k o i = M i := by simp [updM, h]
theorem ext_new {h h' : Heap} {M : Id → Option Nat} {k : Id} {y : Blk} {o : Option Nat} (e : h.new k y = some h') : Ext h M h' (updM M k o) := by
  obtain ⟨h0, rfl⟩ := new_some e
  intro id x hx
  have hne : id ≠ k := fun he => by subst he; rw [h0] at hx; cases hx
  exact ⟨by rw [get_set_ne _ _ _ _ hne]; exact hx, updM_ne hne⟩
theorem imp_new {H : Array Obj} {F : Nat → Prop} {h h' : Heap} {M : Id → Option Nat} {k : Id} {y : Blk} {o : Option Nat} {bs : List Nat} (hk : HOK H F h M) (e : h.new k y = some h')
    (hrw : y.rw = true) (ho : ∀ b, o = some b → b ∈ bs ∧ ∀ id x, h.get id = some x → M id ≠ some b) (hr : RowOK H F h' (updM M k o) k y) : Imp H F bs h M h' (updM M k o) := by
  have hx := ext_new (M := M) (o := o) e
  obtain ⟨h0, rfl⟩ := new_some e
  refine ⟨hx, ⟨fun id x hg => ?_, fun id id' x x' b g1 g2 m1 m2 => ?_, hk.fb⟩, fun id x hg hn => ?_⟩
  · by_cases he : id = k
    · subst he; rw [get_set_same] at hg; injection hg with hg; subst hg; exact hr
    · rw [get_set_ne _ _ _ _ he] at hg; exact (hk.row id x hg).ext hx hg
  · by_cases he : id = k <;> by_cases he' : id' = k
    · rw [he, he']
    · subst he
      rw [get_set_ne _ _ _ _ he'] at g2
      rw [updM_same] at m1; rw [updM_ne he'] at m2
      exact absurd m2 ((ho b m1).2 _ _ g2)
    · subst he'
      rw [get_set_ne _ _ _ _ he] at g1
      rw [updM_same] at m2; rw [updM_ne he] at m1
      exact absurd m1 ((ho b m2).2 _ _ g1)
    · rw [get_set_ne _ _ _ _ he] at g1; rw [get_set_ne _ _ _ _ he'] at g2
      rw [updM_ne he] at m1; rw [updM_ne he'] at m2
      exact hk.inj _ _ _ _ _ g1 g2 m1 m2
  · by_cases he : id = k
    · subst he; rw [get_set_same] at hg; injection hg with hg; subst hg
      refine ⟨hrw, fun b hb => ?_⟩
      rw [updM_same] at hb
      exact (ho b hb).1
    · rw [get_set_ne _ _ _ _ he] at hg; rw [hg] at hn; cases hn
def ImportOK (H : Array Obj) (F : Nat → Prop) (f : AV → Nat × Heap → Option (AV × Nat × Heap)) : Prop :=
  ∀ t u bs k h M y k' h', TR H (VC H F) (VR H F h M) t u bs → HOK H F h M → bs.Nodup → (∀ b ∈ bs, ¬ F b) → (∀ b ∈ bs, ∀ id x, h.get id = some x → M id ≠ some b) →
    f t (k, h) = some (y, k', h') → ∃ M', Imp H F bs h M h' M' ∧ VR H F h' M' y u
theorem import_list {H : Array Obj} {F : Nat → Prop} {f : AV → Nat × Heap → Option (AV × Nat × Heap)} (hf : ImportOK H F f) : ∀ xs us bs k h M ys k' h', TRL H (VC H F) (VR H F h M) xs us bs → HOK H F h M → bs.Nodup →
    (∀ b ∈ bs, ¬ F b) → (∀ b ∈ bs, ∀ id x, h.get id = some x → M id ≠ some b) → mapSt f xs (k, h) = some (ys, k', h') →
    ∃ M', Imp H F bs h M h' M' ∧ ys.length = us.length ∧ ∀ (i : Nat) y u, ys[i]? = some y → us[i]? = some u → VR H F h' M' y u
  | [], us, bs, k, h, M, ys, k', h', ht, hk, _, _, _, e => by
    cases ht
    simp only [mapSt, Option.some.injEq, Prod.mk.injEq] at e
    obtain ⟨rfl, rfl, rfl⟩ := e
    exact ⟨M, ⟨Ext.refl _ _, hk, fun id x a b => by rw [a] at b; cases b⟩, rfl, fun i y u h => by simp at h⟩
  | x :: xs, us, bs, k, h, M, ys, k', h', ht, hk, hnd, hF, hM, e => by
    cases ht with
    | @cons _ _ u us b1 b2 h1 h2 =>
      simp only [mapSt, Option.bind_eq_some_iff, Prod.exists] at e
      obtain ⟨y, k1, g1, e1, ys', k2, g2, e2, e3⟩ := e
      simp only [Option.some.injEq, Prod.mk.injEq] at e3
      obtain ⟨rfl, rfl, rfl⟩ := e3
      obtain ⟨n1, n2, n3⟩ := List.nodup_append.1 hnd
      obtain ⟨M1, i1, v1⟩ := hf x u b1 k h M y k1 g1 h1 hk n1 (fun b hb => hF b (List.mem_append_left _ hb)) (fun b hb => hM b (List.mem_append_left _ hb)) e1
      have hM2 : ∀ b ∈ b2, ∀ id x, g1.get id = some x → M1 id ≠ some b := fun b hb id z hz hq => by
        cases hg : h.get id with
        | none => exact n3 _ ((i1.new id z hz hg).2 b hq) _ hb rfl
        | some w =>
          rw [(i1.ext id w hg).2] at hq
          exact hM b (List.mem_append_right _ hb) id w hg hq
      obtain ⟨M2, i2, hl, hv⟩ := import_list hf xs us b2 k1 g1 M1 ys' k2 g2 (h2.mono (fun _ _ h => h) fun _ _ h => h.ext i1.ext) i1.ok n2 (fun b hb => hF b (List.mem_append_right _ hb)) hM2 e2
      refine ⟨M2, ⟨i1.ext.trans i2.ext, i2.ok, fun id z a b => ?_⟩, by simp [hl], fun i y' u' a b => ?_⟩
      · cases hg : g1.get id with
        | none => exact ⟨(i2.new id z a hg).1, fun c hc => List.mem_append_right _ ((i2.new id z a hg).2 c hc)⟩
        | some w =>
          have h3 := i2.ext id w hg
          rw [a] at h3
          obtain ⟨h3, h4⟩ := h3
          injection h3 with h3
          subst h3
          have h5 := i1.new id z hg b
          exact ⟨h5.1, fun c hc => List.mem_append_left _ (h5.2 c (h4 ▸ hc))⟩
      · cases i with
        | zero => simp at a b; subst a; subst b; exact v1.ext i2.ext
        | succ i => simp at a b; exact hv i y' u' a b
theorem VR.agg_inv {H : Array Obj} {F : Nat → Prop} {h : Heap} {M : Id → Option Nat} {xs : List AV} {u : Value} (hv : VR H F h M (.agg xs) u) :
    ∃ us, u = .agg ⟨us⟩ ∧ xs.length = us.length ∧ ∀ (i : Nat) x u, xs[i]? = some x → us[i]? = some u → VR H F h M x u := by
  cases hv with
  | c hc => cases hc with
    | agg hl hx => exact ⟨_, rfl, hl, fun i x u a b => .c (hx i x u a b)⟩
  | agg hl hx => exact ⟨_, rfl, hl, hx⟩
theorem VR.tuple_inv {H : Array Obj} {F : Nat → Prop} {h : Heap} {M : Id → Option Nat} {xs : List AV} {u : Value} (hv : VR H F h M (.tuple xs) u) :
    ∃ us, u = .tuple ⟨us⟩ ∧ xs.length = us.length ∧ ∀ (i : Nat) x u, xs[i]? = some x → us[i]? = some u → VR H F h M x u := by
  cases hv with
  | c hc => cases hc with
    | tuple hl hx => exact ⟨_, rfl, hl, fun i x u a b => .c (hx i x u a b)⟩
  | tuple hl hx => exact ⟨_, rfl, hl, hx⟩
theorem TRL.of_all {H : Array Obj} {C R : AV → Value → Prop} : ∀ {xs : List AV} {us : List Value}, xs.length = us.length → (∀ (i : Nat) x u, xs[i]? = some x → us[i]? = some u → R x u) → TRL H C R xs us []
  | [], [], _, _ => .nil
  | x :: xs, u :: us, hl, h => by
    have h1 := TRL.cons (H := H) (C := C) (.base (h 0 x u rfl rfl)) (TRL.of_all (by simpa using hl) fun i x u a b => h (i + 1) x u (by simpa using a) (by simpa using b))
    exact h1
theorem TR.agg_inv {H : Array Obj} {F : Nat → Prop} {h : Heap} {M : Id → Option Nat} {xs : List AV} {u : Value} {bs : List Nat} (ht : TR H (VC H F) (VR H F h M) (.agg xs) u bs) :
    ∃ us, u = .agg ⟨us⟩ ∧ TRL H (VC H F) (VR H F h M) xs us bs := by
  cases ht with
  | base hr => obtain ⟨us, rfl, hl, hx⟩ := hr.agg_inv; exact ⟨us, rfl, TRL.of_all hl hx⟩
  | agg hx => exact ⟨_, rfl, hx⟩
theorem TR.tuple_inv {H : Array Obj} {F : Nat → Prop} {h : Heap} {M : Id → Option Nat} {xs : List AV} {u : Value} {bs : List Nat} (ht : TR H (VC H F) (VR H F h M) (.tuple xs) u bs) :
    ∃ us, u = .tuple ⟨us⟩ ∧ TRL H (VC H F) (VR H F h M) xs us bs := by
  cases ht with
  | base hr => obtain ⟨us, rfl, hl, hx⟩ := hr.tuple_inv; exact ⟨us, rfl, TRL.of_all hl hx⟩
  | tuple hx => exact ⟨_, rfl, hx⟩
theorem import_same {H : Array Obj} {F : Nat → Prop} {h : Heap} {M : Id → Option Nat} {t : AV} {u : Value} {bs : List Nat} (hk : HOK H F h M) (hv : VR H F h M t u) :
    ∃ M', Imp H F bs h M h M' ∧ VR H F h M' t u :=
  ⟨M, ⟨Ext.refl _ _, hk, fun id x a b => by rw [a] at b; cases b⟩, hv⟩
theorem import_fresh {H : Array Obj} {F : Nat → Prop} {h h' : Heap} {M : Id → Option Nat} {k : Id} {sz n : Nat} {xs : List AV} {u : Value} {bs : List Nat} (ht : TR H (VC H F) (VR H F h M) (.fresh sz n xs) u bs)
    (hk : HOK H F h M) (hF : ∀ b ∈ bs, ¬ F b) (hM : ∀ b ∈ bs, ∀ id x, h.get id = some x → M id ≠ some b) (e : h.new k (.sl true true sz n xs) = some h') :
    ∃ M', Imp H F bs h M h' M' ∧ VR H F h' M' (.own k 0 n n) u := by
  have hg : h'.get k = some (.sl true true sz n xs) := by obtain ⟨_, rfl⟩ := new_some e; exact get_set_same _ _ _
  cases ht with
  | base hr => cases hr with
    | c hc => cases hc
  | nil =>
    refine ⟨updM M k none, imp_new hk e rfl (fun b hb => by cases hb) ⟨by simp, .inl ⟨rfl, updM_same⟩⟩, ?_⟩
    exact .own hg (Nat.le_refl _) (Nat.le_refl _) fun _ => ⟨by simp, .inl ⟨rfl, rfl⟩⟩
  | @fresh _ _ _ b cur e' c hb hc hs hl hx =>
    refine ⟨updM M k (some b), imp_new hk e rfl (fun b' hb' => ?_) ⟨hl, .inr ⟨b, cur, e', updM_same, hb, fun _ => hF b (by simp), (fun h => by cases h), fun i x h => ?_⟩⟩, ?_⟩
    · injection hb' with hb'; subst hb'; exact ⟨by simp, hM _ (by simp)⟩
    · obtain ⟨u, h1, h2⟩ := hx i x h
      exact ⟨u, h1, fun _ => h2, fun h => by cases h⟩
    · refine .own hg hc (Nat.le_refl _) fun _ => ⟨?_, .inr ⟨b, cur.size, updM_same, rfl, by simp [rowSize, hb], by simpa using hs⟩⟩
      simp only [Nat.zero_add]
      exact Nat.mul_le_mul_right _ hc
theorem import_open {H : Array Obj} {F : Nat → Prop} {h h' : Heap} {M : Id → Option Nat} {k : Id} {sz n : Nat} {xs : List AV} {u : Value} {bs : List Nat} (ht : TR H (VC H F) (VR H F h M) (.freshO sz n xs) u bs)
    (hk : HOK H F h M) (hF : ∀ b ∈ bs, ¬ F b) (hM : ∀ b ∈ bs, ∀ id x, h.get id = some x → M id ≠ some b) (e : h.new k (.sl false true sz n xs) = some h') :
    ∃ M', Imp H F bs h M h' M' ∧ VR H F h' M' (.own k 0 n n) u := by
  have hg : h'.get k = some (.sl false true sz n xs) := by obtain ⟨_, rfl⟩ := new_some e; exact get_set_same _ _ _
  cases ht with
  | base hr => cases hr with
    | c hc => cases hc
  | @open_ _ _ _ b cur e' c hb hc hs hl hx =>
    have hex := ext_new (M := M) (o := some b) e
    refine ⟨updM M k (some b), imp_new hk e rfl (fun b' hb' => ?_) ⟨hl, .inr ⟨b, cur, e', updM_same, hb, fun _ => hF b (by simp), (fun h => by cases h), fun i x h => ?_⟩⟩, ?_⟩
    · injection hb' with hb'; subst hb'; exact ⟨by simp, hM _ (by simp)⟩
    · obtain ⟨u, h1, h2⟩ := hx i x h
      exact ⟨u, h1, (fun h => by cases h), fun _ => h2.ext hex⟩
    · refine .own hg hc (Nat.le_refl _) fun _ => ⟨?_, .inr ⟨b, cur.size, updM_same, rfl, by simp [rowSize, hb], by simpa using hs⟩⟩
      simp only [Nat.zero_add]
      exact Nat.mul_le_mul_right _ hc
theorem import_bx {H : Array Obj} {F : Nat → Prop} {lvl slot d : Nat} (ih : ImportOK H F (importR lvl slot d)) {h : Heap} {M : Id → Option Nat} {k : Nat} {xs : List AV} {u : Value} {bs : List Nat} {y k' h'}
    (ht : TR H (VC H F) (VR H F h M) (.newbx xs) u bs) (hk : HOK H F h M) (hnd : bs.Nodup) (hF : ∀ b ∈ bs, ¬ F b) (hM : ∀ b ∈ bs, ∀ id x, h.get id = some x → M id ≠ some b)
    (e : importR lvl slot (d + 1) (.newbx xs) (k, h) = some (y, k', h')) : ∃ M', Imp H F bs h M h' M' ∧ VR H F h' M' y u := by
  simp only [importR, Option.bind_eq_some_iff, Prod.exists] at e
  obtain ⟨ys, k1, h1, e1, h2, e2, e3⟩ := e
  simp only [Option.some.injEq, Prod.mk.injEq] at e3
  obtain ⟨rfl, rfl, rfl⟩ := e3
  cases ht with
  | base hr => cases hr with
    | c hc => cases hc
  | @newbx _ us b et bs' hb hx =>
    obtain ⟨hn1, hn2⟩ := List.nodup_cons.1 hnd
    obtain ⟨M1, i1, hl, hv⟩ := import_list ih xs us bs' k h M ys k1 h1 hx hk hn2 (fun b hb => hF b (by simp [hb])) (fun b hb => hM b (by simp [hb])) e1
    have hg : h2.get (lvl, slot, k1) = some (.bx true ys) := by obtain ⟨_, rfl⟩ := new_some e2; exact get_set_same _ _ _
    have hb1 : ∀ id z, h1.get id = some z → M1 id ≠ some b := fun id z hz hq => by
      cases hg : h.get id with
      | none => exact hn1 ((i1.new id z hz hg).2 b hq)
      | some w =>
        rw [(i1.ext id w hg).2] at hq
        exact hM b (by simp) id w hg hq
    have hex := ext_new (M := M1) (o := some b) e2
    have i2 : Imp H F (b :: bs') h1 M1 h2 (updM M1 (lvl, slot, k1) (some b)) := imp_new i1.ok e2 rfl (fun b' hb' => by injection hb' with hb'; subst hb'; exact ⟨by simp, hb1⟩)
      ⟨b, ⟨us⟩, et, updM_same, hb, hl, fun _ => hF b (by simp), (fun h => by cases h), fun i x h => (all2_get hl hv h).imp fun u h34 => ⟨by simpa using h34.1, h34.2.ext hex⟩⟩
    refine ⟨_, ⟨i1.ext.trans i2.ext, i2.ok, fun id z a b' => ?_⟩, .ptr hg (Nat.le_refl _) fun _ => ⟨b, updM_same, rfl⟩⟩
    cases hg : h1.get id with
    | none => exact i2.new id z a hg
    | some w =>
      have h3 := i2.ext id w hg
      rw [a] at h3
      obtain ⟨h3, h4⟩ := h3
      injection h3 with h3
      subst h3
      have h5 := i1.new id z hg b'
      exact ⟨h5.1, fun c hc => List.mem_cons_of_mem _ (h5.2 c (h4 ▸ hc))⟩
theorem TR.base_inv {H : Array Obj} {C R : AV → Value → Prop} {t : AV} {u : Value} {bs : List Nat} (ht : TR H C R t u bs)
    (h : match t with | .fresh _ _ _ => False | .freshO _ _ _ => False | .newbx _ => False | .agg _ => False | .tuple _ => False | _ => True) : R t u := by
  cases ht with
  | base hr => exact hr
  | nil => exact h.elim
  | fresh => exact h.elim
  | open_ => exact h.elim
  | newbx => exact h.elim
  | agg => exact h.elim
  | tuple => exact h.elim
theorem import_ok {H : Array Obj} {F : Nat → Prop} (lvl slot : Nat) : ∀ d, ImportOK H F (importR lvl slot d) := by
  intro d
  induction d with
  | zero =>
    intro t u bs k h M y k' h' ht hk hnd hF hM e
    cases t with
    | fresh sz n xs =>
      simp only [importR, Option.bind_eq_some_iff, Option.some.injEq, Prod.mk.injEq] at e
      obtain ⟨h2, e2, rfl, rfl, rfl⟩ := e
      exact import_fresh ht hk hF hM e2
    | freshO sz n xs =>
      simp only [importR, Option.bind_eq_some_iff, Option.some.injEq, Prod.mk.injEq] at e
      obtain ⟨h2, e2, rfl, rfl, rfl⟩ := e
      exact import_open ht hk hF hM e2
    | newbx xs => simp [importR] at e
    | agg xs => simp [importR] at e
    | tuple xs => simp [importR] at e
    | _ =>
      simp only [importR, Option.some.injEq, Prod.mk.injEq] at e
      obtain ⟨rfl, rfl, rfl⟩ := e
      exact import_same hk (ht.base_inv trivial)
  | succ d ih =>
    intro t u bs k h M y k' h' ht hk hnd hF hM e
    cases t with
    | fresh sz n xs =>
      simp only [importR, Option.bind_eq_some_iff, Option.some.injEq, Prod.mk.injEq] at e
      obtain ⟨h2, e2, rfl, rfl, rfl⟩ := e
      exact import_fresh ht hk hF hM e2
    | freshO sz n xs =>
      simp only [importR, Option.bind_eq_some_iff, Option.some.injEq, Prod.mk.injEq] at e
      obtain ⟨h2, e2, rfl, rfl, rfl⟩ := e
      exact import_open ht hk hF hM e2
    | newbx xs => exact import_bx ih ht hk hnd hF hM e
    | agg xs =>
      simp only [importR, Option.bind_eq_some_iff, Prod.exists] at e
      obtain ⟨ys, k1, h1, e1, e3⟩ := e
      simp only [Option.some.injEq, Prod.mk.injEq] at e3
      obtain ⟨rfl, rfl, rfl⟩ := e3
      obtain ⟨us, rfl, hx⟩ := ht.agg_inv
      obtain ⟨M1, i1, hl, hv⟩ := import_list ih xs us bs k h M ys k1 h1 hx hk hnd hF hM e1
      exact ⟨M1, i1, .agg hl hv⟩
    | tuple xs =>
      simp only [importR, Option.bind_eq_some_iff, Prod.exists] at e
      obtain ⟨ys, k1, h1, e1, e3⟩ := e
      simp only [Option.some.injEq, Prod.mk.injEq] at e3
      obtain ⟨rfl, rfl, rfl⟩ := e3
      obtain ⟨us, rfl, hx⟩ := ht.tuple_inv
      obtain ⟨M1, i1, hl, hv⟩ := import_list ih xs us bs k h M ys k1 h1 hx hk hnd hF hM e1
      exact ⟨M1, i1, .tuple hl hv⟩
    | _ =>
      simp only [importR, Option.some.injEq, Prod.mk.injEq] at e
      obtain ⟨rfl, rfl, rfl⟩ := e
      exact import_same hk (ht.base_inv trivial)
end Go.Av
set_option linter.unusedVariables false
namespace Go.Av
def Of (h : Heap) (M : Id → Option Nat) (is : List Id) (b : Nat) : Prop := ∃ id blk, id ∈ is ∧ h.get id = some blk ∧ M id = some b
theorem VC.grow {H : Array Obj} {F F' : Nat → Prop} (hF : ∀ b, F b → F' b) {x : AV} {u : Value} (h : VC H F x u) : VC H F' x u := h.keep hF fun _ _ => rfl
theorem mapM_nil {α β : Type} {f : α → Option β} : ([] : List α).mapM f = some [] := rfl
theorem mapM_cons {α β : Type} {f : α → Option β} {a : α} {l : List α} : (a :: l).mapM f = (f a).bind fun b => (l.mapM f).bind fun bs => some (b :: bs) := by
  rw [List.mapM_cons]; rfl
theorem mapM_get {α β : Type} {f : α → Option β} : ∀ {l : List α} {ys : List β}, l.mapM f = some ys → l.length = ys.length ∧ ∀ (i : Nat) y, ys[i]? = some y → ∃ x, l[i]? = some x ∧ f x = some y
  | [], ys, h => by
    rw [mapM_nil] at h; injection h with h; subst h
    exact ⟨rfl, fun i y h => by simp at h⟩
  | a :: l, ys, h => by
    rw [mapM_cons, Option.bind_eq_some_iff] at h
    obtain ⟨b, h1, h⟩ := h
    rw [Option.bind_eq_some_iff] at h
    obtain ⟨bs, h2, h⟩ := h
    injection h with h; subst h
    obtain ⟨hl, hx⟩ := mapM_get h2
    refine ⟨by simp [hl], fun i y hy => ?_⟩
    cases i with
    | zero => simp at hy; subst hy; exact ⟨a, rfl, h1⟩
    | succ i => simp at hy; simpa using hx i y hy
theorem cut_get {cells : List AV} {off n sz ext : Nat} : ∃ k m, (cut cells off n sz ext) = (cells.drop k).take m ∧ (k = off) := by
  unfold cut
  split
  · rename_i h
    obtain ⟨rfl, _⟩ := h
    exact ⟨0, cells.length, by simp, rfl⟩
  · exact ⟨off, _, rfl, rfl⟩
theorem cut_zero {cells : List AV} {off sz ext : Nat} (hl : cells.length = ext * sz) : cut cells off 0 sz ext = [] := by
  unfold cut
  split
  · rename_i h
    obtain ⟨_, rfl⟩ := h
    simp at hl
    exact hl
  · simp
theorem row_piece {H : Array Obj} {b : Nat} {cur : Array Value} {e : TypeId} {fz : Nat × Nat} (hb : H[b]? = some (.cells cur e fz)) {cells : List AV} {R : AV → Value → Prop}
    (hx : ∀ (i : Nat) x, cells[i]? = some x → ∃ u, cur[i]? = some u ∧ R x u) (k m : Nat) : ∃ us : List Value, Row H b k us ∧ ((cells.drop k).take m).length = us.length ∧
      ∀ (i : Nat) x u, ((cells.drop k).take m)[i]? = some x → us[i]? = some u → R x u := by
  have hlen : cells.length ≤ cur.size := by
    rcases Nat.eq_zero_or_pos cells.length with h | h
    · omega
    · obtain ⟨u, h1, _⟩ := hx (cells.length - 1) _ (List.getElem?_eq_getElem (by omega))
      have := (Array.getElem?_eq_some_iff.1 h1).1
      omega
  refine ⟨(cur.toList.drop k).take ((cells.drop k).take m).length, ⟨cur, e, fz, hb, fun i u h => ?_⟩, ?_, fun i x u h1 h2 => ?_⟩
  · rw [List.getElem?_take] at h
    split at h
    · rw [List.getElem?_drop] at h; simpa using h
    · cases h
  · simp only [List.length_take, List.length_drop, Array.length_toList]; omega
  · rw [List.getElem?_take] at h2
    split at h2
    · rw [List.getElem?_drop] at h2
      rw [List.getElem?_take] at h1
      split at h1
      · rw [List.getElem?_drop] at h1
        obtain ⟨u', h3, h4⟩ := hx _ _ h1
        rw [Array.getElem?_toList, h3] at h2
        injection h2 with h2
        subst h2
        exact h4
      · cases h1
    · cases h2
theorem mem_flatten_map {α β : Type} {f : α → List β} {l : List α} {b : β} {a : α} (ha : a ∈ l) (hb : b ∈ f a) : b ∈ (l.map f).flatten :=
  List.mem_flatten.2 ⟨f a, List.mem_map.2 ⟨a, ha, rfl⟩, hb⟩
theorem VR.own_inv {H : Array Obj} {F : Nat → Prop} {h : Heap} {M : Id → Option Nat} {id : Id} {off n ext : Nat} {u : Value} (hv : VR H F h M (.own id off n ext) u) :
    ∃ a c cl rw sz e cells, u = .slice a n c ∧ h.get id = some (.sl cl rw sz e cells) ∧ n ≤ c ∧ ext ≤ e ∧ (e = ext → OwnAt H M id off n ext sz a c) := by
  cases hv with
  | c hc => cases hc
  | own hg hn hle ho => exact ⟨_, _, _, _, _, _, _, rfl, hg, hn, hle, ho⟩
theorem VR.ptr_inv {H : Array Obj} {F : Nat → Prop} {h : Heap} {M : Id → Option Nat} {id : Id} {off ext : Nat} {u : Value} (hv : VR H F h M (.ptr id off ext) u) :
    ∃ blk, h.get id = some blk ∧ ext ≤ blk.ext ∧ (blk.ext = ext → ∃ b, M id = some b ∧ u = .pointer (some ⟨b, off, none⟩)) := by
  cases hv with
  | c hc => cases hc
  | ptr hg hle ho => exact ⟨_, hg, hle, fun e => (ho e).imp fun _ h => ⟨h.1, by rw [h.2]⟩⟩
theorem VR.ptr_form {H : Array Obj} {F : Nat → Prop} {h : Heap} {M : Id → Option Nat} {id : Id} {off ext : Nat} {u : Value} (hv : VR H F h M (.ptr id off ext) u) : ∃ a, u = .pointer a := by
  cases hv with
  | c hc => cases hc
  | ptr hg hle ho => exact ⟨_, rfl⟩
theorem VR.fn_inv {H : Array Obj} {F : Nat → Prop} {h : Heap} {M : Id → Option Nat} {f : FuncId} {xs ys : List AV} {u : Value} (hv : VR H F h M (.fn f xs ys) u) :
    ∃ us vs, u = .func (.func f) ⟨us⟩ ⟨vs⟩ ∧ xs.length = us.length ∧ (∀ (i : Nat) x u, xs[i]? = some x → us[i]? = some u → VR H F h M x u) ∧
      ys.length = vs.length ∧ (∀ (i : Nat) x u, ys[i]? = some x → vs[i]? = some u → VR H F h M x u) := by
  cases hv with
  | c hc => cases hc with
    | fn h1 h2 h3 h4 => exact ⟨_, _, rfl, h1, fun i x u a b => .c (h2 i x u a b), h3, fun i x u a b => .c (h4 i x u a b)⟩
  | fn h1 h2 h3 h4 => exact ⟨_, _, rfl, h1, h2, h3, h4⟩
theorem VR.v_inv {H : Array Obj} {F : Nat → Prop} {h : Heap} {M : Id → Option Nat} {x u : Value} (hv : VR H F h M (.v x) u) : u = x := by
  cases hv with
  | c hc => cases hc; rfl
theorem VR.arr_inv {H : Array Obj} {F : Nat → Prop} {h : Heap} {M : Id → Option Nat} {n : Nat} {xs : List AV} {u : Value} (hv : VR H F h M (.arr n xs) u) : VC H F (.arr n xs) u := by
  cases hv with
  | c hc => exact hc
theorem VR.ref_inv {H : Array Obj} {F : Nat → Prop} {h : Heap} {M : Id → Option Nat} {n : Nat} {xs : List AV} {u : Value} (hv : VR H F h M (.ref xs n) u) : VC H F (.ref xs n) u := by
  cases hv with
  | c hc => exact hc
theorem own_arr {H : Array Obj} {G : Nat → Prop} {M : Id → Option Nat} {id : Id} {off n sz e c : Nat} {a : Option Addr} {cs : List AV}
    (hr : (e = 0 ∧ M id = none) ∨ ∃ b cur t, M id = some b ∧ H[b]? = some (.cells cur t (0, 0)) ∧ ∀ (i : Nat) x, cs[i]? = some x → ∃ u, cur[i]? = some u ∧ VC H G x u)
    (hl : cs.length = e * sz) (ho : OwnAt H M id off n e sz a c) (hn : n ≤ c) (hG : ∀ b, M id = some b → G b) : VC H G (.arr n (cut cs off n sz e)) (.slice a n c) := by
  rcases ho.2 with ⟨rfl, rfl⟩ | ⟨b, S, h1, rfl, h3, h4⟩
  · rw [cut_zero hl]; exact .arr0
  · rcases hr with ⟨_, h0⟩ | ⟨b', cur, t, h6, h7, h8⟩
    · rw [h1] at h0; cases h0
    · rw [h1] at h6; injection h6 with h6; subst h6
      obtain ⟨k, m, hc, rfl⟩ := cut_get (cells := cs) (off := off) (n := n) (sz := sz) (ext := e)
      rw [hc]
      obtain ⟨us, hR, hU, hX⟩ := row_piece h7 h8 k m
      exact .arr hn (hG _ h1) hR hU hX
theorem exportV_own {H : Array Obj} {F : Nat → Prop} {h : Heap} {M : Id → Option Nat} (hk : HOK H F h M) {id : Id} {off n ext : Nat} {u : Value} {rw : Bool} {sz e : Nat} {cells : List AV}
    (hv : VR H F h M (.own id off n ext) u) (hg : h.get id = some (.sl true rw sz e cells)) (he : e = ext) {G : Nat → Prop} (hF : ∀ b, F b → G b) (hG : ∀ b, M id = some b → G b) :
    VC H G (.arr n (cut cells off n sz e)) u := by
  obtain ⟨a, c, cl, rw', sz', e', cells', rfl, hg', hn, hle, ho⟩ := hv.own_inv
  rw [hg] at hg'
  injection hg' with hg'
  injection hg' with _ _ h1 h2 h3
  subst h1; subst h2; subst h3; subst he
  obtain ⟨hl, hr⟩ := hk.row _ _ hg
  refine own_arr ?_ hl (ho rfl) hn hG
  rcases hr with h0 | ⟨b, cur, t, h1, h2, _, _, h5⟩
  · exact .inl h0
  · exact .inr ⟨b, cur, t, h1, h2, fun i x hx => let ⟨u, a1, a2, _⟩ := h5 i x hx; ⟨u, a1, (a2 rfl).grow hF⟩⟩
theorem exportV_ok {H : Array Obj} {F : Nat → Prop} {h : Heap} {M : Id → Option Nat} (hk : HOK H F h M) : ∀ d x u y, VR H F h M x u → exportV h.get d x = some y →
    VC H (fun b => F b ∨ Of h M (borrowed h.get d x) b) y u := by
  have ownC : ∀ d id off n ext u y, VR H F h M (.own id off n ext) u → ∀ rw sz e cells, h.get id = some (.sl true rw sz e cells) → exportV h.get d (.own id off n ext) = some y →
      VC H (fun b => F b ∨ Of h M (borrowed h.get d (.own id off n ext)) b) y u := fun d id off n ext u y hv rw sz e cells hg he => by
    have he' : (if e = ext then some (AV.arr n (cut cells off n sz e)) else none) = some y := by
      cases d <;> simpa only [exportV, hg, Option.bind_some] using he
    split at he'
    · rename_i hee
      simp only [Option.some.injEq] at he'
      subst he'
      exact exportV_own hk hv hg hee (fun _ h => .inl h) fun b hb => .inr ⟨id, _, by cases d <;> simp [borrowed], hg, hb⟩
    · cases he'
  have vcase : ∀ d x u y, VR H F h M (.v x) u → exportV h.get d (.v x) = some y → VC H (fun b => F b ∨ Of h M (borrowed h.get d (.v x)) b) y u := fun d x u y hv he => by
    obtain rfl := hv.v_inv
    by_cases hx : ∃ a c, u = .slice a 0 c
    · obtain ⟨a, c, rfl⟩ := hx
      simp only [exportV, Option.some.injEq] at he
      subst he
      exact .arr0
    · have : exportV h.get d (.v u) = some (.v u) := by
        unfold exportV
        split <;> simp_all
      rw [this] at he; injection he with he; subst he
      exact .v
  intro d
  induction d with
  | zero =>
    intro x u y hv e
    cases x with
    | v x => exact vcase _ _ _ _ hv e
    | arr n xs => simp only [exportV, Option.some.injEq] at e; subst e; exact hv.arr_inv.grow fun _ h => .inl h
    | ref xs off => simp only [exportV, Option.some.injEq] at e; subst e; exact hv.ref_inv.grow fun _ h => .inl h
    | own id off n ext =>
      cases hg : h.get id with
      | none => simp [exportV, hg] at e
      | some b =>
        cases b with
        | bx rw cells => simp [exportV, hg] at e
        | sl cl rw sz ee cells =>
          cases cl with
          | true => exact ownC _ _ _ _ _ _ _ hv _ _ _ _ hg e
          | false => simp [exportV, hg] at e
    | fn f a b =>
      cases a with
      | cons => cases b <;> simp [exportV] at e
      | nil =>
        cases b with
        | cons => simp [exportV] at e
        | nil =>
          simp only [exportV, Option.some.injEq] at e
          subst e
          obtain ⟨us, vs, rfl, l1, x1, l2, x2⟩ := hv.fn_inv
          exact .fn l1 (fun i x u h => by simp at h) l2 (fun i x u h => by simp at h)
    | _ => simp [exportV] at e
  | succ d ih =>
    intro x u y hv e
    have lists : ∀ {xs : List AV} {us : List Value} {ys : List AV} (G : Nat → Prop), (∀ b, F b ∨ Of h M ((xs.map (borrowed h.get d)).flatten) b → G b) → xs.length = us.length →
        (∀ (i : Nat) x u, xs[i]? = some x → us[i]? = some u → VR H F h M x u) → xs.mapM (exportV h.get d) = some ys →
        ys.length = us.length ∧ ∀ (i : Nat) y u, ys[i]? = some y → us[i]? = some u → VC H G y u := fun {xs us ys} G hG hl hx he => by
      obtain ⟨h1, h2⟩ := mapM_get he
      refine ⟨by omega, fun i y u hy hu => ?_⟩
      obtain ⟨x, hx1, hx2⟩ := h2 i y hy
      exact (ih x u y (hx i x u hx1 hu) hx2).grow fun b hb => hG b (hb.imp_right fun ⟨id, k, hi, hm⟩ => ⟨id, k, mem_flatten_map (List.mem_of_getElem? hx1) hi, hm⟩)
    cases x with
    | v x => exact vcase _ _ _ _ hv e
    | arr n xs => simp only [exportV, Option.some.injEq] at e; subst e; exact hv.arr_inv.grow fun _ h => .inl h
    | ref xs off => simp only [exportV, Option.some.injEq] at e; subst e; exact hv.ref_inv.grow fun _ h => .inl h
    | own id off n ext =>
      cases hg : h.get id with
      | none => simp [exportV, hg] at e
      | some b =>
        cases b with
        | bx rw cells => simp [exportV, hg] at e
        | sl cl rw sz ee cells =>
          cases cl with
          | true => exact ownC _ _ _ _ _ _ _ hv _ _ _ _ hg e
          | false =>
            simp only [exportV, hg, Option.bind_some] at e
            split at e
            · rename_i hee
              simp only [Option.bind_eq_some_iff, Option.some.injEq] at e
              obtain ⟨cs, e1, rfl⟩ := e
              subst hee
              obtain ⟨a, c, cl, rw', sz', e', cells', rfl, hg', hn, hle, ho⟩ := hv.own_inv
              rw [hg] at hg'
              injection hg' with hg'
              injection hg' with _ _ h1 h2 h3
              subst h1; subst h2; subst h3
              obtain ⟨hl, hr⟩ := hk.row _ _ hg
              obtain ⟨q1, q2⟩ := mapM_get e1
              refine own_arr ?_ (by omega) (ho rfl) hn fun b hb => .inr ⟨id, _, by simp [borrowed], hg, hb⟩
              rcases hr with h0 | ⟨b, cur, t, h1, h2, _, _, h5⟩
              · exact .inl h0
              · refine .inr ⟨b, cur, t, h1, h2, fun i x hx => ?_⟩
                obtain ⟨z, hz1, hz2⟩ := q2 i x hx
                obtain ⟨u, a1, _, a2⟩ := h5 i z hz1
                exact ⟨u, a1, (ih z u x (a2 rfl) hz2).grow fun b hb => hb.imp_right fun ⟨j, k, hj, hm⟩ => ⟨j, k, by
                  simp only [borrowed, hg, List.mem_cons]
                  exact .inr (mem_flatten_map (List.mem_of_getElem? hz1) hj), hm⟩⟩
            · cases e
    | ptr id off ext =>
      cases hg : h.get id with
      | none => simp [exportV, hg] at e
      | some blk =>
        cases blk with
        | sl cl rw sz ee cells => simp [exportV, hg] at e
        | bx rw cells =>
          simp only [exportV, hg, Option.bind_some] at e
          split at e
          · rename_i hee
            subst hee
            simp only [Option.bind_eq_some_iff, Option.some.injEq] at e
            obtain ⟨cs, e1, rfl⟩ := e
            obtain ⟨blk, hg', _, ho⟩ := hv.ptr_inv
            rw [hg] at hg'; injection hg' with hg'; subst hg'
            obtain ⟨b, hM, rfl⟩ := ho rfl
            obtain ⟨b', cur, t, h1, h2, _, _, _, h5⟩ := hk.row _ _ hg
            rw [hM] at h1; injection h1 with h1; subst h1
            obtain ⟨q1, q2⟩ := mapM_get e1
            obtain ⟨us, hR, hU, hX⟩ := row_piece (cells := cs) (R := VC H (fun b => F b ∨ Of h M (borrowed h.get (d + 1) (.ptr id off 0)) b)) h2 (fun i x hx => by
              obtain ⟨z, hz1, hz2⟩ := q2 i x hx
              obtain ⟨u, a1, a2⟩ := h5 i z hz1
              exact ⟨u, a1, (ih z u x a2 hz2).grow fun b hb => hb.imp_right fun ⟨j, k, hj, hm⟩ => ⟨j, k, by
                simp only [borrowed, hg, List.mem_cons]
                exact .inr (mem_flatten_map (List.mem_of_getElem? hz1) hj), hm⟩⟩) 0 cs.length
            simp only [List.drop_zero, List.take_length] at hU hX
            have hr := VC.ref (off := off) (F := fun b => F b ∨ Of h M (borrowed h.get (d + 1) (.ptr id off 0)) b) (Or.inr ⟨id, _, by simp [borrowed], hg, hM⟩) hR hU hX
            simpa using hr
          · cases e
    | fn f a b =>
      simp only [exportV, Option.bind_eq_some_iff, Option.some.injEq] at e
      obtain ⟨a', e1, b', e2, rfl⟩ := e
      obtain ⟨us, vs, rfl, l1, x1, l2, x2⟩ := hv.fn_inv
      obtain ⟨m1, y1⟩ := lists (fun c => F c ∨ Of h M (borrowed h.get (d + 1) (.fn f a b)) c) (fun c hc => hc.imp_right fun ⟨i, k, hi, hm⟩ => ⟨i, k, by simp only [borrowed]; exact List.mem_append_left _ hi, hm⟩) l1 x1 e1
      obtain ⟨m2, y2⟩ := lists (fun c => F c ∨ Of h M (borrowed h.get (d + 1) (.fn f a b)) c) (fun c hc => hc.imp_right fun ⟨i, k, hi, hm⟩ => ⟨i, k, by simp only [borrowed]; exact List.mem_append_right _ hi, hm⟩) l2 x2 e2
      exact .fn m1 y1 m2 y2
    | agg xs =>
      simp only [exportV, Option.bind_eq_some_iff, Option.some.injEq] at e
      obtain ⟨a', e1, rfl⟩ := e
      obtain ⟨us, rfl, l1, x1⟩ := hv.agg_inv
      obtain ⟨m1, y1⟩ := lists (fun c => F c ∨ Of h M (borrowed h.get (d + 1) (.agg xs)) c) (fun c hc => by simpa only [borrowed] using hc) l1 x1 e1
      exact .agg m1 y1
    | tuple xs =>
      simp only [exportV, Option.bind_eq_some_iff, Option.some.injEq] at e
      obtain ⟨a', e1, rfl⟩ := e
      obtain ⟨us, rfl, l1, x1⟩ := hv.tuple_inv
      obtain ⟨m1, y1⟩ := lists (fun c => F c ∨ Of h M (borrowed h.get (d + 1) (.tuple xs)) c) (fun c hc => by simpa only [borrowed] using hc) l1 x1 e1
      exact .tuple m1 y1
    | fresh sz n xs => simp [exportV] at e
    | freshO sz n xs => simp [exportV] at e
    | newbx xs => simp [exportV] at e
theorem Held.freeze {H : Array Obj} {M : Id → Option Nat} {id : Id} (b : Blk) : Held H H M M id b b.freeze := by
  refine ⟨fun cl rw sz e cs he => ?_, ?_, fun _ => ⟨rfl, fun _ _ => rfl⟩⟩
  · subst he; exact ⟨_, _, _, _, rfl, Nat.le_refl _⟩
  · cases b <;> simp [Blk.freeze, Blk.ext]
structure Frz (h : Heap) (h' : Heap) : Prop where
  fwd : ∀ id x, h.get id = some x → h'.get id = some x ∨ h'.get id = some x.freeze
  bwd : ∀ id y, h'.get id = some y → ∃ x, h.get id = some x ∧ (y = x ∨ y = x.freeze)
theorem freeze_freeze (b : Blk) : b.freeze.freeze = b.freeze := by cases b <;> rfl
theorem Frz.refl (h : Heap) : Frz h h := ⟨fun _ _ e => .inl e, fun _ y e => ⟨y, e, .inl rfl⟩⟩
theorem Frz.trans {h h1 h2 : Heap} (a : Frz h h1) (b : Frz h1 h2) : Frz h h2 := by
  refine ⟨fun id x e => ?_, fun id y e => ?_⟩
  · rcases a.fwd id x e with e1 | e1
    · exact b.fwd id x e1
    · rcases b.fwd id _ e1 with e2 | e2
      · exact .inr e2
      · exact .inr (by rw [freeze_freeze] at e2; exact e2)
  · obtain ⟨x, e1, h1⟩ := b.bwd id y e
    obtain ⟨z, e2, h2⟩ := a.bwd id x e1
    refine ⟨z, e2, ?_⟩
    rcases h1 with rfl | rfl <;> rcases h2 with rfl | rfl <;> simp [freeze_freeze]
theorem Frz.held {H : Array Obj} {h h' : Heap} {M : Id → Option Nat} (a : Frz h h') : ∀ id x, h.get id = some x → ∃ y, h'.get id = some y ∧ Held H H M M id x y := fun id x e => by
  rcases a.fwd id x e with e1 | e1
  · exact ⟨x, e1, Held.refl rfl fun _ _ => rfl⟩
  · exact ⟨_, e1, Held.freeze x⟩
theorem HOK.freeze1 {H : Array Obj} {F : Nat → Prop} {h : Heap} {M : Id → Option Nat} (hk : HOK H F h M) {k : Id} {b : Blk} (hb : h.get k = some b) :
    HOK H (fun c => F c ∨ M k = some c) (h.set k b.freeze) M ∧ Frz h (h.set k b.freeze) := by
  have hfr : Frz h (h.set k b.freeze) := by
    refine ⟨fun id x e => ?_, fun id y e => ?_⟩
    · rw [get_set]
      by_cases he : id = k
      · subst he; rw [hb] at e; injection e with e; subst e; exact .inr (by simp)
      · exact .inl (by simp [he, e])
    · rw [get_set] at e
      by_cases he : id = k
      · subst he; simp at e; exact ⟨b, hb, .inr e.symm⟩
      · simp [he] at e; exact ⟨y, e, .inl rfl⟩
  refine ⟨⟨fun id x hg => ?_, fun id id' x x' c g1 g2 m1 m2 => ?_, fun c hc => ?_⟩, hfr⟩
  · obtain ⟨x0, hx0, hor⟩ := hfr.bwd id x hg
    have hr := hk.row id x0 hx0
    by_cases he : id = k
    · subst he
      rw [get_set_same] at hg
      injection hg with hg
      subst hg
      rw [hb] at hx0; injection hx0 with hx0; subst hx0
      cases b with
      | sl cl rw sz e cells =>
        obtain ⟨hl, hr⟩ := hr
        refine ⟨hl, ?_⟩
        rcases hr with h0 | ⟨b, cur, t, h1, h2, h3, h4, h5⟩
        · exact .inl h0
        · exact .inr ⟨b, cur, t, h1, h2, (fun h => by cases h), fun _ => .inr h1, fun i x hx => let ⟨u, a1, a2, a3⟩ := h5 i x hx;
            ⟨u, a1, fun e => (a2 e).grow fun _ h => .inl h, fun e => (a3 e).keep (fun _ h => .inl h) (fun _ _ => rfl) hfr.held⟩⟩
      | bx rw cells =>
        obtain ⟨b, cur, t, h1, h2, hl, h3, h4, h5⟩ := hr
        exact ⟨b, cur, t, h1, h2, hl, (fun h => by cases h), fun _ => .inr h1, fun i x hx => let ⟨u, a1, a2⟩ := h5 i x hx;
          ⟨u, a1, a2.keep (fun _ h => .inl h) (fun _ _ => rfl) hfr.held⟩⟩
    · rw [get_set_ne _ _ _ _ he] at hg
      rw [hg] at hx0; injection hx0 with hx0; subst hx0
      refine hr.keep (fun _ h => .inl h) (fun _ _ => rfl) hfr.held rfl fun c hc => ⟨rfl, fun _ h => ?_⟩
      rcases h with h | h
      · exact h
      · exact absurd (hk.inj _ _ _ _ _ hg hb hc h) he
  · obtain ⟨x0, hx0, _⟩ := hfr.bwd _ _ g1
    obtain ⟨x1, hx1, _⟩ := hfr.bwd _ _ g2
    exact hk.inj _ _ _ _ _ hx0 hx1 m1 m2
  · rcases hc with hc | hc
    · exact hk.fb c hc
    · have hr := hk.row k b hb
      cases b with
      | sl cl rw sz e cells =>
        obtain ⟨_, hr⟩ := hr
        rcases hr with ⟨_, h0⟩ | ⟨b, cur, t, h1, h2, _⟩
        · rw [h0] at hc; cases hc
        · rw [h1] at hc; injection hc with hc; subst hc; exact (Array.getElem?_eq_some_iff.1 h2).1
      | bx rw cells =>
        obtain ⟨b, cur, t, h1, h2, _⟩ := hr
        rw [h1] at hc; injection hc with hc; subst hc; exact (Array.getElem?_eq_some_iff.1 h2).1
theorem HOK.congrF {H : Array Obj} {F F' : Nat → Prop} {h : Heap} {M : Id → Option Nat} (hk : HOK H F h M) (hF : ∀ b, F b ↔ F' b) : HOK H F' h M := by
  have : F = F' := funext fun b => propext (hF b)
  exact this ▸ hk
theorem freezeAll_ok {H : Array Obj} {M : Id → Option Nat} : ∀ (is : List Id) {F : Nat → Prop} {h : Heap}, HOK H F h M →
    HOK H (fun c => F c ∨ Of h M is c) (freezeAll h is) M ∧ Frz h (freezeAll h is)
  | [], F, h, hk => ⟨hk.congrF fun b => ⟨.inl, fun h => h.elim id fun ⟨i, _, hi, _⟩ => by cases hi⟩, Frz.refl h⟩
  | i :: is, F, h, hk => by
    unfold freezeAll
    cases hg : Heap.get h i with
    | none =>
      obtain ⟨k1, f1⟩ := freezeAll_ok is hk
      refine ⟨k1.congrF fun b => ⟨fun h => h.imp_right fun ⟨j, y, hj, e1, e2⟩ => ⟨j, y, List.mem_cons_of_mem _ hj, e1, e2⟩, fun h => h.imp_right fun ⟨j, y, hj, e1, e2⟩ => ?_⟩, f1⟩
      rcases List.mem_cons.1 hj with rfl | hj
      · rw [hg] at e1; cases e1
      · exact ⟨j, y, hj, e1, e2⟩
    | some b =>
      obtain ⟨k0, f0⟩ := hk.freeze1 hg
      obtain ⟨k1, f1⟩ := freezeAll_ok is k0
      refine ⟨k1.congrF fun c => ⟨fun h => ?_, fun h => ?_⟩, f0.trans f1⟩
      · rcases h with (h | h) | ⟨j, y, hj, e1, e2⟩
        · exact .inl h
        · exact .inr ⟨i, b, by simp, hg, h⟩
        · obtain ⟨x, hx, _⟩ := f0.bwd _ _ e1
          exact .inr ⟨j, x, List.mem_cons_of_mem _ hj, hx, e2⟩
      · rcases h with h | ⟨j, y, hj, e1, e2⟩
        · exact .inl (.inl h)
        · rcases List.mem_cons.1 hj with rfl | hj
          · exact .inl (.inr e2)
          · obtain ⟨z, hz, _⟩ := f0.held (H := H) (M := M) _ _ e1
            exact .inr ⟨j, z, hj, hz, e2⟩
end Go.Av
