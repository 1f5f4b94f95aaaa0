/- What the interpreter's data have to do with the model's memory; what stays when memory grows. Conditions: none. -/
import Derived.Test.YtebfneaimafcoaaGreatEv
namespace Go.Av
def rowSize (H : Array Obj) (b : Nat) : Option Nat :=
  match H[b]? with
  | some (.cells cur _ _) => some cur.size
  | _ => none
def Row (H : Array Obj) (b o : Nat) (us : List Value) : Prop :=
  ∃ cur e fz, H[b]? = some (.cells cur e fz) ∧ ∀ i u, us[i]? = some u → cur[o + i]? = some u
inductive VC (H : Array Obj) (F : Nat → Prop) : AV → Value → Prop
  | v {x} : VC H F (.v x) x
  | arr0 {a c} : VC H F (.arr 0 []) (.slice a 0 c)
  | arr {n xs b o c us} (hc : n ≤ c) (hF : F b) (hr : Row H b o us) (hl : xs.length = us.length)
      (hx : ∀ (i : Nat) x u, xs[i]? = some x → us[i]? = some u → VC H F x u) : VC H F (.arr n xs) (.slice (some ⟨b, o, none⟩) n c)
  | ref {xs off b o us} (hF : F b) (hr : Row H b o us) (hl : xs.length = us.length)
      (hx : ∀ (i : Nat) x u, xs[i]? = some x → us[i]? = some u → VC H F x u) : VC H F (.ref xs off) (.pointer (some ⟨b, o + off, none⟩))
  | fn {f first cap us vs} (h1 : first.length = us.length) (h2 : ∀ (i : Nat) x u, first[i]? = some x → us[i]? = some u → VC H F x u)
      (h3 : cap.length = vs.length) (h4 : ∀ (i : Nat) x u, cap[i]? = some x → vs[i]? = some u → VC H F x u) : VC H F (.fn f first cap) (.func (.func f) ⟨us⟩ ⟨vs⟩)
  | agg {xs us} (hl : xs.length = us.length) (hx : ∀ (i : Nat) x u, xs[i]? = some x → us[i]? = some u → VC H F x u) : VC H F (.agg xs) (.agg ⟨us⟩)
  | tuple {xs us} (hl : xs.length = us.length) (hx : ∀ (i : Nat) x u, xs[i]? = some x → us[i]? = some u → VC H F x u) : VC H F (.tuple xs) (.tuple ⟨us⟩)
def OwnAt (H : Array Obj) (M : Id → Option Nat) (id : Id) (off n ext sz : Nat) (a : Option Addr) (c : Nat) : Prop :=
  ext * sz ≤ off + c * sz ∧ ((n = 0 ∧ c = 0) ∨ ∃ b S, M id = some b ∧ a = some ⟨b, off, none⟩ ∧ rowSize H b = some S ∧ off + c * sz ≤ S)
inductive VR (H : Array Obj) (F : Nat → Prop) (h : Heap) (M : Id → Option Nat) : AV → Value → Prop
  | c {x u} (hc : VC H F x u) : VR H F h M x u
  | own {id off n ext a c cl rw sz e cells} (hg : h.get id = some (.sl cl rw sz e cells)) (hn : n ≤ c) (hle : ext ≤ e) (ho : e = ext → OwnAt H M id off n ext sz a c) :
      VR H F h M (.own id off n ext) (.slice a n c)
  | ptr {id off ext blk a} (hg : h.get id = some blk) (hle : ext ≤ blk.ext) (ho : blk.ext = ext → ∃ b, M id = some b ∧ a = some ⟨b, off, none⟩) : VR H F h M (.ptr id off ext) (.pointer a)
  | fn {f first cap us vs} (h1 : first.length = us.length) (h2 : ∀ (i : Nat) x u, first[i]? = some x → us[i]? = some u → VR H F h M x u)
      (h3 : cap.length = vs.length) (h4 : ∀ (i : Nat) x u, cap[i]? = some x → vs[i]? = some u → VR H F h M x u) : VR H F h M (.fn f first cap) (.func (.func f) ⟨us⟩ ⟨vs⟩)
  | agg {xs us} (hl : xs.length = us.length) (hx : ∀ (i : Nat) x u, xs[i]? = some x → us[i]? = some u → VR H F h M x u) : VR H F h M (.agg xs) (.agg ⟨us⟩)
  | tuple {xs us} (hl : xs.length = us.length) (hx : ∀ (i : Nat) x u, xs[i]? = some x → us[i]? = some u → VR H F h M x u) : VR H F h M (.tuple xs) (.tuple ⟨us⟩)
def RowOK (H : Array Obj) (F : Nat → Prop) (h : Heap) (M : Id → Option Nat) (id : Id) : Blk → Prop
  | .sl cl rw sz ext cells => cells.length = ext * sz ∧ ((ext = 0 ∧ M id = none) ∨ ∃ b cur e, M id = some b ∧ H[b]? = some (.cells cur e (0, 0)) ∧
      (rw = true → ¬ F b) ∧ (rw = false → F b) ∧ ∀ (i : Nat) x, cells[i]? = some x → ∃ u, cur[i]? = some u ∧ (cl = true → VC H F x u) ∧ (cl = false → VR H F h M x u))
  | .bx rw cells => ∃ b cur e, M id = some b ∧ H[b]? = some (.cells cur e (0, 0)) ∧ cells.length = cur.size ∧
      (rw = true → ¬ F b) ∧ (rw = false → F b) ∧ ∀ (i : Nat) x, cells[i]? = some x → ∃ u, cur[i]? = some u ∧ VR H F h M x u
structure HOK (H : Array Obj) (F : Nat → Prop) (h : Heap) (M : Id → Option Nat) : Prop where
  row : ∀ id blk, h.get id = some blk → RowOK H F h M id blk
  inj : ∀ id id' blk blk' b, h.get id = some blk → h.get id' = some blk' → M id = some b → M id' = some b → id = id'
  fb : ∀ b, F b → b < H.size
theorem get_set_same : ∀ (h : Heap) (k : Id) (y : Blk), (h.set k y).get k = some y
  | [], k, y => by simp [Heap.set, Heap.get]
  | (j, x) :: h, k, y => by
    by_cases e : j = k
    · simp [Heap.set, Heap.get, e]
    · simp [Heap.set, Heap.get, e, get_set_same h k y]
theorem get_set_ne : ∀ (h : Heap) (k i : Id) (y : Blk), i ≠ k → (h.set k y).get i = h.get i
  | [], k, i, y, hn => by simp [Heap.set, Heap.get, Ne.symm hn]
  | (j, x) :: h, k, i, y, hn => by
    by_cases e : j = k
    · subst e; simp [Heap.set, Heap.get, Ne.symm hn]
    · by_cases e2 : j = i
      · simp only [Heap.set, if_neg e]; simp [Heap.get, e2]
      · simp [Heap.set, Heap.get, e, e2, get_set_ne h k i y hn]
theorem get_set (h : Heap) (k i : Id) (y : Blk) : (h.set k y).get i = if i = k then some y else h.get i := by
  by_cases e : i = k
  · subst e; simp [get_set_same]
  · simp [e, get_set_ne h k i y e]
theorem new_some {h h' : Heap} {k : Id} {y : Blk} (e : h.new k y = some h') : h.get k = none ∧ h' = h.set k y := by
  unfold Heap.new at e
  split at e
  · injection e with e; exact ⟨by assumption, e.symm⟩
  · cases e
theorem envGet_set_same : ∀ (e : Env) (k : Nat) (y : AV), (e.set k y).get k = some y
  | [], k, y => by simp [Env.set, Env.get]
  | (j, x) :: e, k, y => by
    unfold Env.set
    split
    · rename_i h; simp [Env.get, h]
    · rename_i h
      split
      · simp [Env.get]
      · simp [Env.get, h, envGet_set_same e k y]
theorem envGet_set_ne : ∀ (e : Env) (k i : Nat) (y : AV), i ≠ k → (e.set k y).get i = e.get i
  | [], k, i, y, hn => by simp [Env.set, Env.get, Ne.symm hn]
  | (j, x) :: e, k, i, y, hn => by
    unfold Env.set
    split
    · rename_i h; subst h; simp [Env.get, Ne.symm hn]
    · split
      · simp [Env.get, Ne.symm hn]
      · by_cases e2 : j = i
        · simp [Env.get, e2]
        · simp [Env.get, e2, envGet_set_ne e k i y hn]
theorem all2_get {α β : Type} {R : α → β → Prop} {xs : List α} {us : List β} (hl : xs.length = us.length) (h : ∀ (i : Nat) x u, xs[i]? = some x → us[i]? = some u → R x u)
    {i : Nat} {x : α} (hx : xs[i]? = some x) : ∃ u, us[i]? = some u ∧ R x u := by
  have hi : i < xs.length := (List.getElem?_eq_some_iff.1 hx).1
  have : us[i]? = some us[i] := List.getElem?_eq_getElem (by omega)
  exact ⟨_, this, h i _ _ hx this⟩
theorem Row.keep {H H' : Array Obj} {b o : Nat} {us : List Value} (h : Row H b o us) (hk : H'[b]? = H[b]?) : Row H' b o us := by
  obtain ⟨cur, e, fz, h1, h2⟩ := h
  exact ⟨cur, e, fz, hk.trans h1, h2⟩
theorem VC.keep {H H' : Array Obj} {F F' : Nat → Prop} (hF : ∀ b, F b → F' b) (hk : ∀ b, F b → H'[b]? = H[b]?) {x : AV} {u : Value} (h : VC H F x u) : VC H' F' x u := by
  induction h with
  | v => exact .v
  | arr0 => exact .arr0
  | arr hc hf hr hl _ ih => exact .arr hc (hF _ hf) (hr.keep (hk _ hf)) hl ih
  | ref hf hr hl _ ih => exact .ref (hF _ hf) (hr.keep (hk _ hf)) hl ih
  | fn h1 _ h3 _ i1 i2 => exact .fn h1 i1 h3 i2
  | agg hl _ ih => exact .agg hl ih
  | tuple hl _ ih => exact .tuple hl ih
structure Held (H H' : Array Obj) (M M' : Id → Option Nat) (id : Id) (x y : Blk) : Prop where
  sl : ∀ cl rw sz e cs, x = .sl cl rw sz e cs → ∃ cl' rw' e' cs', y = .sl cl' rw' sz e' cs' ∧ e ≤ e'
  ext : x.ext ≤ y.ext
  same : x.ext = y.ext → M' id = M id ∧ ∀ b, M id = some b → rowSize H' b = rowSize H b
theorem VR.keep {H H' : Array Obj} {F F' : Nat → Prop} {h h' : Heap} {M M' : Id → Option Nat} (hF : ∀ b, F b → F' b) (hk : ∀ b, F b → H'[b]? = H[b]?)
    (hh : ∀ id x, h.get id = some x → ∃ y, h'.get id = some y ∧ Held H H' M M' id x y) {x : AV} {u : Value} (hv : VR H F h M x u) : VR H' F' h' M' x u := by
  induction hv with
  | c hc => exact .c (hc.keep hF hk)
  | @own id off n ext a c cl rw sz e cells hg hn hle ho =>
    obtain ⟨y, hy, hd⟩ := hh _ _ hg
    obtain ⟨cl', rw', e', cs', rfl, hle'⟩ := hd.sl _ _ _ _ _ rfl
    refine .own hy hn (by omega) fun he => ?_
    obtain rfl : e = ext := by omega
    obtain ⟨hM, hS⟩ := hd.same (by simp only [Blk.ext]; omega)
    obtain ⟨hx, ho⟩ := ho rfl
    refine ⟨hx, ?_⟩
    rcases ho with h0 | ⟨b, S, h1, h2, h3, h4⟩
    · exact .inl h0
    · exact .inr ⟨b, S, hM.trans h1, h2, (hS b h1).trans h3, h4⟩
  | @ptr id off ext blk a hg hle ho =>
    obtain ⟨y, hy, hd⟩ := hh _ _ hg
    have hx := hd.ext
    refine .ptr hy (by omega) fun he => ?_
    obtain ⟨hM, _⟩ := hd.same (by omega)
    obtain ⟨b, h1, h2⟩ := ho (by omega)
    exact ⟨b, hM.trans h1, h2⟩
  | fn h1 _ h3 _ i1 i2 => exact .fn h1 i1 h3 i2
  | agg hl _ ih => exact .agg hl ih
  | tuple hl _ ih => exact .tuple hl ih
theorem RowOK.keep {H H' : Array Obj} {F F' : Nat → Prop} {h h' : Heap} {M M' : Id → Option Nat} (hF : ∀ b, F b → F' b) (hk : ∀ b, F b → H'[b]? = H[b]?)
    (hh : ∀ id x, h.get id = some x → ∃ y, h'.get id = some y ∧ Held H H' M M' id x y) {id : Id} {blk : Blk} (hr : RowOK H F h M id blk)
    (hM : M' id = M id) (hb : ∀ b, M id = some b → H'[b]? = H[b]? ∧ (blk.rw = true → F' b → F b)) : RowOK H' F' h' M' id blk := by
  cases blk with
  | sl cl rw sz ext cells =>
    obtain ⟨hl, hr⟩ := hr
    refine ⟨hl, ?_⟩
    rcases hr with ⟨h0, h1⟩ | ⟨b, cur, e, h1, h2, h3, h4, h5⟩
    · exact .inl ⟨h0, hM.trans h1⟩
    · refine .inr ⟨b, cur, e, hM.trans h1, (hb b h1).1.trans h2, fun e1 e2 => h3 e1 ((hb b h1).2 e1 e2), fun e1 => hF _ (h4 e1), fun i x hx => ?_⟩
      obtain ⟨u, a1, a2, a3⟩ := h5 i x hx
      exact ⟨u, a1, fun e => (a2 e).keep hF hk, fun e => (a3 e).keep hF hk hh⟩
  | bx rw cells =>
    obtain ⟨b, cur, e, h1, h2, hl, h3, h4, h5⟩ := hr
    refine ⟨b, cur, e, hM.trans h1, (hb b h1).1.trans h2, hl, fun e1 e2 => h3 e1 ((hb b h1).2 e1 e2), fun e1 => hF _ (h4 e1), fun i x hx => ?_⟩
    obtain ⟨u, a1, a2⟩ := h5 i x hx
    exact ⟨u, a1, a2.keep hF hk hh⟩
theorem Held.refl {H H' : Array Obj} {M M' : Id → Option Nat} {id : Id} {x : Blk} (hM : M' id = M id) (hb : ∀ b, M id = some b → rowSize H' b = rowSize H b) : Held H H' M M' id x x :=
  ⟨fun _ _ _ _ _ e => ⟨_, _, _, _, e, Nat.le_refl _⟩, Nat.le_refl _, fun _ => ⟨hM, hb⟩⟩
theorem rowSize_of {H H' : Array Obj} {b : Nat} (h : H'[b]? = H[b]?) : rowSize H' b = rowSize H b := by unfold rowSize; rw [h]
mutual
inductive TR (H : Array Obj) (C R : AV → Value → Prop) : AV → Value → List Nat → Prop
  | base {x u} (h : R x u) : TR H C R x u []
  | nil {sz a} : TR H C R (.fresh sz 0 []) (.slice a 0 0) []
  | fresh {sz n xs b cur e c} (hb : H[b]? = some (.cells cur e (0, 0))) (hc : n ≤ c) (hs : c * sz ≤ cur.size) (hl : xs.length = n * sz)
      (hx : ∀ (i : Nat) x, xs[i]? = some x → ∃ u, cur[i]? = some u ∧ C x u) : TR H C R (.fresh sz n xs) (.slice (some ⟨b, 0, none⟩) n c) [b]
  | open_ {sz n xs b cur e c} (hb : H[b]? = some (.cells cur e (0, 0))) (hc : n ≤ c) (hs : c * sz ≤ cur.size) (hl : xs.length = n * sz)
      (hx : ∀ (i : Nat) x, xs[i]? = some x → ∃ u, cur[i]? = some u ∧ R x u) : TR H C R (.freshO sz n xs) (.slice (some ⟨b, 0, none⟩) n c) [b]
  | newbx {xs us b e bs} (hb : H[b]? = some (.cells ⟨us⟩ e (0, 0))) (hx : TRL H C R xs us bs) : TR H C R (.newbx xs) (.pointer (some ⟨b, 0, none⟩)) (b :: bs)
  | agg {xs us bs} (hx : TRL H C R xs us bs) : TR H C R (.agg xs) (.agg ⟨us⟩) bs
  | tuple {xs us bs} (hx : TRL H C R xs us bs) : TR H C R (.tuple xs) (.tuple ⟨us⟩) bs
inductive TRL (H : Array Obj) (C R : AV → Value → Prop) : List AV → List Value → List Nat → Prop
  | nil : TRL H C R [] [] []
  | cons {x xs u us bs bs'} (h : TR H C R x u bs) (hs : TRL H C R xs us bs') : TRL H C R (x :: xs) (u :: us) (bs ++ bs')
end
end Go.Av
