/- A quiet operation comes to the same whatever quiet operations came ahead of it. Conditions: none. -/
import Derived.Test.YteafmomjfnlkgaaGreatSf3
set_option linter.unusedVariables false
namespace Go.Av
def Compat (g g' : Id → Option Blk) : Prop := ∀ id b b', g id = some b → g' id = some b' → b = b'
section
variable {P : Program} {H : Array Obj} {F : Nat → Prop} {h : Heap} {M : Id → Option Nat} {g : Id → Option Blk}
theorem look_own (hc : Compat g h.get) {id : Id} {off n ext : Nat} {u : Value} (hv : VR H F h M (.own id off n ext) u) {b : Blk} (hg : g id = some b) : h.get id = some b := by
  obtain ⟨a, c, cl, rw', sz', e', cells', rfl, hg', _⟩ := hv.own_inv
  rw [hc id b _ hg hg']; exact hg'
theorem look_ptr (hc : Compat g h.get) {id : Id} {off ext : Nat} {u : Value} (hv : VR H F h M (.ptr id off ext) u) {b : Blk} (hg : g id = some b) : h.get id = some b := by
  obtain ⟨b', hg', _⟩ := hv.ptr_inv
  rw [hc id b _ hg hg']; exact hg'
theorem aload_c (hc : Compat g h.get) {t : TypeId} {x y : AV} {u : Value} (hv : VR H F h M x u) (e : aload P g t x = some y) : aload P h.get t x = some y := by
  unfold aload at e ⊢
  split at e
  · simp only [Option.bind_eq_some_iff] at e ⊢
    obtain ⟨b, hg, e⟩ := e
    exact ⟨b, look_ptr hc hv hg, e⟩
  · exact e
  · cases e
theorem live_c (hc : Compat g h.get) {id : Id} {off ext : Nat} {u : Value} (hv : VR H F h M (.ptr id off ext) u) (e : live g id ext = true) : live h.get id ext = true := by
  obtain ⟨b, hg, hb⟩ := live_some e
  unfold live
  rw [look_ptr hc hv hg]
  simpa using hb
theorem afield_c (hc : Compat g h.get) {s : TypeId} {i : Nat} {x y : AV} {u : Value} (hv : VR H F h M x u) (e : afield P s g x i = some y) : afield P s h.get x i = some y := by
  unfold afield at e ⊢
  simp only [Option.bind_eq_some_iff] at e ⊢
  obtain ⟨p, hp, e⟩ := e
  refine ⟨p, hp, ?_⟩
  split at e
  · cases e
  · rename_i h0
    rw [if_neg h0]
    split at e
    · split at e
      · rename_i hl; rw [if_pos (live_c hc hv hl)]; exact e
      · cases e
    · exact e
    · cases e
theorem aindexAddr_c (hc : Compat g h.get) {t : TypeId} {i : Int} {x y : AV} {u : Value} (hv : VR H F h M x u) (e : aindexAddr P t g x i = some y) : aindexAddr P t h.get x i = some y := by
  unfold aindexAddr at e ⊢
  simp only [Option.bind_eq_some_iff] at e ⊢
  obtain ⟨tv, htv, e⟩ := e
  refine ⟨tv, htv, ?_⟩
  split at e
  · exact e
  · simp only [Option.bind_eq_some_iff] at e ⊢
    obtain ⟨b, hg, e⟩ := e
    exact ⟨b, look_own hc hv hg, e⟩
  · split at e
    · rename_i hl; rw [if_pos ⟨live_c hc hv hl.1, hl.2⟩]; exact e
    · cases e
  · exact e
  · cases e
theorem aslice_c (hc : Compat g h.get) {t : TypeId} {lo hi : Option AV} {x y : AV} {u : Value} (hv : VR H F h M x u) (e : aslice P t g x lo hi = some y) : aslice P t h.get x lo hi = some y := by
  unfold aslice at e ⊢
  simp only [Option.bind_eq_some_iff] at e ⊢
  obtain ⟨tv, htv, e⟩ := e
  refine ⟨tv, htv, ?_⟩
  split at e
  · exact e
  · simp only [Option.bind_eq_some_iff] at e ⊢
    obtain ⟨b, hg, e⟩ := e
    exact ⟨b, look_own hc hv hg, e⟩
  · exact e
  · cases e
theorem mapM_of {α β : Type} {f f' : α → Option β} : ∀ {l : List α} {ys : List β}, l.mapM f = some ys → (∀ x ∈ l, ∀ y, f x = some y → f' x = some y) → l.mapM f' = some ys
  | [], ys, h, _ => by rw [mapM_nil] at h ⊢; exact h
  | a :: l, ys, h, hf => by
    rw [mapM_cons, Option.bind_eq_some_iff] at h
    obtain ⟨b, h1, h⟩ := h
    rw [Option.bind_eq_some_iff] at h
    obtain ⟨bs, h2, h⟩ := h
    rw [mapM_cons, hf a (by simp) b h1, Option.bind_some, mapM_of h2 fun x hx => hf x (by simp [hx]), Option.bind_some]
    exact h
theorem mapM_mem {α β : Type} {f : α → Option β} : ∀ {l : List α} {ys : List β}, l.mapM f = some ys → ∀ x ∈ l, ∃ y, f x = some y
  | [], ys, h, x, hx => by cases hx
  | a :: l, ys, h, x, hx => by
    rw [mapM_cons, Option.bind_eq_some_iff] at h
    obtain ⟨b, h1, h⟩ := h
    rw [Option.bind_eq_some_iff] at h
    obtain ⟨bs, h2, h⟩ := h
    rcases List.mem_cons.1 hx with rfl | hx
    · exact ⟨b, h1⟩
    · exact mapM_mem h2 x hx
theorem exportV_v {g g' : Id → Option Blk} (d : Nat) (x : Value) : exportV g d (.v x) = exportV g' d (.v x) ∧ borrowed g d (.v x) = borrowed g' d (.v x) := by
  refine ⟨?_, by cases d <;> rfl⟩
  cases d <;> cases x <;> first | rfl | (rename_i a n c; cases a <;> cases n <;> rfl)
theorem exportV_c (hk : HOK H F h M) (hc : Compat g h.get) : ∀ d x u y, VR H F h M x u → exportV g d x = some y → exportV h.get d x = some y ∧ borrowed g d x = borrowed h.get d x := by
  intro d
  have lists : ∀ d, (∀ x u y, VR H F h M x u → exportV g d x = some y → exportV h.get d x = some y ∧ borrowed g d x = borrowed h.get d x) → ∀ (xs ys : List AV), (∀ x ∈ xs, ∃ u, VR H F h M x u) → xs.mapM (exportV g d) = some ys →
      xs.mapM (exportV h.get d) = some ys ∧ xs.map (borrowed g d) = xs.map (borrowed h.get d) := fun d ih xs ys hx hm => by
    refine ⟨mapM_of hm fun x hxm y hy => let ⟨u, hu⟩ := hx x hxm; (ih x u y hu hy).1, List.map_congr_left fun x hxm => ?_⟩
    obtain ⟨u, hu⟩ := hx x hxm
    obtain ⟨y, hy⟩ := mapM_mem hm x hxm
    exact (ih x u y hu hy).2
  have ownC : ∀ d id off n ext u y, VR H F h M (.own id off n ext) u → ∀ rw sz e cells, g id = some (.sl true rw sz e cells) → exportV g d (.own id off n ext) = some y →
      exportV h.get d (.own id off n ext) = some y ∧ borrowed g d (.own id off n ext) = borrowed h.get d (.own id off n ext) := fun d id off n ext u y hv rw sz e cells hg he => by
    have hg' := look_own hc hv hg
    cases d with
    | zero => exact ⟨by simpa only [exportV, hg, hg'] using he, by simp only [borrowed]⟩
    | succ d => exact ⟨by simpa only [exportV, hg, hg', Option.bind_some] using he, by simp only [borrowed, hg, hg']⟩
  have vcase : ∀ d x, exportV g d (.v x) = exportV h.get d (.v x) ∧ borrowed g d (.v x) = borrowed h.get d (.v x) := fun d x => exportV_v d x
  induction d with
  | zero =>
    intro x u y hv e
    cases x with
    | v x => exact ⟨(vcase 0 x).1 ▸ e, (vcase 0 x).2⟩
    | arr n xs => exact ⟨by simpa only [exportV] using e, rfl⟩
    | ref xs off => exact ⟨by simpa only [exportV] using e, rfl⟩
    | own id off n ext =>
      cases hg : g id with
      | none => simp [exportV, hg] at e
      | some b =>
        cases b with
        | bx rw cells => simp [exportV, hg] at e
        | sl cl rw sz ee cells =>
          cases cl with
          | true => exact ownC _ _ _ _ _ _ _ hv _ _ _ _ hg e
          | false => simp [exportV, hg] at e
    | fn f a b =>
      cases a with
      | cons => cases b <;> simp [exportV] at e
      | nil => cases b with
        | cons => simp [exportV] at e
        | nil => exact ⟨by simpa only [exportV] using e, rfl⟩
    | _ => simp [exportV] at e
  | succ d ih =>
    intro x u y hv e
    cases x with
    | v x => exact ⟨(vcase (d + 1) x).1 ▸ e, (vcase (d + 1) x).2⟩
    | arr n xs => exact ⟨by simpa only [exportV] using e, rfl⟩
    | ref xs off => exact ⟨by simpa only [exportV] using e, rfl⟩
    | own id off n ext =>
      cases hg : g id with
      | none => simp [exportV, hg] at e
      | some b =>
        cases b with
        | bx rw cells => simp [exportV, hg] at e
        | sl cl rw sz ee cells =>
          cases cl with
          | true => exact ownC _ _ _ _ _ _ _ hv _ _ _ _ hg e
          | false =>
            have hg' := look_own hc hv hg
            simp only [exportV, hg, Option.bind_some] at e
            split at e
            · rename_i hee
              simp only [Option.bind_eq_some_iff] at e
              obtain ⟨cs, e1, e2⟩ := e
              obtain ⟨hl, hr⟩ := hk.row _ _ hg'
              obtain ⟨q1, q2⟩ := lists d ih cells cs (fun x hx => by
                obtain ⟨i, hi⟩ := List.getElem?_of_mem hx
                rcases hr with ⟨rfl, _⟩ | ⟨b, cur, t, _, _, _, _, h5⟩
                · simp at hl; subst hl; cases hx
                · obtain ⟨u, _, _, a2⟩ := h5 i x hi; exact ⟨u, a2 rfl⟩) e1
              refine ⟨?_, by simp only [borrowed, hg, hg', q2]⟩
              simp only [exportV, hg', Option.bind_some, if_pos hee, q1]
              exact e2
            · cases e
    | ptr id off ext =>
      cases hg : g id with
      | none => simp [exportV, hg] at e
      | some blk =>
        have hg' := look_ptr hc hv hg
        cases blk with
        | sl cl rw sz ee cells => simp [exportV, hg] at e
        | bx rw cells =>
          simp only [exportV, hg, Option.bind_some] at e
          split at e
          · rename_i hee
            simp only [Option.bind_eq_some_iff] at e
            obtain ⟨cs, e1, e2⟩ := e
            obtain ⟨b, cur, t, _, _, _, _, _, h5⟩ := hk.row _ _ hg'
            obtain ⟨q1, q2⟩ := lists d ih cells cs (fun x hx => by
              obtain ⟨i, hi⟩ := List.getElem?_of_mem hx
              obtain ⟨u, _, a2⟩ := h5 i x hi; exact ⟨u, a2⟩) e1
            refine ⟨?_, by simp only [borrowed, hg, hg', q2]⟩
            simp only [exportV, hg', Option.bind_some, if_pos hee, q1]
            exact e2
          · cases e
    | fn f a b =>
      obtain ⟨us, vs, rfl, l1, x1, l2, x2⟩ := hv.fn_inv
      simp only [exportV, Option.bind_eq_some_iff] at e
      obtain ⟨a', e1, b', e2, e3⟩ := e
      obtain ⟨q1, q2⟩ := lists d ih a a' (fun x hx => by
        obtain ⟨i, hi⟩ := List.getElem?_of_mem hx
        obtain ⟨u, _, hu⟩ := all2_get l1 x1 hi; exact ⟨u, hu⟩) e1
      obtain ⟨q3, q4⟩ := lists d ih b b' (fun x hx => by
        obtain ⟨i, hi⟩ := List.getElem?_of_mem hx
        obtain ⟨u, _, hu⟩ := all2_get l2 x2 hi; exact ⟨u, hu⟩) e2
      refine ⟨?_, by simp only [borrowed, q2, q4]⟩
      simp only [exportV, q1, q3, Option.bind_some]
      exact e3
    | agg xs =>
      obtain ⟨us, rfl, hl, hx⟩ := hv.agg_inv
      simp only [exportV, Option.bind_eq_some_iff] at e
      obtain ⟨a', e1, e3⟩ := e
      obtain ⟨q1, q2⟩ := lists d ih xs a' (fun x hxm => by
        obtain ⟨i, hi⟩ := List.getElem?_of_mem hxm
        obtain ⟨u, _, hu⟩ := all2_get hl hx hi; exact ⟨u, hu⟩) e1
      refine ⟨?_, by simp only [borrowed, q2]⟩
      simp only [exportV, q1, Option.bind_some]
      exact e3
    | tuple xs =>
      obtain ⟨us, rfl, hl, hx⟩ := hv.tuple_inv
      simp only [exportV, Option.bind_eq_some_iff] at e
      obtain ⟨a', e1, e3⟩ := e
      obtain ⟨q1, q2⟩ := lists d ih xs a' (fun x hxm => by
        obtain ⟨i, hi⟩ := List.getElem?_of_mem hxm
        obtain ⟨u, _, hu⟩ := all2_get hl hx hi; exact ⟨u, hu⟩) e1
      refine ⟨?_, by simp only [borrowed, q2]⟩
      simp only [exportV, q1, Option.bind_some]
      exact e3
    | fresh sz n xs => simp [exportV] at e
    | freshO sz n xs => simp [exportV] at e
    | newbx xs => simp [exportV] at e
end
end Go.Av
