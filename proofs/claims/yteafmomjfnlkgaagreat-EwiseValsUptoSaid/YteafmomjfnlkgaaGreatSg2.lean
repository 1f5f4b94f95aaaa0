/- A quiet operation among others. Conditions: none. -/
import Derived.Test.YteafmomjfnlkgaaGreatSg1
set_option linter.unusedVariables false
namespace Go.Av
section
variable {P : Program} {H : Array Obj} {F : Nat → Prop} {h : Heap} {M : Id → Option Nat} {g : Id → Option Blk}
theorem opnd_same {e e' : Nat → Option AV} {x : Operand} (hs : ∀ t, x = .tmp t → e' t = e t) : opnd e' x = opnd e x := by
  cases x with
  | tmp t => exact hs t rfl
  | _ => rfl
def reads (o : Op) : List Tmp := o.operands.toList.filterMap fun | .tmp t => some t | _ => none
theorem opnd_in {e e' : Nat → Option AV} {o : Op} (hs : ∀ t ∈ reads o, e' t = e t) {x : Operand} (hx : x ∈ o.operands) : opnd e' x = opnd e x :=
  opnd_same fun t ht => hs t (List.mem_filterMap.2 ⟨x, by simpa using hx, by subst ht; rfl⟩)
theorem optL_same {α β : Type} {f f' : α → Option β} : ∀ {l : List α}, (∀ x ∈ l, f' x = f x) → optL f' l = optL f l
  | [], _ => rfl
  | a :: l, hf => by
    have h1 := optL_same (l := l) fun x hx => hf x (List.mem_cons_of_mem _ hx)
    simp only [optL, hf a (by simp), h1]
theorem optS_same {α β : Type} {f f' : α → Option β} {x : Option α} (hf : ∀ y, x = some y → f' y = f y) : optS f' x = optS f x := by
  cases x with
  | none => rfl
  | some y => simp only [optS, hf y rfl]
theorem aq_slots {e e' : Nat → Option AV} {o : Op} (hs : ∀ t ∈ reads o, e' t = e t) : aq P e' g o = aq P e g o := by
  have hop : ∀ x ∈ o.operands, opnd e' x = opnd e x := fun x hx => opnd_in (e := e) (e' := e') (o := o) hs hx
  unfold aq
  split <;> simp only [Op.operands, Call.operands] at hop
  · rw [hop _ (by simp)]
  · rw [hop _ (by simp)]
  · rename_i c a b; rw [hop c (by simp), hop a (by simp), hop b (by simp)]
  · rfl
  · rw [hop _ (by simp)]
  · rw [optL_same fun p hp => by rw [hop p.2 (by simpa using ⟨p.1, hp⟩)]]
  · rw [optL_same fun p hp => by rw [hop p.2 (by simpa using ⟨p.1, hp⟩)]]
  · rw [hop _ (by simp)]
  · rw [hop _ (by simp)]
  · rename_i op t x y yt; rw [hop x (by simp), hop y (by simp)]
  · rw [hop _ (by simp)]
  · rw [hop _ (by simp)]
  · rename_i f fs cs
    rw [optL_same (l := fs) fun x hx => hop x (by simp [hx]), optL_same (l := cs) fun x hx => hop x (by simp [hx])]
  · rename_i t n c; rw [hop n (by simp), hop c (by simp)]
  · rename_i t x lo hi
    rw [hop x (by simp), optS_same (x := lo) fun y hy => hop y (by subst hy; simp), optS_same (x := hi) fun y hy => hop y (by subst hy; simp)]
  · rw [hop _ (by simp)]
  · rw [hop _ (by simp)]
  · rename_i t x i; rw [hop x (by simp), hop i (by simp)]
  · rename_i t x i; rw [hop x (by simp), hop i (by simp)]
  · rw [hop _ (by simp)]
  · rename_i b args ts
    rw [optL_same (l := args) fun x hx => hop x (by simp [hx])]
  · rfl
theorem acallP_c {cp : CallP} (hk : HOK H F h M) (hc : Compat g h.get) {k : FuncId} {as : List AV} (hx : ∀ x ∈ as, ∃ u, VR H F h M x u) {r : AV} {fl : List Id} (e : acallP cp g k as = some (r, fl)) : acallP cp h.get k as = some (r, fl) := by
  unfold acallP at e ⊢
  simp only [Option.bind_eq_some_iff] at e ⊢
  obtain ⟨bs, hbs, r', hr, e⟩ := e
  have hopt : ∀ {l : List AV} {ys : List AV}, (∀ x ∈ l, ∃ u, VR H F h M x u) → optL (exportV g 4) l = some ys → optL (exportV h.get 4) l = some ys ∧ l.map (borrowed g 4) = l.map (borrowed h.get 4) := fun {l} => by
    induction l with
    | nil => intro ys _ he; exact ⟨he, rfl⟩
    | cons a l ih =>
      intro ys hx he
      simp only [optL, Option.bind_eq_some_iff] at he
      obtain ⟨b, h1, bs, h2, h3⟩ := he
      obtain ⟨u, hu⟩ := hx a (by simp)
      obtain ⟨q1, q2⟩ := exportV_c hk hc 4 a u b hu h1
      obtain ⟨q3, q4⟩ := ih (fun x hx' => hx x (by simp [hx'])) h2
      exact ⟨by simp only [optL, q1, q3, Option.bind_some]; exact h3, by simp only [List.map_cons, q2, q4]⟩
  obtain ⟨q1, q2⟩ := hopt hx hbs
  exact ⟨bs, q1, r', hr, by rw [← q2]; exact e⟩
theorem aq_c (hk : HOK H F h M) (hc : Compat g h.get) {e e' : Nat → Option AV} {a : Act} (he : EnvR H F h M e' a) {o : Op} (hs : ∀ t ∈ reads o, e' t = e t) {t : AV} (hq : aq P e g o = some t) : aq P e' h.get o = some t := by
  rw [← aq_slots (e := e) (e' := e') hs] at hq
  unfold aq at hq ⊢
  split at hq <;> try (exact hq)
  all_goals simp only [Option.bind_eq_some_iff] at hq ⊢
  · obtain ⟨p, hp, hq⟩ := hq; exact ⟨p, hp, aload_c hc (opnd_ok he hp) hq⟩
  · obtain ⟨y, hy, hq⟩ := hq
    refine ⟨y, hy, ?_⟩
    split at hq
    · split at hq
      · rename_i hl; rw [if_pos (live_c hc (opnd_ok he hy) hl)]; exact hq
      · cases hq
    · exact hq
    · exact hq
    · cases hq
  · obtain ⟨x, hx, l, hl, r, hr, hq⟩ := hq; exact ⟨x, hx, l, hl, r, hr, aslice_c hc (opnd_ok he hx) hq⟩
  · obtain ⟨x, hx, hq⟩ := hq; exact ⟨x, hx, afield_c hc (opnd_ok he hx) hq⟩
  · obtain ⟨x, hx, y, hy, n, hn, hq⟩ := hq; exact ⟨x, hx, y, hy, n, hn, aindexAddr_c hc (opnd_ok he hx) hq⟩
theorem aopQ_c {C : Cfg} {cp : CallP} (hk : HOK H F h M) (hc : Compat g h.get) {e e' : Nat → Option AV} {a : Act} (he : EnvR H F h M e' a) {o : Op} (hs : ∀ t ∈ reads o, e' t = e t) {t : AV} (hq : aopQ P C cp e g o = some t) : aopQ P C cp e' h.get o = some t := by
  have hop : ∀ x ∈ o.operands, opnd e' x = opnd e x := fun x hx => opnd_in (e := e) (e' := e') (o := o) hs hx
  unfold aopQ at hq ⊢
  split at hq
  · rename_i f args ts
    simp only [Op.operands, Call.operands] at hop
    simp only [Option.bind_eq_some_iff, Prod.exists] at hq ⊢
    obtain ⟨x, hf, k, fs, cap, hfn, as, has, hq⟩ := hq
    rw [← hop f (by simp)] at hf
    rw [← optL_same (l := args) fun x hx => hop x (by simp [hx])] at has
    refine ⟨x, hf, k, fs, cap, hfn, as, has, ?_⟩
    split at hq
    · cases hq
    · rename_i hin
      rw [if_neg hin]
      simp only [Option.bind_eq_some_iff, Prod.exists] at hq ⊢
      obtain ⟨r, fl, h1, h2⟩ := hq
      have hvr : ∀ x ∈ fs ++ as ++ cap, ∃ u, VR H F h M x u := fun z hz => by
        have hxv := opnd_ok he hf
        unfold fnOf at hfn
        split at hfn
        · simp only [Option.some.injEq, Prod.mk.injEq] at hfn
          obtain ⟨_, rfl, rfl⟩ := hfn
          obtain ⟨us, vs, _, l1, x1, l2, x2⟩ := hxv.fn_inv
          obtain ⟨l3, x3⟩ := opnds_ok he has
          simp only [List.mem_append] at hz
          rcases hz with (hz | hz) | hz
          · obtain ⟨i, hi⟩ := List.getElem?_of_mem hz; obtain ⟨u, _, hu⟩ := all2_get l1 x1 hi; exact ⟨u, hu⟩
          · obtain ⟨i, hi⟩ := List.getElem?_of_mem hz; obtain ⟨u, _, hu⟩ := all2_get l3 x3 hi; exact ⟨u, hu⟩
          · obtain ⟨i, hi⟩ := List.getElem?_of_mem hz; obtain ⟨u, _, hu⟩ := all2_get l2 x2 hi; exact ⟨u, hu⟩
        · cases hfn
      exact ⟨r, fl, acallP_c hk hc hvr h1, h2⟩
  · rename_i hnc
    by_cases hb : bsO o = true ∧ (C.drops 0).isEmpty = false
    · rw [if_pos hb] at hq ⊢
      obtain ⟨t0, h0, h1⟩ := Option.bind_eq_some_iff.1 hq
      exact Option.bind_eq_some_iff.2 ⟨t0, aq_c hk hc he hs h0, h1⟩
    · rw [if_neg hb] at hq ⊢
      exact aq_c hk hc he hs hq
def Alike (lvl slot : Nat) (h1 h2 : Heap) : Prop := ∀ k, h1.get (lvl, slot, k) = h2.get (lvl, slot, k)
def Others (lvl slot : Nat) (h1 h2 : Heap) : Prop := ∀ id : Id, ¬ (id.1 = lvl ∧ id.2.1 = slot) → h2.get id = h1.get id
theorem new_alike {lvl slot k : Nat} {h1 h2 h1' : Heap} {b : Blk} (ha : Alike lvl slot h1 h2) (e : h1.new (lvl, slot, k) b = some h1') : ∃ h2', h2.new (lvl, slot, k) b = some h2' ∧ Alike lvl slot h1' h2' ∧ Others lvl slot h1 h1' ∧ Others lvl slot h2 h2' := by
  obtain ⟨h0, rfl⟩ := new_some e
  have h0' : h2.get (lvl, slot, k) = none := (ha k).symm.trans h0
  refine ⟨h2.set (lvl, slot, k) b, by simp [Heap.new, h0'], fun j => ?_, fun id hn => get_set_ne _ _ _ _ fun he => hn (by subst he; exact ⟨rfl, rfl⟩), fun id hn => get_set_ne _ _ _ _ fun he => hn (by subst he; exact ⟨rfl, rfl⟩)⟩
  rw [get_set, get_set]
  split
  · rfl
  · exact ha j
theorem Others.refl (lvl slot : Nat) (h : Heap) : Others lvl slot h h := fun _ _ => rfl
theorem Others.trans {lvl slot : Nat} {h1 h2 h3 : Heap} (a : Others lvl slot h1 h2) (b : Others lvl slot h2 h3) : Others lvl slot h1 h3 := fun id hn => (b id hn).trans (a id hn)
def ImportAlike (lvl slot : Nat) (f : AV → Nat × Heap → Option (AV × Nat × Heap)) : Prop :=
  ∀ t k h1 y k' h1' h2, Alike lvl slot h1 h2 → f t (k, h1) = some (y, k', h1') → ∃ h2', f t (k, h2) = some (y, k', h2') ∧ Alike lvl slot h1' h2' ∧ Others lvl slot h1 h1' ∧ Others lvl slot h2 h2'
theorem mapSt_alike {lvl slot : Nat} {f : AV → Nat × Heap → Option (AV × Nat × Heap)} (hf : ImportAlike lvl slot f) : ∀ xs k h1 ys k' h1' h2, Alike lvl slot h1 h2 → mapSt f xs (k, h1) = some (ys, k', h1') →
    ∃ h2', mapSt f xs (k, h2) = some (ys, k', h2') ∧ Alike lvl slot h1' h2' ∧ Others lvl slot h1 h1' ∧ Others lvl slot h2 h2'
  | [], k, h1, ys, k', h1', h2, ha, e => by
    simp only [mapSt, Option.some.injEq, Prod.mk.injEq] at e
    obtain ⟨rfl, rfl, rfl⟩ := e
    exact ⟨h2, rfl, ha, .refl _ _ _, .refl _ _ _⟩
  | x :: xs, k, h1, ys, k', h1', h2, ha, e => by
    simp only [mapSt, Option.bind_eq_some_iff, Prod.exists] at e
    obtain ⟨y, k1, g1, e1, ys', k2, g2, e2, e3⟩ := e
    simp only [Option.some.injEq, Prod.mk.injEq] at e3
    obtain ⟨rfl, rfl, rfl⟩ := e3
    obtain ⟨p1, a1, a2, a3, a4⟩ := hf x k h1 y k1 g1 h2 ha e1
    obtain ⟨p2, b1, b2, b3, b4⟩ := mapSt_alike hf xs k1 g1 ys' k2 g2 p1 a2 e2
    exact ⟨p2, by simp only [mapSt, a1, b1, Option.bind_some], b2, a3.trans b3, a4.trans b4⟩
theorem freeK_alike {lvl slot k : Nat} {h1 h2 : Heap} (ha : Alike lvl slot h1 h2) : freeK h1 lvl slot k = freeK h2 lvl slot k := by
  have key : ∀ n k, freeN h1 lvl slot n k = freeN h2 lvl slot n k := by
    intro n
    induction n with
    | zero => intro k; rfl
    | succ n ih => intro k; unfold freeN; rw [ha k, ih]
  exact key 2097152 k
theorem import_alike (lvl slot : Nat) : ∀ d, ImportAlike lvl slot (importR lvl slot d) := by
  intro d
  induction d with
  | zero =>
    intro t k h1 y k' h1' h2 ha e
    cases t with
    | fresh sz n xs =>
      simp only [importR, Option.bind_eq_some_iff, Option.some.injEq, Prod.mk.injEq] at e ⊢
      obtain ⟨g, e1, rfl, rfl, rfl⟩ := e
      rw [← freeK_alike ha]
      obtain ⟨h2', q1, q2, q3, q4⟩ := new_alike ha e1
      exact ⟨h2', ⟨h2', q1, rfl, rfl, rfl⟩, q2, q3, q4⟩
    | freshO sz n xs =>
      simp only [importR, Option.bind_eq_some_iff, Option.some.injEq, Prod.mk.injEq] at e ⊢
      obtain ⟨g, e1, rfl, rfl, rfl⟩ := e
      rw [← freeK_alike ha]
      obtain ⟨h2', q1, q2, q3, q4⟩ := new_alike ha e1
      exact ⟨h2', ⟨h2', q1, rfl, rfl, rfl⟩, q2, q3, q4⟩
    | newbx xs => simp [importR] at e
    | agg xs => simp [importR] at e
    | tuple xs => simp [importR] at e
    | _ =>
      simp only [importR, Option.some.injEq, Prod.mk.injEq] at e ⊢
      obtain ⟨rfl, rfl, rfl⟩ := e
      exact ⟨h2, ⟨rfl, rfl, rfl⟩, ha, .refl _ _ _, .refl _ _ _⟩
  | succ d ih =>
    intro t k h1 y k' h1' h2 ha e
    cases t with
    | fresh sz n xs =>
      simp only [importR, Option.bind_eq_some_iff, Option.some.injEq, Prod.mk.injEq] at e ⊢
      obtain ⟨g, e1, rfl, rfl, rfl⟩ := e
      rw [← freeK_alike ha]
      obtain ⟨h2', q1, q2, q3, q4⟩ := new_alike ha e1
      exact ⟨h2', ⟨h2', q1, rfl, rfl, rfl⟩, q2, q3, q4⟩
    | freshO sz n xs =>
      simp only [importR, Option.bind_eq_some_iff, Option.some.injEq, Prod.mk.injEq] at e ⊢
      obtain ⟨g, e1, rfl, rfl, rfl⟩ := e
      rw [← freeK_alike ha]
      obtain ⟨h2', q1, q2, q3, q4⟩ := new_alike ha e1
      exact ⟨h2', ⟨h2', q1, rfl, rfl, rfl⟩, q2, q3, q4⟩
    | newbx xs =>
      simp only [importR, Option.bind_eq_some_iff, Prod.exists, Option.some.injEq, Prod.mk.injEq] at e
      obtain ⟨ys, k1, g1, e1, g2, e2, rfl, rfl, rfl⟩ := e
      obtain ⟨p1, a1, a2, a3, a4⟩ := mapSt_alike ih xs k h1 ys k1 g1 h2 ha e1
      obtain ⟨p2, b1, b2, b3, b4⟩ := new_alike a2 e2
      exact ⟨p2, by simp only [importR, a1, b1, Option.bind_some], b2, a3.trans b3, a4.trans b4⟩
    | agg xs =>
      simp only [importR, Option.bind_eq_some_iff, Prod.exists, Option.some.injEq, Prod.mk.injEq] at e
      obtain ⟨ys, k1, g1, e1, rfl, rfl, rfl⟩ := e
      obtain ⟨p1, a1, a2, a3, a4⟩ := mapSt_alike ih xs k h1 ys k1 g1 h2 ha e1
      exact ⟨p1, by simp only [importR, a1, Option.bind_some], a2, a3, a4⟩
    | tuple xs =>
      simp only [importR, Option.bind_eq_some_iff, Prod.exists, Option.some.injEq, Prod.mk.injEq] at e
      obtain ⟨ys, k1, g1, e1, rfl, rfl, rfl⟩ := e
      obtain ⟨p1, a1, a2, a3, a4⟩ := mapSt_alike ih xs k h1 ys k1 g1 h2 ha e1
      exact ⟨p1, by simp only [importR, a1, Option.bind_some], a2, a3, a4⟩
    | _ =>
      simp only [importR, Option.some.injEq, Prod.mk.injEq] at e ⊢
      obtain ⟨rfl, rfl, rfl⟩ := e
      exact ⟨h2, ⟨rfl, rfl, rfl⟩, ha, .refl _ _ _, .refl _ _ _⟩
end
end Go.Av
