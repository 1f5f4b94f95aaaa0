/- A tree that an operation yields is taken into the list of rows: what then holds. Conditions: none. -/
import Derived.Test.YtebfneaimafcoaaGreatSd1
namespace Go.Av
mutual
theorem TR.mono {H : Array Obj} {C R C' R' : AV → Value → Prop} (hC : ∀ x u, C x u → C' x u) (hR : ∀ x u, R x u → R' x u) : ∀ {x : AV} {u : Value} {bs : List Nat}, TR H C R x u bs → TR H C' R' x u bs
  | _, _, _, .base h => .base (hR _ _ h)
  | _, _, _, .nil => .nil
  | _, _, _, .fresh hb hc hs hl hx => .fresh hb hc hs hl fun i x h => (hx i x h).imp fun _ h => ⟨h.1, hC _ _ h.2⟩
  | _, _, _, .open_ hb hc hs hl hx => .open_ hb hc hs hl fun i x h => (hx i x h).imp fun _ h => ⟨h.1, hR _ _ h.2⟩
  | _, _, _, .newbx hb hx => .newbx hb (TRL.mono hC hR hx)
  | _, _, _, .agg hx => .agg (TRL.mono hC hR hx)
  | _, _, _, .tuple hx => .tuple (TRL.mono hC hR hx)
theorem TRL.mono {H : Array Obj} {C R C' R' : AV → Value → Prop} (hC : ∀ x u, C x u → C' x u) (hR : ∀ x u, R x u → R' x u) : ∀ {xs : List AV} {us : List Value} {bs : List Nat}, TRL H C R xs us bs → TRL H C' R' xs us bs
  | _, _, _, .nil => .nil
  | _, _, _, .cons h hs => .cons (TR.mono hC hR h) (TRL.mono hC hR hs)
end
def Ext (h : Heap) (M : Id → Option Nat) (h' : Heap) (M' : Id → Option Nat) : Prop := ∀ id x, h.get id = some x → h'.get id = some x ∧ M' id = M id
theorem Ext.refl (h : Heap) (M : Id → Option Nat) : Ext h M h M := fun _ _ e => ⟨e, rfl⟩
theorem Ext.trans {h h1 h2 : Heap} {M M1 M2 : Id → Option Nat} (a : Ext h M h1 M1) (b : Ext h1 M1 h2 M2) : Ext h M h2 M2 :=
  fun id x e => let ⟨e1, m1⟩ := a id x e; let ⟨e2, m2⟩ := b id x e1; ⟨e2, m2.trans m1⟩
theorem Ext.held {H : Array Obj} {h h' : Heap} {M M' : Id → Option Nat} (a : Ext h M h' M') : ∀ id x, h.get id = some x → ∃ y, h'.get id = some y ∧ Held H H M M' id x y :=
  fun id x e => ⟨x, (a id x e).1, Held.refl (a id x e).2 fun _ _ => rfl⟩
theorem VR.ext {H : Array Obj} {F : Nat → Prop} {h h' : Heap} {M M' : Id → Option Nat} (a : Ext h M h' M') {x : AV} {u : Value} (hv : VR H F h M x u) : VR H F h' M' x u :=
  hv.keep (fun _ h => h) (fun _ _ => rfl) a.held
theorem RowOK.ext {H : Array Obj} {F : Nat → Prop} {h h' : Heap} {M M' : Id → Option Nat} (a : Ext h M h' M') {id : Id} {x : Blk} (e : h.get id = some x) (hr : RowOK H F h M id x) : RowOK H F h' M' id x :=
  hr.keep (fun _ h => h) (fun _ _ => rfl) a.held (a id x e).2 fun _ _ => ⟨rfl, fun _ h => h⟩
structure Imp (H : Array Obj) (F : Nat → Prop) (bs : List Nat) (h : Heap) (M : Id → Option Nat) (h' : Heap) (M' : Id → Option Nat) : Prop where
  ext : Ext h M h' M'
  ok : HOK H F h' M'
  new : ∀ id x, h'.get id = some x → h.get id = none → x.rw = true ∧ ∀ b, M' id = some b → b ∈ bs
def updM (M : Id → Option Nat) (k : Id) (o : Option Nat) : Id → Option Nat := fun i => if i = k then o else M i
theorem updM_same {M : Id → Option Nat} {k : Id} {o : Option Nat} : updM M k o k = o := by simp [updM]
theorem updM_ne {M : Id → Option Nat} {k i : Id} {o : Option Nat} (h : i ≠ k) : updM M k o i = M i := by simp [updM, h]
theorem ext_new {h h' : Heap} {M : Id → Option Nat} {k : Id} {y : Blk} {o : Option Nat} (e : h.new k y = some h') : Ext h M h' (updM M k o) := by
  obtain ⟨h0, rfl⟩ := new_some e
  intro id x hx
  have hne : id ≠ k := fun he => by subst he; rw [h0] at hx; cases hx
  exact ⟨by rw [get_set_ne _ _ _ _ hne]; exact hx, updM_ne hne⟩
theorem imp_new {H : Array Obj} {F : Nat → Prop} {h h' : Heap} {M : Id → Option Nat} {k : Id} {y : Blk} {o : Option Nat} {bs : List Nat} (hk : HOK H F h M) (e : h.new k y = some h')
    (hrw : y.rw = true) (ho : ∀ b, o = some b → b ∈ bs ∧ ∀ id x, h.get id = some x → M id ≠ some b) (hr : RowOK H F h' (updM M k o) k y) : Imp H F bs h M h' (updM M k o) := by
  have hx := ext_new (M := M) (o := o) e
  obtain ⟨h0, rfl⟩ := new_some e
  refine ⟨hx, ⟨fun id x hg => ?_, fun id id' x x' b g1 g2 m1 m2 => ?_, hk.fb⟩, fun id x hg hn => ?_⟩
  · by_cases he : id = k
    · subst he; rw [get_set_same] at hg; injection hg with hg; subst hg; exact hr
    · rw [get_set_ne _ _ _ _ he] at hg; exact (hk.row id x hg).ext hx hg
  · by_cases he : id = k <;> by_cases he' : id' = k
    · rw [he, he']
    · subst he
      rw [get_set_ne _ _ _ _ he'] at g2
      rw [updM_same] at m1; rw [updM_ne he'] at m2
      exact absurd m2 ((ho b m1).2 _ _ g2)
    · subst he'
      rw [get_set_ne _ _ _ _ he] at g1
      rw [updM_same] at m2; rw [updM_ne he] at m1
      exact absurd m1 ((ho b m2).2 _ _ g1)
    · rw [get_set_ne _ _ _ _ he] at g1; rw [get_set_ne _ _ _ _ he'] at g2
      rw [updM_ne he] at m1; rw [updM_ne he'] at m2
      exact hk.inj _ _ _ _ _ g1 g2 m1 m2
  · by_cases he : id = k
    · subst he; rw [get_set_same] at hg; injection hg with hg; subst hg
      refine ⟨hrw, fun b hb => ?_⟩
      rw [updM_same] at hb
      exact (ho b hb).1
    · rw [get_set_ne _ _ _ _ he] at hg; rw [hg] at hn; cases hn
def ImportOK (H : Array Obj) (F : Nat → Prop) (f : AV → Nat × Heap → Option (AV × Nat × Heap)) : Prop :=
  ∀ t u bs k h M y k' h', TR H (VC H F) (VR H F h M) t u bs → HOK H F h M → bs.Nodup → (∀ b ∈ bs, ¬ F b) → (∀ b ∈ bs, ∀ id x, h.get id = some x → M id ≠ some b) →
    f t (k, h) = some (y, k', h') → ∃ M', Imp H F bs h M h' M' ∧ VR H F h' M' y u
theorem import_list {H : Array Obj} {F : Nat → Prop} {f : AV → Nat × Heap → Option (AV × Nat × Heap)} (hf : ImportOK H F f) : ∀ xs us bs k h M ys k' h', TRL H (VC H F) (VR H F h M) xs us bs → HOK H F h M → bs.Nodup →
    (∀ b ∈ bs, ¬ F b) → (∀ b ∈ bs, ∀ id x, h.get id = some x → M id ≠ some b) → mapSt f xs (k, h) = some (ys, k', h') →
    ∃ M', Imp H F bs h M h' M' ∧ ys.length = us.length ∧ ∀ (i : Nat) y u, ys[i]? = some y → us[i]? = some u → VR H F h' M' y u
  | [], us, bs, k, h, M, ys, k', h', ht, hk, _, _, _, e => by
    cases ht
    simp only [mapSt, Option.some.injEq, Prod.mk.injEq] at e
    obtain ⟨rfl, rfl, rfl⟩ := e
    exact ⟨M, ⟨Ext.refl _ _, hk, fun id x a b => by rw [a] at b; cases b⟩, rfl, fun i y u h => by simp at h⟩
  | x :: xs, us, bs, k, h, M, ys, k', h', ht, hk, hnd, hF, hM, e => by
    cases ht with
    | @cons _ _ u us b1 b2 h1 h2 =>
      simp only [mapSt, Option.bind_eq_some_iff, Prod.exists] at e
      obtain ⟨y, k1, g1, e1, ys', k2, g2, e2, e3⟩ := e
      simp only [Option.some.injEq, Prod.mk.injEq] at e3
      obtain ⟨rfl, rfl, rfl⟩ := e3
      obtain ⟨n1, n2, n3⟩ := List.nodup_append.1 hnd
      obtain ⟨M1, i1, v1⟩ := hf x u b1 k h M y k1 g1 h1 hk n1 (fun b hb => hF b (List.mem_append_left _ hb)) (fun b hb => hM b (List.mem_append_left _ hb)) e1
      have hM2 : ∀ b ∈ b2, ∀ id x, g1.get id = some x → M1 id ≠ some b := fun b hb id z hz hq => by
        cases hg : h.get id with
        | none => exact n3 _ ((i1.new id z hz hg).2 b hq) _ hb rfl
        | some w =>
          rw [(i1.ext id w hg).2] at hq
          exact hM b (List.mem_append_right _ hb) id w hg hq
      obtain ⟨M2, i2, hl, hv⟩ := import_list hf xs us b2 k1 g1 M1 ys' k2 g2 (h2.mono (fun _ _ h => h) fun _ _ h => h.ext i1.ext) i1.ok n2 (fun b hb => hF b (List.mem_append_right _ hb)) hM2 e2
      refine ⟨M2, ⟨i1.ext.trans i2.ext, i2.ok, fun id z a b => ?_⟩, by simp [hl], fun i y' u' a b => ?_⟩
      · cases hg : g1.get id with
        | none => exact ⟨(i2.new id z a hg).1, fun c hc => List.mem_append_right _ ((i2.new id z a hg).2 c hc)⟩
        | some w =>
          have h3 := i2.ext id w hg
          rw [a] at h3
          obtain ⟨h3, h4⟩ := h3
          injection h3 with h3
          subst h3
          have h5 := i1.new id z hg b
          exact ⟨h5.1, fun c hc => List.mem_append_left _ (h5.2 c (h4 ▸ hc))⟩
      · cases i with
        | zero => simp at a b; subst a; subst b; exact v1.ext i2.ext
        | succ i => simp at a b; exact hv i y' u' a b
theorem VR.agg_inv {H : Array Obj} {F : Nat → Prop} {h : Heap} {M : Id → Option Nat} {xs : List AV} {u : Value} (hv : VR H F h M (.agg xs) u) :
    ∃ us, u = .agg ⟨us⟩ ∧ xs.length = us.length ∧ ∀ (i : Nat) x u, xs[i]? = some x → us[i]? = some u → VR H F h M x u := by
  cases hv with
  | c hc => cases hc with
    | agg hl hx => exact ⟨_, rfl, hl, fun i x u a b => .c (hx i x u a b)⟩
  | agg hl hx => exact ⟨_, rfl, hl, hx⟩
theorem VR.tuple_inv {H : Array Obj} {F : Nat → Prop} {h : Heap} {M : Id → Option Nat} {xs : List AV} {u : Value} (hv : VR H F h M (.tuple xs) u) :
    ∃ us, u = .tuple ⟨us⟩ ∧ xs.length = us.length ∧ ∀ (i : Nat) x u, xs[i]? = some x → us[i]? = some u → VR H F h M x u := by
  cases hv with
  | c hc => cases hc with
    | tuple hl hx => exact ⟨_, rfl, hl, fun i x u a b => .c (hx i x u a b)⟩
  | tuple hl hx => exact ⟨_, rfl, hl, hx⟩
theorem TRL.of_all {H : Array Obj} {C R : AV → Value → Prop} : ∀ {xs : List AV} {us : List Value}, xs.length = us.length → (∀ (i : Nat) x u, xs[i]? = some x → us[i]? = some u → R x u) → TRL H C R xs us []
  | [], [], _, _ => .nil
  | x :: xs, u :: us, hl, h => by
    have h1 := TRL.cons (H := H) (C := C) (.base (h 0 x u rfl rfl)) (TRL.of_all (by simpa using hl) fun i x u a b => h (i + 1) x u (by simpa using a) (by simpa using b))
    exact h1
theorem TR.agg_inv {H : Array Obj} {F : Nat → Prop} {h : Heap} {M : Id → Option Nat} {xs : List AV} {u : Value} {bs : List Nat} (ht : TR H (VC H F) (VR H F h M) (.agg xs) u bs) :
    ∃ us, u = .agg ⟨us⟩ ∧ TRL H (VC H F) (VR H F h M) xs us bs := by
  cases ht with
  | base hr => obtain ⟨us, rfl, hl, hx⟩ := hr.agg_inv; exact ⟨us, rfl, TRL.of_all hl hx⟩
  | agg hx => exact ⟨_, rfl, hx⟩
theorem TR.tuple_inv {H : Array Obj} {F : Nat → Prop} {h : Heap} {M : Id → Option Nat} {xs : List AV} {u : Value} {bs : List Nat} (ht : TR H (VC H F) (VR H F h M) (.tuple xs) u bs) :
    ∃ us, u = .tuple ⟨us⟩ ∧ TRL H (VC H F) (VR H F h M) xs us bs := by
  cases ht with
  | base hr => obtain ⟨us, rfl, hl, hx⟩ := hr.tuple_inv; exact ⟨us, rfl, TRL.of_all hl hx⟩
  | tuple hx => exact ⟨_, rfl, hx⟩
theorem import_same {H : Array Obj} {F : Nat → Prop} {h : Heap} {M : Id → Option Nat} {t : AV} {u : Value} {bs : List Nat} (hk : HOK H F h M) (hv : VR H F h M t u) :
    ∃ M', Imp H F bs h M h M' ∧ VR H F h M' t u :=
  ⟨M, ⟨Ext.refl _ _, hk, fun id x a b => by rw [a] at b; cases b⟩, hv⟩
theorem import_fresh {H : Array Obj} {F : Nat → Prop} {h h' : Heap} {M : Id → Option Nat} {k : Id} {sz n : Nat} {xs : List AV} {u : Value} {bs : List Nat} (ht : TR H (VC H F) (VR H F h M) (.fresh sz n xs) u bs)
    (hk : HOK H F h M) (hF : ∀ b ∈ bs, ¬ F b) (hM : ∀ b ∈ bs, ∀ id x, h.get id = some x → M id ≠ some b) (e : h.new k (.sl true true sz n xs) = some h') :
    ∃ M', Imp H F bs h M h' M' ∧ VR H F h' M' (.own k 0 n n) u := by
  have hg : h'.get k = some (.sl true true sz n xs) := by obtain ⟨_, rfl⟩ := new_some e; exact get_set_same _ _ _
  cases ht with
  | base hr => cases hr with
    | c hc => cases hc
  | nil =>
    refine ⟨updM M k none, imp_new hk e rfl (fun b hb => by cases hb) ⟨by simp, .inl ⟨rfl, updM_same⟩⟩, ?_⟩
    exact .own hg (Nat.le_refl _) (Nat.le_refl _) fun _ => ⟨by simp, .inl ⟨rfl, rfl⟩⟩
  | @fresh _ _ _ b cur e' c hb hc hs hl hx =>
    refine ⟨updM M k (some b), imp_new hk e rfl (fun b' hb' => ?_) ⟨hl, .inr ⟨b, cur, e', updM_same, hb, fun _ => hF b (by simp), (fun h => by cases h), fun i x h => ?_⟩⟩, ?_⟩
    · injection hb' with hb'; subst hb'; exact ⟨by simp, hM _ (by simp)⟩
    · obtain ⟨u, h1, h2⟩ := hx i x h
      exact ⟨u, h1, fun _ => h2, fun h => by cases h⟩
    · refine .own hg hc (Nat.le_refl _) fun _ => ⟨?_, .inr ⟨b, cur.size, updM_same, rfl, by simp [rowSize, hb], by simpa using hs⟩⟩
      simp only [Nat.zero_add]
      exact Nat.mul_le_mul_right _ hc
theorem import_open {H : Array Obj} {F : Nat → Prop} {h h' : Heap} {M : Id → Option Nat} {k : Id} {sz n : Nat} {xs : List AV} {u : Value} {bs : List Nat} (ht : TR H (VC H F) (VR H F h M) (.freshO sz n xs) u bs)
    (hk : HOK H F h M) (hF : ∀ b ∈ bs, ¬ F b) (hM : ∀ b ∈ bs, ∀ id x, h.get id = some x → M id ≠ some b) (e : h.new k (.sl false true sz n xs) = some h') :
    ∃ M', Imp H F bs h M h' M' ∧ VR H F h' M' (.own k 0 n n) u := by
  have hg : h'.get k = some (.sl false true sz n xs) := by obtain ⟨_, rfl⟩ := new_some e; exact get_set_same _ _ _
  cases ht with
  | base hr => cases hr with
    | c hc => cases hc
  | @open_ _ _ _ b cur e' c hb hc hs hl hx =>
    have hex := ext_new (M := M) (o := some b) e
    refine ⟨updM M k (some b), imp_new hk e rfl (fun b' hb' => ?_) ⟨hl, .inr ⟨b, cur, e', updM_same, hb, fun _ => hF b (by simp), (fun h => by cases h), fun i x h => ?_⟩⟩, ?_⟩
    · injection hb' with hb'; subst hb'; exact ⟨by simp, hM _ (by simp)⟩
    · obtain ⟨u, h1, h2⟩ := hx i x h
      exact ⟨u, h1, (fun h => by cases h), fun _ => h2.ext hex⟩
    · refine .own hg hc (Nat.le_refl _) fun _ => ⟨?_, .inr ⟨b, cur.size, updM_same, rfl, by simp [rowSize, hb], by simpa using hs⟩⟩
      simp only [Nat.zero_add]
      exact Nat.mul_le_mul_right _ hc
theorem import_bx {H : Array Obj} {F : Nat → Prop} {lvl slot d : Nat} (ih : ImportOK H F (importR lvl slot d)) {h : Heap} {M : Id → Option Nat} {k : Nat} {xs : List AV} {u : Value} {bs : List Nat} {y k' h'}
    (ht : TR H (VC H F) (VR H F h M) (.newbx xs) u bs) (hk : HOK H F h M) (hnd : bs.Nodup) (hF : ∀ b ∈ bs, ¬ F b) (hM : ∀ b ∈ bs, ∀ id x, h.get id = some x → M id ≠ some b)
    (e : importR lvl slot (d + 1) (.newbx xs) (k, h) = some (y, k', h')) : ∃ M', Imp H F bs h M h' M' ∧ VR H F h' M' y u := by
  simp only [importR, Option.bind_eq_some_iff, Prod.exists] at e
  obtain ⟨ys, k1, h1, e1, h2, e2, e3⟩ := e
  simp only [Option.some.injEq, Prod.mk.injEq] at e3
  obtain ⟨rfl, rfl, rfl⟩ := e3
  cases ht with
  | base hr => cases hr with
    | c hc => cases hc
  | @newbx _ us b et bs' hb hx =>
    obtain ⟨hn1, hn2⟩ := List.nodup_cons.1 hnd
    obtain ⟨M1, i1, hl, hv⟩ := import_list ih xs us bs' k h M ys k1 h1 hx hk hn2 (fun b hb => hF b (by simp [hb])) (fun b hb => hM b (by simp [hb])) e1
    have hg : h2.get (lvl, slot, k1) = some (.bx true ys) := by obtain ⟨_, rfl⟩ := new_some e2; exact get_set_same _ _ _
    have hb1 : ∀ id z, h1.get id = some z → M1 id ≠ some b := fun id z hz hq => by
      cases hg : h.get id with
      | none => exact hn1 ((i1.new id z hz hg).2 b hq)
      | some w =>
        rw [(i1.ext id w hg).2] at hq
        exact hM b (by simp) id w hg hq
    have hex := ext_new (M := M1) (o := some b) e2
    have i2 : Imp H F (b :: bs') h1 M1 h2 (updM M1 (lvl, slot, k1) (some b)) := imp_new i1.ok e2 rfl (fun b' hb' => by injection hb' with hb'; subst hb'; exact ⟨by simp, hb1⟩)
      ⟨b, ⟨us⟩, et, updM_same, hb, hl, fun _ => hF b (by simp), (fun h => by cases h), fun i x h => (all2_get hl hv h).imp fun u h34 => ⟨by simpa using h34.1, h34.2.ext hex⟩⟩
    refine ⟨_, ⟨i1.ext.trans i2.ext, i2.ok, fun id z a b' => ?_⟩, .ptr hg (Nat.le_refl _) fun _ => ⟨b, updM_same, rfl⟩⟩
    cases hg : h1.get id with
    | none => exact i2.new id z a hg
    | some w =>
      have h3 := i2.ext id w hg
      rw [a] at h3
      obtain ⟨h3, h4⟩ := h3
      injection h3 with h3
      subst h3
      have h5 := i1.new id z hg b'
      exact ⟨h5.1, fun c hc => List.mem_cons_of_mem _ (h5.2 c (h4 ▸ hc))⟩
theorem TR.base_inv {H : Array Obj} {C R : AV → Value → Prop} {t : AV} {u : Value} {bs : List Nat} (ht : TR H C R t u bs)
    (h : match t with | .fresh _ _ _ => False | .freshO _ _ _ => False | .newbx _ => False | .agg _ => False | .tuple _ => False | _ => True) : R t u := by
  cases ht with
  | base hr => exact hr
  | nil => exact h.elim
  | fresh => exact h.elim
  | open_ => exact h.elim
  | newbx => exact h.elim
  | agg => exact h.elim
  | tuple => exact h.elim
theorem import_ok {H : Array Obj} {F : Nat → Prop} (lvl slot : Nat) : ∀ d, ImportOK H F (importR lvl slot d) := by
  intro d
  induction d with
  | zero =>
    intro t u bs k h M y k' h' ht hk hnd hF hM e
    cases t with
    | fresh sz n xs =>
      simp only [importR, Option.bind_eq_some_iff, Option.some.injEq, Prod.mk.injEq] at e
      obtain ⟨h2, e2, rfl, rfl, rfl⟩ := e
      exact import_fresh ht hk hF hM e2
    | freshO sz n xs =>
      simp only [importR, Option.bind_eq_some_iff, Option.some.injEq, Prod.mk.injEq] at e
      obtain ⟨h2, e2, rfl, rfl, rfl⟩ := e
      exact import_open ht hk hF hM e2
    | newbx xs => simp [importR] at e
    | agg xs => simp [importR] at e
    | tuple xs => simp [importR] at e
    | _ =>
      simp only [importR, Option.some.injEq, Prod.mk.injEq] at e
      obtain ⟨rfl, rfl, rfl⟩ := e
      exact import_same hk (ht.base_inv trivial)
  | succ d ih =>
    intro t u bs k h M y k' h' ht hk hnd hF hM e
    cases t with
    | fresh sz n xs =>
      simp only [importR, Option.bind_eq_some_iff, Option.some.injEq, Prod.mk.injEq] at e
      obtain ⟨h2, e2, rfl, rfl, rfl⟩ := e
      exact import_fresh ht hk hF hM e2
    | freshO sz n xs =>
      simp only [importR, Option.bind_eq_some_iff, Option.some.injEq, Prod.mk.injEq] at e
      obtain ⟨h2, e2, rfl, rfl, rfl⟩ := e
      exact import_open ht hk hF hM e2
    | newbx xs => exact import_bx ih ht hk hnd hF hM e
    | agg xs =>
      simp only [importR, Option.bind_eq_some_iff, Prod.exists] at e
      obtain ⟨ys, k1, h1, e1, e3⟩ := e
      simp only [Option.some.injEq, Prod.mk.injEq] at e3
      obtain ⟨rfl, rfl, rfl⟩ := e3
      obtain ⟨us, rfl, hx⟩ := ht.agg_inv
      obtain ⟨M1, i1, hl, hv⟩ := import_list ih xs us bs k h M ys k1 h1 hx hk hnd hF hM e1
      exact ⟨M1, i1, .agg hl hv⟩
    | tuple xs =>
      simp only [importR, Option.bind_eq_some_iff, Prod.exists] at e
      obtain ⟨ys, k1, h1, e1, e3⟩ := e
      simp only [Option.some.injEq, Prod.mk.injEq] at e3
      obtain ⟨rfl, rfl, rfl⟩ := e3
      obtain ⟨us, rfl, hx⟩ := ht.tuple_inv
      obtain ⟨M1, i1, hl, hv⟩ := import_list ih xs us bs k h M ys k1 h1 hx hk hnd hF hM e1
      exact ⟨M1, i1, .tuple hl hv⟩
    | _ =>
      simp only [importR, Option.some.injEq, Prod.mk.injEq] at e
      obtain ⟨rfl, rfl, rfl⟩ := e
      exact import_same hk (ht.base_inv trivial)
end Go.Av
