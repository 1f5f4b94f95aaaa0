/- What a result is to the caller. Conditions: none. -/
import Derived.Test.YteafmomjfnlkgaaGreatLL
set_option linter.unusedVariables false
namespace Go.Av
structure ExpOK (H : Array Obj) (F : Nat → Prop) (h : Heap) (M : Id → Option Nat) (us us' : List Id) (bs : List Nat) : Prop where
  nodup : bs.Nodup
  own : ∀ b ∈ bs, ∃ id blk, id ∈ us' ∧ id ∉ us ∧ h.get id = some blk ∧ blk.rw = true ∧ M id = some b
  sub : ∀ i ∈ us, i ∈ us'
def ExportOK (H : Array Obj) (F : Nat → Prop) (h : Heap) (M : Id → Option Nat) (f : AV → List Id → Option (AV × List Id)) : Prop :=
  ∀ x us y us' u, VR H F h M x u → f x us = some (y, us') → ∃ bs, TR H (VC H F) (VC H F) y u bs ∧ ExpOK H F h M us us' bs
theorem ExpOK.nil {H : Array Obj} {F : Nat → Prop} {h : Heap} {M : Id → Option Nat} {us : List Id} : ExpOK H F h M us us [] := ⟨List.nodup_nil, (fun _ h => by cases h), fun _ h => h⟩
theorem export_list {H : Array Obj} {F : Nat → Prop} {h : Heap} {M : Id → Option Nat} (hk : HOK H F h M) {f : AV → List Id → Option (AV × List Id)} (hf : ExportOK H F h M f) :
    ∀ xs us ys us' vs, xs.length = vs.length → (∀ (i : Nat) x u, xs[i]? = some x → vs[i]? = some u → VR H F h M x u) → mapSt f xs us = some (ys, us') →
      ∃ bs, TRL H (VC H F) (VC H F) ys vs bs ∧ ExpOK H F h M us us' bs
  | [], us, ys, us', vs, hl, hx, e => by
    simp only [mapSt, Option.some.injEq, Prod.mk.injEq] at e
    obtain ⟨rfl, rfl⟩ := e
    obtain rfl : vs = [] := List.eq_nil_of_length_eq_zero (by simpa using hl.symm)
    exact ⟨[], .nil, .nil⟩
  | x :: xs, us, ys, us', vs, hl, hx, e => by
    cases vs with
    | nil => simp at hl
    | cons v vs =>
      simp only [mapSt, Option.bind_eq_some_iff, Prod.exists] at e
      obtain ⟨y, u1, e1, ys', u2, e2, e3⟩ := e
      simp only [Option.some.injEq, Prod.mk.injEq] at e3
      obtain ⟨rfl, rfl⟩ := e3
      obtain ⟨b1, t1, k1⟩ := hf x us y u1 v (hx 0 x v rfl rfl) e1
      obtain ⟨b2, t2, k2⟩ := export_list hk hf xs u1 ys' u2 vs (by simpa using hl) (fun i x u a b => hx (i + 1) x u (by simpa using a) (by simpa using b)) e2
      refine ⟨b1 ++ b2, .cons t1 t2, List.nodup_append.2 ⟨k1.nodup, k2.nodup, fun a ha b hb hab => ?_⟩, fun b hb => ?_, fun i hi => k2.sub i (k1.sub i hi)⟩
      · subst hab
        obtain ⟨i, x1, q1, _, q2, _, q3⟩ := k1.own a ha
        obtain ⟨j, x2, _, p2, p3, _, p4⟩ := k2.own a hb
        obtain rfl := hk.inj _ _ _ _ _ q2 p3 q3 p4
        exact p2 q1
      · rcases List.mem_append.1 hb with hb | hb
        · obtain ⟨i, x, q1, q2, q3⟩ := k1.own b hb
          exact ⟨i, x, k2.sub i q1, q2, q3⟩
        · obtain ⟨i, x, q1, q2, q3⟩ := k2.own b hb
          exact ⟨i, x, q1, fun h => q2 (k1.sub i h), q3⟩
theorem not_contains {us : List Id} {id : Id} (h : us.contains id = false) : id ∉ us := fun hm => by
  rw [List.contains_iff_mem.2 hm] at h; cases h
theorem export_fresh {H : Array Obj} {F : Nat → Prop} {h : Heap} {M : Id → Option Nat} (hk : HOK H F h M) {id : Id} {off n ext : Nat} {u : Value} {sz e : Nat} {cells : List AV} {us : List Id}
    (hv : VR H F h M (.own id off n ext) u) (hg : h.get id = some (.sl true true sz e cells)) (hc : e = ext ∧ off = 0 ∧ n ≤ e ∧ us.contains id = false) :
    ∃ bs, TR H (VC H F) (VC H F) (.fresh sz n (cut cells off n sz e)) u bs ∧ ExpOK H F h M us (id :: us) bs := by
  obtain ⟨rfl, rfl, hne, hus⟩ := hc
  obtain ⟨a, c, cl, rw', sz', e', cells', rfl, hg', hn, hle, ho⟩ := hv.own_inv
  rw [hg] at hg'
  injection hg' with hg'
  injection hg' with _ _ h1 h2 h3
  subst h1; subst h2; subst h3
  obtain ⟨hl, hr⟩ := hk.row _ _ hg
  rcases (ho rfl).2 with ⟨rfl, rfl⟩ | ⟨b, S, h1, rfl, h3, h4⟩
  · rw [cut_zero hl]
    exact ⟨[], .nil, List.nodup_nil, (fun _ h => by cases h), fun _ h => List.mem_cons_of_mem _ h⟩
  · rcases hr with ⟨_, h0⟩ | ⟨b', cur, t, h6, h7, _, _, h8⟩
    · rw [h1] at h0; cases h0
    · rw [h1] at h6; injection h6 with h6; subst h6
      refine ⟨[b], .fresh h7 hn ?_ ?_ fun i x hx => ?_, by simp, fun c hc => ?_, fun _ h => List.mem_cons_of_mem _ h⟩
      · simp only [rowSize, h7, Option.some.injEq] at h3; omega
      · unfold cut
        split
        · rename_i hh; obtain ⟨_, rfl⟩ := hh; exact hl
        · simp only [List.drop_zero, List.length_take]
          have := Nat.mul_le_mul_right sz hne
          omega
      · have : cells[i]? = some x := by
          unfold cut at hx
          split at hx
          · exact hx
          · rw [List.drop_zero, List.getElem?_take] at hx
            split at hx
            · exact hx
            · cases hx
        obtain ⟨u, a1, a2, _⟩ := h8 i x this
        exact ⟨u, a1, a2 rfl⟩
      · obtain rfl : c = b := by simpa using hc
        exact ⟨id, _, by simp, not_contains hus, hg, rfl, h1⟩
theorem export_frozen {H : Array Obj} {F : Nat → Prop} {h : Heap} {M : Id → Option Nat} (hk : HOK H F h M) {id : Id} {off n ext : Nat} {u : Value} {sz e : Nat} {cells : List AV}
    (hv : VR H F h M (.own id off n ext) u) (hg : h.get id = some (.sl true false sz e cells)) (he : e = ext) : VC H F (.arr n (cut cells off n sz e)) u := by
  refine exportV_own hk hv hg he (fun _ h => h) fun b hb => ?_
  rcases (hk.row _ _ hg).2 with ⟨_, h0⟩ | ⟨b', _, _, h1, _, _, h2, _⟩
  · rw [hb] at h0; cases h0
  · rw [hb] at h1; injection h1 with h1; subst h1; exact h2 rfl
theorem of_frozen {H : Array Obj} {F : Nat → Prop} {h : Heap} {M : Id → Option Nat} (hk : HOK H F h M) {is : List Id} (hf : is.all (frozenId h.get) = true) : ∀ b, Of h M is b → F b := by
  rintro b ⟨id, blk, hi, hg, hm⟩
  have h1 := List.all_eq_true.1 hf id hi
  simp only [frozenId, hg] at h1
  have hr := hk.row _ _ hg
  cases blk with
  | sl cl rw sz e cells =>
    simp [Blk.rw] at h1
    subst h1
    rcases hr.2 with ⟨_, h0⟩ | ⟨b', _, _, h1, _, _, h2, _⟩
    · rw [hm] at h0; cases h0
    · rw [hm] at h1; injection h1 with h1; subst h1; exact h2 rfl
  | bx rw cells =>
    simp [Blk.rw] at h1
    subst h1
    obtain ⟨b', _, _, h1, _, _, _, h2, _⟩ := hr
    rw [hm] at h1; injection h1 with h1; subst h1; exact h2 rfl
theorem exportR_ok {H : Array Obj} {F : Nat → Prop} {h : Heap} {M : Id → Option Nat} (hk : HOK H F h M) : ∀ d, ExportOK H F h M (exportR h.get d) := by
  have plain : ∀ {x y : AV} {us us' : List Id} {u : Value}, VC H F x u → some (x, us) = some (y, us') → ∃ bs, TR H (VC H F) (VC H F) y u bs ∧ ExpOK H F h M us us' bs := fun hv e => by
    simp only [Option.some.injEq, Prod.mk.injEq] at e
    obtain ⟨rfl, rfl⟩ := e
    exact ⟨[], .base hv, .nil⟩
  intro d
  induction d with
  | zero =>
    intro x us y us' u hv e
    cases x with
    | v x => obtain rfl := hv.v_inv; exact plain .v (by simpa only [exportR] using e)
    | arr n xs => exact plain hv.arr_inv (by simpa only [exportR] using e)
    | ref xs off => exact plain hv.ref_inv (by simpa only [exportR] using e)
    | fn f a b =>
      cases a with
      | cons => cases b <;> simp [exportR] at e
      | nil => cases b with
        | cons => simp [exportR] at e
        | nil =>
          obtain ⟨us1, vs1, rfl, l1, x1, l2, x2⟩ := hv.fn_inv
          exact plain (.fn l1 (fun i x u h => by simp at h) l2 (fun i x u h => by simp at h)) (by simpa only [exportR] using e)
    | own id off n ext =>
      simp only [exportR, Option.bind_eq_some_iff] at e
      obtain ⟨blk, hg, e⟩ := e
      split at e
      · split at e
        · rename_i hc
          simp only [Option.some.injEq, Prod.mk.injEq] at e
          obtain ⟨rfl, rfl⟩ := e
          exact export_fresh hk hv hg hc
        · cases e
      · split at e
        · rename_i hc
          exact plain (export_frozen hk hv hg hc) e
        · cases e
      · cases e
    | _ => simp [exportR] at e
  | succ d ih =>
    intro x us y us' u hv e
    cases x with
    | v x => obtain rfl := hv.v_inv; exact plain .v (by simpa only [exportR] using e)
    | arr n xs => exact plain hv.arr_inv (by simpa only [exportR] using e)
    | ref xs off => exact plain hv.ref_inv (by simpa only [exportR] using e)
    | fn f a b =>
      have hcap : ((if (borrowed h.get (d + 1) (.fn f a b)).all (frozenId h.get) = true then (exportV h.get (d + 1) (.fn f a b)).bind fun y => some (y, us) else none) = some (y, us')) → ∃ bs, TR H (VC H F) (VC H F) y u bs ∧ ExpOK H F h M us us' bs := by
        intro e
        split at e
        · rename_i hall
          simp only [Option.bind_eq_some_iff] at e
          obtain ⟨cs, e1, e2⟩ := e
          have h1 := exportV_ok hk (d + 1) (.fn f a b) u cs hv e1
          exact plain (h1.grow fun b hb => hb.elim (fun h => h) fun hb => of_frozen hk hall b hb) e2
        · cases e
      cases a with
      | cons => exact hcap (by simpa only [exportR] using e)
      | nil => cases b with
        | cons => exact hcap (by simpa only [exportR] using e)
        | nil =>
          obtain ⟨us1, vs1, rfl, l1, x1, l2, x2⟩ := hv.fn_inv
          exact plain (.fn l1 (fun i x u h => by simp at h) l2 (fun i x u h => by simp at h)) (by simpa only [exportR] using e)
    | own id off n ext =>
      simp only [exportR, Option.bind_eq_some_iff] at e
      obtain ⟨blk, hg, e⟩ := e
      split at e
      · split at e
        · rename_i hc
          simp only [Option.some.injEq, Prod.mk.injEq] at e
          obtain ⟨rfl, rfl⟩ := e
          exact export_fresh hk hv hg hc
        · cases e
      · split at e
        · rename_i hc
          exact plain (export_frozen hk hv hg hc) e
        · cases e
      · rename_i sz ee cells
        split at e
        · rename_i hc
          obtain ⟨hee, hall⟩ := hc
          simp only [Option.bind_eq_some_iff] at e
          obtain ⟨cs, e1, e2⟩ := e
          have h1 := exportV_ok hk (d + 1) (.own id off n ext) u (.arr n (cut cs off n sz ee)) hv (by simp [exportV, hg, hee, e1])
          refine plain (h1.grow fun b hb => hb.elim (fun h => h) fun hb => of_frozen hk (is := borrowed h.get (d + 1) (.own id off n ext)) ?_ b hb) e2
          simp only [borrowed, hg, List.all_cons, hall, Bool.and_true]
          simp [frozenId, hg, Blk.rw]
        · cases e
      · cases e
    | ptr id off ext =>
      simp only [exportR] at e
      split at e
      · rename_i hc
        obtain ⟨rfl, rfl, hus⟩ := hc
        simp only [Option.bind_eq_some_iff] at e
        obtain ⟨blk, hg, e⟩ := e
        split at e
        · rename_i cells
          simp only [Option.bind_eq_some_iff, Prod.exists, Option.some.injEq, Prod.mk.injEq] at e
          obtain ⟨xs, u1, e1, rfl, rfl⟩ := e
          obtain ⟨blk, hg', _, ho⟩ := hv.ptr_inv
          rw [hg] at hg'; injection hg' with hg'; subst hg'
          obtain ⟨b, hM, rfl⟩ := ho rfl
          obtain ⟨b', cur, t, h1, h2, hl, _, _, h5⟩ := hk.row _ _ hg
          rw [hM] at h1; injection h1 with h1; subst h1
          obtain ⟨bs, t1, k1⟩ := export_list hk ih cells (id :: us) xs u1 cur.toList (by simpa using hl) (fun i x u hx hu => by
            obtain ⟨u', a1, a2⟩ := h5 i x hx
            rw [Array.getElem?_toList, a1] at hu
            injection hu with hu; subst hu; exact a2) e1
          refine ⟨b :: bs, .newbx (e := t) (by simpa using h2) t1, List.nodup_cons.2 ⟨fun hb => ?_, k1.nodup⟩, fun c hc => ?_, fun i hi => k1.sub i (List.mem_cons_of_mem _ hi)⟩
          · obtain ⟨j, z, q1, q2, q3, _, q4⟩ := k1.own b hb
            obtain rfl := hk.inj _ _ _ _ _ hg q3 hM q4
            exact q2 (by simp)
          · rcases List.mem_cons.1 hc with rfl | hc
            · exact ⟨id, _, k1.sub id (by simp), not_contains hus, hg, rfl, hM⟩
            · obtain ⟨j, z, q1, q2, q3⟩ := k1.own c hc
              exact ⟨j, z, q1, fun h => q2 (List.mem_cons_of_mem _ h), q3⟩
        · cases e
      · cases e
    | agg xs =>
      simp only [exportR, Option.bind_eq_some_iff, Prod.exists, Option.some.injEq, Prod.mk.injEq] at e
      obtain ⟨ys, u1, e1, rfl, rfl⟩ := e
      obtain ⟨us1, rfl, l1, x1⟩ := hv.agg_inv
      obtain ⟨bs, t1, k1⟩ := export_list hk ih xs us ys u1 us1 l1 x1 e1
      exact ⟨bs, .agg t1, k1⟩
    | tuple xs =>
      simp only [exportR, Option.bind_eq_some_iff, Prod.exists, Option.some.injEq, Prod.mk.injEq] at e
      obtain ⟨ys, u1, e1, rfl, rfl⟩ := e
      obtain ⟨us1, rfl, l1, x1⟩ := hv.tuple_inv
      obtain ⟨bs, t1, k1⟩ := export_list hk ih xs us ys u1 us1 l1 x1 e1
      exact ⟨bs, .tuple t1, k1⟩
    | fresh sz n xs => simp [exportR] at e
    | freshO sz n xs => simp [exportR] at e
    | newbx xs => simp [exportR] at e
theorem nilNew_ok {H : Array Obj} {C : AV → Value → Prop} (hC : ∀ x u, C (.v x) u → u = x) : ∀ {xs : List AV} {us : List Value} {bs : List Nat} (ss : List Nat), TRL H C C xs us bs → TRL H C C (nilNew xs ss) us bs
  | [], us, bs, ss, h => by
    have : nilNew [] ss = [] := by cases ss <;> rfl
    rw [this]; exact h
  | x :: xs, us, bs, [], h => by
    have : nilNew (x :: xs) [] = x :: xs := by unfold nilNew; split <;> simp_all
    rw [this]; exact h
  | x :: xs, us, bs, s :: ss, h => by
    cases h with
    | @cons _ _ u us b1 b2 h1 h2 =>
      have ih := nilNew_ok hC ss h2
      by_cases hx : x = .v (.slice none 0 0) ∧ ∃ k, s = k + 1
      · obtain ⟨rfl, k, rfl⟩ := hx
        have : nilNew (AV.v (.slice none 0 0) :: xs) ((k + 1) :: ss) = .fresh k 0 [] :: nilNew xs ss := by simp only [nilNew]
        rw [this]
        cases h1 with
        | base hr => obtain rfl := hC _ _ hr; exact .cons .nil ih
      · have : nilNew (x :: xs) (s :: ss) = x :: nilNew xs ss := by
          rw [nilNew]
          intro c e1 e2
          exact hx ⟨e1, c, e2⟩
        rw [this]
        exact .cons h1 ih
theorem TRL.single {H : Array Obj} {C R : AV → Value → Prop} {x : AV} {u : Value} {bs : List Nat} (h : TRL H C R [x] [u] bs) : TR H C R x u bs := by
  generalize hxs : [x] = xs at h
  generalize hus : [u] = us at h
  cases h with
  | nil => cases hxs
  | cons h1 h2 =>
    injection hxs with e1 e2
    injection hus with e3 e4
    subst e1; subst e2; subst e3; subst e4
    generalize hn : ([] : List AV) = zs at h2
    cases h2 with
    | nil => simpa using h1
theorem typed_ok {P : Program} {H : Array Obj} {F : Nat → Prop} {t : TypeId} {x : AV} {u : Value} {bs : List Nat} (h : TR H (VC H F) (VC H F) x u bs) : TR H (VC H F) (VC H F) (typed P t x) u bs := by
  have hC : ∀ x u, VC H F (.v x) u → u = x := fun x u h => by cases h; rfl
  have single : ∀ {x : AV}, TR H (VC H F) (VC H F) x u bs → TR H (VC H F) (VC H F) (match nilNew [x] (sliceCells P 4 t) with | [y] => y | _ => x) u bs := fun {x} h => by
    have h1 := nilNew_ok hC (sliceCells P 4 t) (TRL.cons h .nil)
    split
    · rename_i y hy
      rw [hy, List.append_nil] at h1
      exact h1.single
    · exact h
  unfold typed
  split
  · rename_i xs
    cases h with
    | base hr => cases hr with
      | agg hl hx => exact .agg (nilNew_ok hC _ (TRL.of_all hl hx))
    | agg hx => exact .agg (nilNew_ok hC _ hx)
  · exact single h
theorem typedL_ok {P : Program} {H : Array Obj} {F : Nat → Prop} : ∀ {ts : List TypeId} {xs : List AV} {us : List Value} {bs : List Nat}, TRL H (VC H F) (VC H F) xs us bs → TRL H (VC H F) (VC H F) (typedL P ts xs) us bs
  | [], xs, us, bs, h => by unfold typedL; exact h
  | t :: ts, [], us, bs, h => by unfold typedL; exact h
  | t :: ts, x :: xs, us, bs, h => by
    cases h with
    | cons h1 h2 => exact .cons (typed_ok h1) (typedL_ok h2)
end Go.Av
