/- What a value is to a function that only reads it; rows that are not written any more. Conditions: none. -/
import Derived.Test.YtebfneaimafcoaaGreatSd2
set_option linter.unusedVariables false
namespace Go.Av
def Of (h : Heap) (M : Id → Option Nat) (is : List Id) (b : Nat) : Prop := ∃ id blk, id ∈ is ∧ h.get id = some blk ∧ M id = some b
theorem VC.grow {H : Array Obj} {F F' : Nat → Prop} (hF : ∀ b, F b → F' b) {x : AV} {u : Value} (h : VC H F x u) : VC H F' x u := h.keep hF fun _ _ => rfl
theorem mapM_nil {α β : Type} {f : α → Option β} : ([] : List α).mapM f = some [] := rfl
theorem mapM_cons {α β : Type} {f : α → Option β} {a : α} {l : List α} : (a :: l).mapM f = (f a).bind fun b => (l.mapM f).bind fun bs => some (b :: bs) := by
  rw [List.mapM_cons]; rfl
theorem mapM_get {α β : Type} {f : α → Option β} : ∀ {l : List α} {ys : List β}, l.mapM f = some ys → l.length = ys.length ∧ ∀ (i : Nat) y, ys[i]? = some y → ∃ x, l[i]? = some x ∧ f x = some y
  | [], ys, h => by
    rw [mapM_nil] at h; injection h with h; subst h
    exact ⟨rfl, fun i y h => by simp at h⟩
  | a :: l, ys, h => by
    rw [mapM_cons, Option.bind_eq_some_iff] at h
    obtain ⟨b, h1, h⟩ := h
    rw [Option.bind_eq_some_iff] at h
    obtain ⟨bs, h2, h⟩ := h
    injection h with h; subst h
    obtain ⟨hl, hx⟩ := mapM_get h2
    refine ⟨by simp [hl], fun i y hy => ?_⟩
    cases i with
    | zero => simp at hy; subst hy; exact ⟨a, rfl, h1⟩
    | succ i => simp at hy; simpa using hx i y hy
theorem cut_get {cells : List AV} {off n sz ext : Nat} : ∃ k m, (cut cells off n sz ext) = (cells.drop k).take m ∧ (k = off) := by
  unfold cut
  split
  · rename_i h
    obtain ⟨rfl, _⟩ := h
    exact ⟨0, cells.length, by simp, rfl⟩
  · exact ⟨off, _, rfl, rfl⟩
theorem cut_zero {cells : List AV} {off sz ext : Nat} (hl : cells.length = ext * sz) : cut cells off 0 sz ext = [] := by
  unfold cut
  split
  · rename_i h
    obtain ⟨_, rfl⟩ := h
    simp at hl
    exact hl
  · simp
theorem row_piece {H : Array Obj} {b : Nat} {cur : Array Value} {e : TypeId} {fz : Nat × Nat} (hb : H[b]? = some (.cells cur e fz)) {cells : List AV} {R : AV → Value → Prop}
    (hx : ∀ (i : Nat) x, cells[i]? = some x → ∃ u, cur[i]? = some u ∧ R x u) (k m : Nat) : ∃ us : List Value, Row H b k us ∧ ((cells.drop k).take m).length = us.length ∧
      ∀ (i : Nat) x u, ((cells.drop k).take m)[i]? = some x → us[i]? = some u → R x u := by
  have hlen : cells.length ≤ cur.size := by
    rcases Nat.eq_zero_or_pos cells.length with h | h
    · omega
    · obtain ⟨u, h1, _⟩ := hx (cells.length - 1) _ (List.getElem?_eq_getElem (by omega))
      have := (Array.getElem?_eq_some_iff.1 h1).1
      omega
  refine ⟨(cur.toList.drop k).take ((cells.drop k).take m).length, ⟨cur, e, fz, hb, fun i u h => ?_⟩, ?_, fun i x u h1 h2 => ?_⟩
  · rw [List.getElem?_take] at h
    split at h
    · rw [List.getElem?_drop] at h; simpa using h
    · cases h
  · simp only [List.length_take, List.length_drop, Array.length_toList]; omega
  · rw [List.getElem?_take] at h2
    split at h2
    · rw [List.getElem?_drop] at h2
      rw [List.getElem?_take] at h1
      split at h1
      · rw [List.getElem?_drop] at h1
        obtain ⟨u', h3, h4⟩ := hx _ _ h1
        rw [Array.getElem?_toList, h3] at h2
        injection h2 with h2
        subst h2
        exact h4
      · cases h1
    · cases h2
theorem mem_flatten_map {α β : Type} {f : α → List β} {l : List α} {b : β} {a : α} (ha : a ∈ l) (hb : b ∈ f a) : b ∈ (l.map f).flatten :=
  List.mem_flatten.2 ⟨f a, List.mem_map.2 ⟨a, ha, rfl⟩, hb⟩
theorem VR.own_inv {H : Array Obj} {F : Nat → Prop} {h : Heap} {M : Id → Option Nat} {id : Id} {off n ext : Nat} {u : Value} (hv : VR H F h M (.own id off n ext) u) :
    ∃ a c cl rw sz e cells, u = .slice a n c ∧ h.get id = some (.sl cl rw sz e cells) ∧ n ≤ c ∧ ext ≤ e ∧ (e = ext → OwnAt H M id off n ext sz a c) := by
  cases hv with
  | c hc => cases hc
  | own hg hn hle ho => exact ⟨_, _, _, _, _, _, _, rfl, hg, hn, hle, ho⟩
theorem VR.ptr_inv {H : Array Obj} {F : Nat → Prop} {h : Heap} {M : Id → Option Nat} {id : Id} {off ext : Nat} {u : Value} (hv : VR H F h M (.ptr id off ext) u) :
    ∃ blk, h.get id = some blk ∧ ext ≤ blk.ext ∧ (blk.ext = ext → ∃ b, M id = some b ∧ u = .pointer (some ⟨b, off, none⟩)) := by
  cases hv with
  | c hc => cases hc
  | ptr hg hle ho => exact ⟨_, hg, hle, fun e => (ho e).imp fun _ h => ⟨h.1, by rw [h.2]⟩⟩
theorem VR.ptr_form {H : Array Obj} {F : Nat → Prop} {h : Heap} {M : Id → Option Nat} {id : Id} {off ext : Nat} {u : Value} (hv : VR H F h M (.ptr id off ext) u) : ∃ a, u = .pointer a := by
  cases hv with
  | c hc => cases hc
  | ptr hg hle ho => exact ⟨_, rfl⟩
theorem VR.fn_inv {H : Array Obj} {F : Nat → Prop} {h : Heap} {M : Id → Option Nat} {f : FuncId} {xs ys : List AV} {u : Value} (hv : VR H F h M (.fn f xs ys) u) :
    ∃ us vs, u = .func (.func f) ⟨us⟩ ⟨vs⟩ ∧ xs.length = us.length ∧ (∀ (i : Nat) x u, xs[i]? = some x → us[i]? = some u → VR H F h M x u) ∧
      ys.length = vs.length ∧ (∀ (i : Nat) x u, ys[i]? = some x → vs[i]? = some u → VR H F h M x u) := by
  cases hv with
  | c hc => cases hc with
    | fn h1 h2 h3 h4 => exact ⟨_, _, rfl, h1, fun i x u a b => .c (h2 i x u a b), h3, fun i x u a b => .c (h4 i x u a b)⟩
  | fn h1 h2 h3 h4 => exact ⟨_, _, rfl, h1, h2, h3, h4⟩
theorem VR.v_inv {H : Array Obj} {F : Nat → Prop} {h : Heap} {M : Id → Option Nat} {x u : Value} (hv : VR H F h M (.v x) u) : u = x := by
  cases hv with
  | c hc => cases hc; rfl
theorem VR.arr_inv {H : Array Obj} {F : Nat → Prop} {h : Heap} {M : Id → Option Nat} {n : Nat} {xs : List AV} {u : Value} (hv : VR H F h M (.arr n xs) u) : VC H F (.arr n xs) u := by
  cases hv with
  | c hc => exact hc
theorem VR.ref_inv {H : Array Obj} {F : Nat → Prop} {h : Heap} {M : Id → Option Nat} {n : Nat} {xs : List AV} {u : Value} (hv : VR H F h M (.ref xs n) u) : VC H F (.ref xs n) u := by
  cases hv with
  | c hc => exact hc
theorem own_arr {H : Array Obj} {G : Nat → Prop} {M : Id → Option Nat} {id : Id} {off n sz e c : Nat} {a : Option Addr} {cs : List AV}
    (hr : (e = 0 ∧ M id = none) ∨ ∃ b cur t, M id = some b ∧ H[b]? = some (.cells cur t (0, 0)) ∧ ∀ (i : Nat) x, cs[i]? = some x → ∃ u, cur[i]? = some u ∧ VC H G x u)
    (hl : cs.length = e * sz) (ho : OwnAt H M id off n e sz a c) (hn : n ≤ c) (hG : ∀ b, M id = some b → G b) : VC H G (.arr n (cut cs off n sz e)) (.slice a n c) := by
  rcases ho.2 with ⟨rfl, rfl⟩ | ⟨b, S, h1, rfl, h3, h4⟩
  · rw [cut_zero hl]; exact .arr0
  · rcases hr with ⟨_, h0⟩ | ⟨b', cur, t, h6, h7, h8⟩
    · rw [h1] at h0; cases h0
    · rw [h1] at h6; injection h6 with h6; subst h6
      obtain ⟨k, m, hc, rfl⟩ := cut_get (cells := cs) (off := off) (n := n) (sz := sz) (ext := e)
      rw [hc]
      obtain ⟨us, hR, hU, hX⟩ := row_piece h7 h8 k m
      exact .arr hn (hG _ h1) hR hU hX
theorem exportV_own {H : Array Obj} {F : Nat → Prop} {h : Heap} {M : Id → Option Nat} (hk : HOK H F h M) {id : Id} {off n ext : Nat} {u : Value} {rw : Bool} {sz e : Nat} {cells : List AV}
    (hv : VR H F h M (.own id off n ext) u) (hg : h.get id = some (.sl true rw sz e cells)) (he : e = ext) {G : Nat → Prop} (hF : ∀ b, F b → G b) (hG : ∀ b, M id = some b → G b) :
    VC H G (.arr n (cut cells off n sz e)) u := by
  obtain ⟨a, c, cl, rw', sz', e', cells', rfl, hg', hn, hle, ho⟩ := hv.own_inv
  rw [hg] at hg'
  injection hg' with hg'
  injection hg' with _ _ h1 h2 h3
  subst h1; subst h2; subst h3; subst he
  obtain ⟨hl, hr⟩ := hk.row _ _ hg
  refine own_arr ?_ hl (ho rfl) hn hG
  rcases hr with h0 | ⟨b, cur, t, h1, h2, _, _, h5⟩
  · exact .inl h0
  · exact .inr ⟨b, cur, t, h1, h2, fun i x hx => let ⟨u, a1, a2, _⟩ := h5 i x hx; ⟨u, a1, (a2 rfl).grow hF⟩⟩
theorem exportV_ok {H : Array Obj} {F : Nat → Prop} {h : Heap} {M : Id → Option Nat} (hk : HOK H F h M) : ∀ d x u y, VR H F h M x u → exportV h.get d x = some y →
    VC H (fun b => F b ∨ Of h M (borrowed h.get d x) b) y u := by
  have ownC : ∀ d id off n ext u y, VR H F h M (.own id off n ext) u → ∀ rw sz e cells, h.get id = some (.sl true rw sz e cells) → exportV h.get d (.own id off n ext) = some y →
      VC H (fun b => F b ∨ Of h M (borrowed h.get d (.own id off n ext)) b) y u := fun d id off n ext u y hv rw sz e cells hg he => by
    have he' : (if e = ext then some (AV.arr n (cut cells off n sz e)) else none) = some y := by
      cases d <;> simpa only [exportV, hg, Option.bind_some] using he
    split at he'
    · rename_i hee
      simp only [Option.some.injEq] at he'
      subst he'
      exact exportV_own hk hv hg hee (fun _ h => .inl h) fun b hb => .inr ⟨id, _, by cases d <;> simp [borrowed], hg, hb⟩
    · cases he'
  have vcase : ∀ d x u y, VR H F h M (.v x) u → exportV h.get d (.v x) = some y → VC H (fun b => F b ∨ Of h M (borrowed h.get d (.v x)) b) y u := fun d x u y hv he => by
    obtain rfl := hv.v_inv
    by_cases hx : ∃ a c, u = .slice a 0 c
    · obtain ⟨a, c, rfl⟩ := hx
      simp only [exportV, Option.some.injEq] at he
      subst he
      exact .arr0
    · have : exportV h.get d (.v u) = some (.v u) := by
        unfold exportV
        split <;> simp_all
      rw [this] at he; injection he with he; subst he
      exact .v
  intro d
  induction d with
  | zero =>
    intro x u y hv e
    cases x with
    | v x => exact vcase _ _ _ _ hv e
    | arr n xs => simp only [exportV, Option.some.injEq] at e; subst e; exact hv.arr_inv.grow fun _ h => .inl h
    | ref xs off => simp only [exportV, Option.some.injEq] at e; subst e; exact hv.ref_inv.grow fun _ h => .inl h
    | own id off n ext =>
      cases hg : h.get id with
      | none => simp [exportV, hg] at e
      | some b =>
        cases b with
        | bx rw cells => simp [exportV, hg] at e
        | sl cl rw sz ee cells =>
          cases cl with
          | true => exact ownC _ _ _ _ _ _ _ hv _ _ _ _ hg e
          | false => simp [exportV, hg] at e
    | fn f a b =>
      cases a with
      | cons => cases b <;> simp [exportV] at e
      | nil =>
        cases b with
        | cons => simp [exportV] at e
        | nil =>
          simp only [exportV, Option.some.injEq] at e
          subst e
          obtain ⟨us, vs, rfl, l1, x1, l2, x2⟩ := hv.fn_inv
          exact .fn l1 (fun i x u h => by simp at h) l2 (fun i x u h => by simp at h)
    | _ => simp [exportV] at e
  | succ d ih =>
    intro x u y hv e
    have lists : ∀ {xs : List AV} {us : List Value} {ys : List AV} (G : Nat → Prop), (∀ b, F b ∨ Of h M ((xs.map (borrowed h.get d)).flatten) b → G b) → xs.length = us.length →
        (∀ (i : Nat) x u, xs[i]? = some x → us[i]? = some u → VR H F h M x u) → xs.mapM (exportV h.get d) = some ys →
        ys.length = us.length ∧ ∀ (i : Nat) y u, ys[i]? = some y → us[i]? = some u → VC H G y u := fun {xs us ys} G hG hl hx he => by
      obtain ⟨h1, h2⟩ := mapM_get he
      refine ⟨by omega, fun i y u hy hu => ?_⟩
      obtain ⟨x, hx1, hx2⟩ := h2 i y hy
      exact (ih x u y (hx i x u hx1 hu) hx2).grow fun b hb => hG b (hb.imp_right fun ⟨id, k, hi, hm⟩ => ⟨id, k, mem_flatten_map (List.mem_of_getElem? hx1) hi, hm⟩)
    cases x with
    | v x => exact vcase _ _ _ _ hv e
    | arr n xs => simp only [exportV, Option.some.injEq] at e; subst e; exact hv.arr_inv.grow fun _ h => .inl h
    | ref xs off => simp only [exportV, Option.some.injEq] at e; subst e; exact hv.ref_inv.grow fun _ h => .inl h
    | own id off n ext =>
      cases hg : h.get id with
      | none => simp [exportV, hg] at e
      | some b =>
        cases b with
        | bx rw cells => simp [exportV, hg] at e
        | sl cl rw sz ee cells =>
          cases cl with
          | true => exact ownC _ _ _ _ _ _ _ hv _ _ _ _ hg e
          | false =>
            simp only [exportV, hg, Option.bind_some] at e
            split at e
            · rename_i hee
              simp only [Option.bind_eq_some_iff, Option.some.injEq] at e
              obtain ⟨cs, e1, rfl⟩ := e
              subst hee
              obtain ⟨a, c, cl, rw', sz', e', cells', rfl, hg', hn, hle, ho⟩ := hv.own_inv
              rw [hg] at hg'
              injection hg' with hg'
              injection hg' with _ _ h1 h2 h3
              subst h1; subst h2; subst h3
              obtain ⟨hl, hr⟩ := hk.row _ _ hg
              obtain ⟨q1, q2⟩ := mapM_get e1
              refine own_arr ?_ (by omega) (ho rfl) hn fun b hb => .inr ⟨id, _, by simp [borrowed], hg, hb⟩
              rcases hr with h0 | ⟨b, cur, t, h1, h2, _, _, h5⟩
              · exact .inl h0
              · refine .inr ⟨b, cur, t, h1, h2, fun i x hx => ?_⟩
                obtain ⟨z, hz1, hz2⟩ := q2 i x hx
                obtain ⟨u, a1, _, a2⟩ := h5 i z hz1
                exact ⟨u, a1, (ih z u x (a2 rfl) hz2).grow fun b hb => hb.imp_right fun ⟨j, k, hj, hm⟩ => ⟨j, k, by
                  simp only [borrowed, hg, List.mem_cons]
                  exact .inr (mem_flatten_map (List.mem_of_getElem? hz1) hj), hm⟩⟩
            · cases e
    | ptr id off ext =>
      cases hg : h.get id with
      | none => simp [exportV, hg] at e
      | some blk =>
        cases blk with
        | sl cl rw sz ee cells => simp [exportV, hg] at e
        | bx rw cells =>
          simp only [exportV, hg, Option.bind_some] at e
          split at e
          · rename_i hee
            subst hee
            simp only [Option.bind_eq_some_iff, Option.some.injEq] at e
            obtain ⟨cs, e1, rfl⟩ := e
            obtain ⟨blk, hg', _, ho⟩ := hv.ptr_inv
            rw [hg] at hg'; injection hg' with hg'; subst hg'
            obtain ⟨b, hM, rfl⟩ := ho rfl
            obtain ⟨b', cur, t, h1, h2, _, _, _, h5⟩ := hk.row _ _ hg
            rw [hM] at h1; injection h1 with h1; subst h1
            obtain ⟨q1, q2⟩ := mapM_get e1
            obtain ⟨us, hR, hU, hX⟩ := row_piece (cells := cs) (R := VC H (fun b => F b ∨ Of h M (borrowed h.get (d + 1) (.ptr id off 0)) b)) h2 (fun i x hx => by
              obtain ⟨z, hz1, hz2⟩ := q2 i x hx
              obtain ⟨u, a1, a2⟩ := h5 i z hz1
              exact ⟨u, a1, (ih z u x a2 hz2).grow fun b hb => hb.imp_right fun ⟨j, k, hj, hm⟩ => ⟨j, k, by
                simp only [borrowed, hg, List.mem_cons]
                exact .inr (mem_flatten_map (List.mem_of_getElem? hz1) hj), hm⟩⟩) 0 cs.length
            simp only [List.drop_zero, List.take_length] at hU hX
            have hr := VC.ref (off := off) (F := fun b => F b ∨ Of h M (borrowed h.get (d + 1) (.ptr id off 0)) b) (Or.inr ⟨id, _, by simp [borrowed], hg, hM⟩) hR hU hX
            simpa using hr
          · cases e
    | fn f a b =>
      simp only [exportV, Option.bind_eq_some_iff, Option.some.injEq] at e
      obtain ⟨a', e1, b', e2, rfl⟩ := e
      obtain ⟨us, vs, rfl, l1, x1, l2, x2⟩ := hv.fn_inv
      obtain ⟨m1, y1⟩ := lists (fun c => F c ∨ Of h M (borrowed h.get (d + 1) (.fn f a b)) c) (fun c hc => hc.imp_right fun ⟨i, k, hi, hm⟩ => ⟨i, k, by simp only [borrowed]; exact List.mem_append_left _ hi, hm⟩) l1 x1 e1
      obtain ⟨m2, y2⟩ := lists (fun c => F c ∨ Of h M (borrowed h.get (d + 1) (.fn f a b)) c) (fun c hc => hc.imp_right fun ⟨i, k, hi, hm⟩ => ⟨i, k, by simp only [borrowed]; exact List.mem_append_right _ hi, hm⟩) l2 x2 e2
      exact .fn m1 y1 m2 y2
    | agg xs =>
      simp only [exportV, Option.bind_eq_some_iff, Option.some.injEq] at e
      obtain ⟨a', e1, rfl⟩ := e
      obtain ⟨us, rfl, l1, x1⟩ := hv.agg_inv
      obtain ⟨m1, y1⟩ := lists (fun c => F c ∨ Of h M (borrowed h.get (d + 1) (.agg xs)) c) (fun c hc => by simpa only [borrowed] using hc) l1 x1 e1
      exact .agg m1 y1
    | tuple xs =>
      simp only [exportV, Option.bind_eq_some_iff, Option.some.injEq] at e
      obtain ⟨a', e1, rfl⟩ := e
      obtain ⟨us, rfl, l1, x1⟩ := hv.tuple_inv
      obtain ⟨m1, y1⟩ := lists (fun c => F c ∨ Of h M (borrowed h.get (d + 1) (.tuple xs)) c) (fun c hc => by simpa only [borrowed] using hc) l1 x1 e1
      exact .tuple m1 y1
    | fresh sz n xs => simp [exportV] at e
    | freshO sz n xs => simp [exportV] at e
    | newbx xs => simp [exportV] at e
theorem Held.freeze {H : Array Obj} {M : Id → Option Nat} {id : Id} (b : Blk) : Held H H M M id b b.freeze := by
  refine ⟨fun cl rw sz e cs he => ?_, ?_, fun _ => ⟨rfl, fun _ _ => rfl⟩⟩
  · subst he; exact ⟨_, _, _, _, rfl, Nat.le_refl _⟩
  · cases b <;> simp [Blk.freeze, Blk.ext]
structure Frz (h : Heap) (h' : Heap) : Prop where
  fwd : ∀ id x, h.get id = some x → h'.get id = some x ∨ h'.get id = some x.freeze
  bwd : ∀ id y, h'.get id = some y → ∃ x, h.get id = some x ∧ (y = x ∨ y = x.freeze)
theorem freeze_freeze (b : Blk) : b.freeze.freeze = b.freeze := by cases b <;> rfl
theorem Frz.refl (h : Heap) : Frz h h := ⟨fun _ _ e => .inl e, fun _ y e => ⟨y, e, .inl rfl⟩⟩
theorem Frz.trans {h h1 h2 : Heap} (a : Frz h h1) (b : Frz h1 h2) : Frz h h2 := by
  refine ⟨fun id x e => ?_, fun id y e => ?_⟩
  · rcases a.fwd id x e with e1 | e1
    · exact b.fwd id x e1
    · rcases b.fwd id _ e1 with e2 | e2
      · exact .inr e2
      · exact .inr (by rw [freeze_freeze] at e2; exact e2)
  · obtain ⟨x, e1, h1⟩ := b.bwd id y e
    obtain ⟨z, e2, h2⟩ := a.bwd id x e1
    refine ⟨z, e2, ?_⟩
    rcases h1 with rfl | rfl <;> rcases h2 with rfl | rfl <;> simp [freeze_freeze]
theorem Frz.held {H : Array Obj} {h h' : Heap} {M : Id → Option Nat} (a : Frz h h') : ∀ id x, h.get id = some x → ∃ y, h'.get id = some y ∧ Held H H M M id x y := fun id x e => by
  rcases a.fwd id x e with e1 | e1
  · exact ⟨x, e1, Held.refl rfl fun _ _ => rfl⟩
  · exact ⟨_, e1, Held.freeze x⟩
theorem HOK.freeze1 {H : Array Obj} {F : Nat → Prop} {h : Heap} {M : Id → Option Nat} (hk : HOK H F h M) {k : Id} {b : Blk} (hb : h.get k = some b) :
    HOK H (fun c => F c ∨ M k = some c) (h.set k b.freeze) M ∧ Frz h (h.set k b.freeze) := by
  have hfr : Frz h (h.set k b.freeze) := by
    refine ⟨fun id x e => ?_, fun id y e => ?_⟩
    · rw [get_set]
      by_cases he : id = k
      · subst he; rw [hb] at e; injection e with e; subst e; exact .inr (by simp)
      · exact .inl (by simp [he, e])
    · rw [get_set] at e
      by_cases he : id = k
      · subst he; simp at e; exact ⟨b, hb, .inr e.symm⟩
      · simp [he] at e; exact ⟨y, e, .inl rfl⟩
  refine ⟨⟨fun id x hg => ?_, fun id id' x x' c g1 g2 m1 m2 => ?_, fun c hc => ?_⟩, hfr⟩
  · obtain ⟨x0, hx0, hor⟩ := hfr.bwd id x hg
    have hr := hk.row id x0 hx0
    by_cases he : id = k
    · subst he
      rw [get_set_same] at hg
      injection hg with hg
      subst hg
      rw [hb] at hx0; injection hx0 with hx0; subst hx0
      cases b with
      | sl cl rw sz e cells =>
        obtain ⟨hl, hr⟩ := hr
        refine ⟨hl, ?_⟩
        rcases hr with h0 | ⟨b, cur, t, h1, h2, h3, h4, h5⟩
        · exact .inl h0
        · exact .inr ⟨b, cur, t, h1, h2, (fun h => by cases h), fun _ => .inr h1, fun i x hx => let ⟨u, a1, a2, a3⟩ := h5 i x hx;
            ⟨u, a1, fun e => (a2 e).grow fun _ h => .inl h, fun e => (a3 e).keep (fun _ h => .inl h) (fun _ _ => rfl) hfr.held⟩⟩
      | bx rw cells =>
        obtain ⟨b, cur, t, h1, h2, hl, h3, h4, h5⟩ := hr
        exact ⟨b, cur, t, h1, h2, hl, (fun h => by cases h), fun _ => .inr h1, fun i x hx => let ⟨u, a1, a2⟩ := h5 i x hx;
          ⟨u, a1, a2.keep (fun _ h => .inl h) (fun _ _ => rfl) hfr.held⟩⟩
    · rw [get_set_ne _ _ _ _ he] at hg
      rw [hg] at hx0; injection hx0 with hx0; subst hx0
      refine hr.keep (fun _ h => .inl h) (fun _ _ => rfl) hfr.held rfl fun c hc => ⟨rfl, fun _ h => ?_⟩
      rcases h with h | h
      · exact h
      · exact absurd (hk.inj _ _ _ _ _ hg hb hc h) he
  · obtain ⟨x0, hx0, _⟩ := hfr.bwd _ _ g1
    obtain ⟨x1, hx1, _⟩ := hfr.bwd _ _ g2
    exact hk.inj _ _ _ _ _ hx0 hx1 m1 m2
  · rcases hc with hc | hc
    · exact hk.fb c hc
    · have hr := hk.row k b hb
      cases b with
      | sl cl rw sz e cells =>
        obtain ⟨_, hr⟩ := hr
        rcases hr with ⟨_, h0⟩ | ⟨b, cur, t, h1, h2, _⟩
        · rw [h0] at hc; cases hc
        · rw [h1] at hc; injection hc with hc; subst hc; exact (Array.getElem?_eq_some_iff.1 h2).1
      | bx rw cells =>
        obtain ⟨b, cur, t, h1, h2, _⟩ := hr
        rw [h1] at hc; injection hc with hc; subst hc; exact (Array.getElem?_eq_some_iff.1 h2).1
theorem HOK.congrF {H : Array Obj} {F F' : Nat → Prop} {h : Heap} {M : Id → Option Nat} (hk : HOK H F h M) (hF : ∀ b, F b ↔ F' b) : HOK H F' h M := by
  have : F = F' := funext fun b => propext (hF b)
  exact this ▸ hk
theorem freezeAll_ok {H : Array Obj} {M : Id → Option Nat} : ∀ (is : List Id) {F : Nat → Prop} {h : Heap}, HOK H F h M →
    HOK H (fun c => F c ∨ Of h M is c) (freezeAll h is) M ∧ Frz h (freezeAll h is)
  | [], F, h, hk => ⟨hk.congrF fun b => ⟨.inl, fun h => h.elim id fun ⟨i, _, hi, _⟩ => by cases hi⟩, Frz.refl h⟩
  | i :: is, F, h, hk => by
    unfold freezeAll
    cases hg : Heap.get h i with
    | none =>
      obtain ⟨k1, f1⟩ := freezeAll_ok is hk
      refine ⟨k1.congrF fun b => ⟨fun h => h.imp_right fun ⟨j, y, hj, e1, e2⟩ => ⟨j, y, List.mem_cons_of_mem _ hj, e1, e2⟩, fun h => h.imp_right fun ⟨j, y, hj, e1, e2⟩ => ?_⟩, f1⟩
      rcases List.mem_cons.1 hj with rfl | hj
      · rw [hg] at e1; cases e1
      · exact ⟨j, y, hj, e1, e2⟩
    | some b =>
      obtain ⟨k0, f0⟩ := hk.freeze1 hg
      obtain ⟨k1, f1⟩ := freezeAll_ok is k0
      refine ⟨k1.congrF fun c => ⟨fun h => ?_, fun h => ?_⟩, f0.trans f1⟩
      · rcases h with (h | h) | ⟨j, y, hj, e1, e2⟩
        · exact .inl h
        · exact .inr ⟨i, b, by simp, hg, h⟩
        · obtain ⟨x, hx, _⟩ := f0.bwd _ _ e1
          exact .inr ⟨j, x, List.mem_cons_of_mem _ hj, hx, e2⟩
      · rcases h with h | ⟨j, y, hj, e1, e2⟩
        · exact .inl (.inl h)
        · rcases List.mem_cons.1 hj with rfl | hj
          · exact .inl (.inr e2)
          · obtain ⟨z, hz, _⟩ := f0.held (H := H) (M := M) _ _ e1
            exact .inr ⟨j, z, hj, hz, e2⟩
end Go.Av
