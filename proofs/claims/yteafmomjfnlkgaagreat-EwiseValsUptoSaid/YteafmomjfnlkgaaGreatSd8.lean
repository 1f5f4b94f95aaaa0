/- An operation that turns no row does in the model what it does in the interpreter. Conditions: none. -/
import Derived.Test.YteafmomjfnlkgaaGreatSd7
set_option linter.unusedVariables false
namespace Go.Av
section
variable {P : Program} {w : World} {F : Nat → Prop} {h : Heap} {M : Id → Option Nat}
def YldN (P : Program) (w : World) (F : Nat → Prop) (h : Heap) (M : Id → Option Nat) (s : Sem Next) (t : AV) : Prop :=
  ∃ u w' bs, s.run P w = .ok (.value u) w' ∧ w.grownBy w' none ∧ TR w'.heap (VC w'.heap F) (VR w'.heap F h M) t u bs ∧ bs.Nodup ∧ ∀ b ∈ bs, w.heap.size ≤ b ∧ b < w'.heap.size
theorem Yld.next {s : Sem Value} {t : AV} (hy : Yld P w F h M s t) : YldN P w F h M (do pure (.value (← s))) t := by
  obtain ⟨u, w', bs, h1, h2⟩ := hy
  exact ⟨u, w', bs, by simp [h1], h2⟩
theorem YldN.same {s : Sem Value} {t : AV} {u : Value} (hr : s.run P w = .ok u w) (hv : VR w.heap F h M t u) : YldN P w F h M (do pure (.value (← s))) t := (Yld.same hr hv).next
theorem YldN.val {t : AV} {u : Value} (hv : VR w.heap F h M t u) : YldN P w F h M (pure (.value u)) t :=
  ⟨u, w, [], rfl, grown_refl w, .base hv, List.nodup_nil, fun _ h => by cases h⟩
theorem parts_ok {e : Nat → Option AV} {a : Act} (he : EnvR w.heap F h M e a) : ∀ {ps : List (Nat × Operand)} {qs : List (Nat × AV)}, optL (fun p : Nat × Operand => (opnd e p.2).bind fun y => some (p.1, y)) ps = some qs →
    PartsR (VR w.heap F h M) qs (ps.map fun (i, x) => (i, a.eval x)) := by
  intro ps qs ho
  obtain ⟨h1, h2⟩ := optL_ok ho
  refine ⟨by simp [h1], fun i p q hp hq => ?_⟩
  obtain ⟨x, hx1, hx2⟩ := h2 i p hp
  rw [List.getElem?_map, hx1] at hq
  simp only [Option.map_some, Option.some.injEq] at hq
  subst hq
  simp only [Option.bind_eq_some_iff, Option.some.injEq] at hx2
  obtain ⟨y, hy, rfl⟩ := hx2
  exact ⟨rfl, opnd_ok he hy⟩
theorem optS_ok {e : Nat → Option AV} {a : Act} (he : EnvR w.heap F h M e a) {x : Option Operand} {y : Option AV} (ho : optS (opnd e) x = some y) :
    OptR (VR w.heap F h M) y (x.map a.eval) := by
  cases x with
  | none => simp only [optS, Option.some.injEq] at ho; subst ho; trivial
  | some x =>
    simp only [optS, Option.bind_eq_some_iff, Option.some.injEq] at ho
    obtain ⟨z, hz, rfl⟩ := ho
    exact opnd_ok he hz
theorem alen_ok {H : Array Obj} {x : AV} {u : Value} {n : Nat} (hv : VR H F h M x u) (e : alen x = some n) : ∃ a c, u = .slice a n c := by
  unfold alen at e
  split at e
  · injection e with e; subst e; cases hv.arr_inv <;> exact ⟨_, _, rfl⟩
  · injection e with e; subst e; obtain ⟨a, c, _, _, _, _, _, rfl, _⟩ := hv.own_inv; exact ⟨_, _, rfl⟩
  · injection e with e; subst e; obtain rfl := hv.v_inv; exact ⟨_, _, rfl⟩
  · cases e
theorem abuiltin_ok {b : Builtin} {ts : Array TypeId} {xs : List AV} {us : List Value} {y : AV} (hl : xs.length = us.length)
    (hx : ∀ (i : Nat) x u, xs[i]? = some x → us[i]? = some u → VR w.heap F h M x u) (e : abuiltin P b ts xs = some y) : ∃ v, (∀ ty cs, (Go.builtin b ts ty cs ⟨us⟩).run P w = .ok (.value v) w) ∧ VR w.heap F h M y v := by
  unfold abuiltin at e
  split at e
  · rename_i x
    match us, hl with
    | [u], _ =>
      have hv := hx 0 x u rfl rfl
      simp only [Option.bind_eq_some_iff] at e
      obtain ⟨t, ht, tv, htv, e⟩ := e
      split at e
      · obtain ⟨hu, _⟩ := tview_slice htv
        simp only [Option.bind_eq_some_iff, Option.some.injEq] at e
        obtain ⟨n, hn, rfl⟩ := e
        obtain ⟨a, c, rfl⟩ := alen_ok hv hn
        exact ⟨_, fun ty cs => by simp [Go.builtin, Builtin.len_, ht, run_underlying hu, goInt], .c .v⟩
      · have hu := tview_str htv
        split at e
        · obtain rfl := hv.v_inv
          injection e with e; subst e
          exact ⟨_, fun ty cs => by simp [Go.builtin, Builtin.len_, ht, run_underlying hu, goInt], .c .v⟩
        · cases e
      · rename_i n et sz
        obtain ⟨hu, _⟩ := tview_array htv
        injection e with e; subst e
        exact ⟨_, fun ty cs => by simp [Go.builtin, Builtin.len_, ht, run_underlying hu, goInt], .c .v⟩
      · cases e
  · match us, hl with
    | [u], _ =>
      obtain rfl := (hx 0 _ u rfl rfl).v_inv
      simp only [Option.bind_eq_some_iff] at e
      obtain ⟨t, ht, tv, htv, e⟩ := e
      split at e
      · obtain ⟨hu, _⟩ := tview_slice htv
        injection e with e; subst e
        exact ⟨_, fun ty cs => by simp [Go.builtin, Builtin.cap_, ht, run_underlying hu, goInt], .c .v⟩
      · cases e
  · rename_i k a k' b'
    match us, hl with
    | [u, v], _ =>
      obtain rfl := (hx 0 _ u rfl rfl).v_inv
      obtain rfl := (hx 1 _ v rfl rfl).v_inv
      split at e
      · rename_i hk
        subst hk
        injection e with e; subst e
        refine ⟨_, fun ty cs => ?_, .c .v⟩
        simp [Go.builtin, Builtin.min_, Builtin.min2]
      · cases e
  · rename_i k a k' b'
    match us, hl with
    | [u, v], _ =>
      obtain rfl := (hx 0 _ u rfl rfl).v_inv
      obtain rfl := (hx 1 _ v rfl rfl).v_inv
      split at e
      · rename_i hk
        subst hk
        injection e with e; subst e
        refine ⟨_, fun ty cs => ?_, .c .v⟩
        simp [Go.builtin, Builtin.max_, Builtin.max2]
      · cases e
  · cases e
theorem YldN.run {s : Sem Next} {t : AV} {u : Value} (hr : s.run P w = .ok (.value u) w) (hv : VR w.heap F h M t u) : YldN P w F h M s t :=
  ⟨u, w, [], hr, grown_refl w, .base hv, List.nodup_nil, fun _ h => by cases h⟩
theorem aq_ok (hk : HOK w.heap F h M) {e : Nat → Option AV} {a : Act} (he : EnvR w.heap F h M e a) {o : Oper} {t : AV} (hq : aq P e h.get o.op = some t) : YldN P w F h M (execOp a.eval o) t := by
  unfold aq at hq
  unfold execOp
  split at hq <;> rename_i hop <;> simp only [hop]
  · exact .val (opnd_ok he hq)
  · exact .val (opnd_ok he hq)
  · -- pick
    simp only [Option.bind_eq_some_iff] at hq
    obtain ⟨c, hc, hq⟩ := hq
    split at hq
    · have hcv := (opnd_ok he hc).v_inv
      split at hq
      · rename_i hb
        exact .run (by simp [hcv, asBool, hb]) (opnd_ok he hq)
      · rename_i hb
        exact .run (by simp [hcv, asBool, hb]) (opnd_ok he hq)
    · cases hq
  · -- alloc
    simp only [Option.bind_eq_some_iff, Option.some.injEq] at hq
    obtain ⟨z, hz, rfl⟩ := hq
    exact (alloc_ok hk hz).next
  · -- box
    simp only [Option.bind_eq_some_iff] at hq
    obtain ⟨y, hy, hq⟩ := hq
    split at hq
    · injection hq with hq; subst hq
      exact (box_ok hk (opnd_ok he hy) (by assumption)).next
    · cases hq
  · -- build
    simp only [Option.bind_eq_some_iff] at hq
    obtain ⟨ps, hps, hq⟩ := hq
    obtain ⟨u, h1, h2⟩ := abuild_ok (parts_ok he (by simpa only [Option.bind_eq_some_iff] using hps)) hq
    exact .same (by simpa using h1) h2
  · -- buildSlice
    simp only [Option.bind_eq_some_iff] at hq
    obtain ⟨ps, hps, hq⟩ := hq
    have h1 := abuildSlice_ok hk (parts_ok he (by simpa only [Option.bind_eq_some_iff] using hps)) hq
    simpa using h1.next
  · -- load
    simp only [Option.bind_eq_some_iff] at hq
    obtain ⟨p, hp, hq⟩ := hq
    obtain ⟨v, h1, h2⟩ := aload_ok (P := P) hk (opnd_ok he hp) hq
    exact .same h1 h2
  · -- nilCheck
    simp only [Option.bind_eq_some_iff] at hq
    obtain ⟨y, hy, hq⟩ := hq
    have hv := opnd_ok he hy
    split at hq
    · split at hq
      · rename_i hl
        obtain ⟨b, hg, hb⟩ := live_some hl
        injection hq with hq; subst hq
        obtain ⟨x, hu, _⟩ := ptr_off hk hv hg hb 0
        refine .run ?_ hv
        simp only [hu]
        rfl
      · cases hq
    · injection hq with hq; subst hq
      obtain ⟨x, hu, _⟩ := hv.ref_inv.ref_off 0
      refine .run ?_ hv
      simp only [hu]
      rfl
    · injection hq with hq; subst hq
      obtain ⟨us, vs, hu, _⟩ := hv.fn_inv
      refine .run ?_ hv
      simp only [hu]
      rfl
    · cases hq
  · -- binOp
    simp only [Option.bind_eq_some_iff] at hq
    obtain ⟨x, hx, y, hy, hq⟩ := hq
    obtain ⟨z, h1, rfl⟩ := abin_ok (P := P) (opnd_ok he hx) (opnd_ok he hy) hq
    exact .same h1 (.c .v)
  · -- unOp
    simp only [Option.bind_eq_some_iff] at hq
    obtain ⟨x, hx, hq⟩ := hq
    obtain ⟨z, h1, rfl⟩ := aun_ok (P := P) (opnd_ok he hx) hq
    exact .same h1 (.c .v)
  · -- convert
    simp only [Option.bind_eq_some_iff] at hq
    obtain ⟨x, hx, tv1, ht1, tv2, ht2, n, hn, hq⟩ := hq
    obtain ⟨k, hu⟩ := asI_ok (opnd_ok he hx) hn
    split at hq
    · injection hq with hq; subst hq
      obtain ⟨d1, hd1⟩ := tview_some ht1
      have hd2 := tview_int ht2
      refine .same (u := .int _ _) ?_ (.c .v)
      rw [hu]
      simp [convert, run_underlying hd1, run_underlying hd2, Conv.intToInt]
    · cases hq
  · -- makeFunc
    simp only [Option.bind_eq_some_iff, Option.some.injEq] at hq
    obtain ⟨xs, hx, ys, hy, rfl⟩ := hq
    obtain ⟨l1, x1⟩ := opnds_ok he hx
    obtain ⟨l2, x2⟩ := opnds_ok he hy
    refine .same (u := .func (.func _) ⟨_⟩ ⟨_⟩) ?_ (.fn l1 x1 l2 x2)
    simp [Instr.makeFunc]
  · -- makeSlice
    simp only [Option.bind_eq_some_iff] at hq
    obtain ⟨x, hx, y, hy, n, hn, c, hc, tv, htv, hq⟩ := hq
    obtain ⟨k, hu⟩ := asI_ok (opnd_ok he hx) hn
    obtain ⟨k', hu'⟩ := asI_ok (opnd_ok he hy) hc
    split at hq
    · simp only [Option.bind_eq_some_iff] at hq
      obtain ⟨z, hz, hq⟩ := hq
      split at hq
      · rename_i hcond
        injection hq with hq; subst hq
        obtain ⟨c1, c2, c3, c4, c5⟩ := hcond
        rw [hu, hu']
        exact (makeSlice_ok hk htv hz c1 c2 c3 c4 c5).next
      · cases hq
    · cases hq
  · -- slice
    simp only [Option.bind_eq_some_iff] at hq
    obtain ⟨x, hx, l, hl, r, hr, hq⟩ := hq
    obtain ⟨v, h1, h2⟩ := aslice_ok (P := P) hk (opnd_ok he hx) (optS_ok he hl) (optS_ok he hr) hq
    exact .same h1 h2
  · -- fieldAddr
    simp only [Option.bind_eq_some_iff] at hq
    obtain ⟨x, hx, hq⟩ := hq
    obtain ⟨v, h1, h2⟩ := afield_ok (P := P) hk (opnd_ok he hx) hq
    exact .same h1 h2
  · -- field
    simp only [Option.bind_eq_some_iff, Prod.exists] at hq
    obtain ⟨x, hx, o', ft, hf, hq⟩ := hq
    split at hq
    · obtain ⟨us, hu, hl, hxs⟩ := (opnd_ok he hx).agg_inv
      obtain ⟨fs, f, hd, hfs, rfl, rfl⟩ := fieldOf_some hf
      obtain ⟨v, h1, h2⟩ := run_part_cells (P := P) (w := w) hl hxs hq
      refine .same (u := v) ?_ h2.vr
      rw [hu]
      simpa [Instr.field, run_underlying hd, hfs, asAgg] using h1
    · cases hq
  · -- indexAddr
    simp only [Option.bind_eq_some_iff] at hq
    obtain ⟨x, hx, y, hy, n, hn, hq⟩ := hq
    obtain ⟨k, hu⟩ := asI_ok (opnd_ok he hy) hn
    obtain ⟨v, h1, h2⟩ := aindexAddr_ok (P := P) (k := k) hk (opnd_ok he hx) hq
    refine .same (u := v) ?_ h2
    rw [hu]; exact h1
  · -- index
    simp only [Option.bind_eq_some_iff] at hq
    obtain ⟨x, hx, y, hy, n, hn, hq⟩ := hq
    obtain ⟨k, hu⟩ := asI_ok (opnd_ok he hy) hn
    obtain ⟨v, h1, h2⟩ := aindex_ok (P := P) (k := k) (opnd_ok he hx) hq
    refine .same (u := v) ?_ h2
    rw [hu]; exact h1
  · -- extract
    simp only [Option.bind_eq_some_iff] at hq
    obtain ⟨x, hx, hq⟩ := hq
    split at hq
    · obtain ⟨us, hu, hl, hxs⟩ := (opnd_ok he hx).tuple_inv
      obtain ⟨v, q1, q2⟩ := all2_get hl hxs hq
      refine .same (u := v) ?_ q2
      rw [hu]
      simp [Instr.extract, q1]
    · cases hq
  · -- builtin
    simp only [Option.bind_eq_some_iff] at hq
    obtain ⟨xs, hx, hq⟩ := hq
    obtain ⟨l1, x1⟩ := opnds_ok he hx
    obtain ⟨v, h1, h2⟩ := abuiltin_ok (P := P) l1 x1 hq
    refine .run (u := v) ?_ h2
    simp only [resolve, Sem.run_bind, Sem.run_pure, Result.andThen_ok, invoke, List.map_toArray]
    exact h1 _ _
  · cases hq
end
end Go.Av
