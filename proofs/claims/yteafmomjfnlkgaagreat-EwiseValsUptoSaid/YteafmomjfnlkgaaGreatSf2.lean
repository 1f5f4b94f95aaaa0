/- An operation, whatever it is; operations in their order. Conditions: none. -/
import Derived.Test.YteafmomjfnlkgaaGreatSf1
set_option linter.unusedVariables false
namespace Go.Av
section
variable {P : Program} {w : World} {F : Nat → Prop} {h : Heap} {M : Id → Option Nat}
theorem addF_ok (hk : HOK w.heap F h M) {w' : World} (hg : w.grownBy w' none) {F' : Nat → Prop} (h1 : ∀ b, F b → F' b) (h2 : ∀ b, F' b → b < w'.heap.size) (h3 : ∀ b, F' b → b < w.heap.size → F b) :
    HOK w'.heap F' h M ∧ Evo All w F h M w' F' h M := by
  have hb : ∀ b, b < w.heap.size → w'.heap[b]? = w.heap[b]? := fun b hb => hg.block b hb (by simp)
  have hd : ∀ id x, h.get id = some x → ∃ y, h.get id = some y ∧ Held w.heap w'.heap M M id x y := fun id x hx => ⟨x, hx, Held.refl rfl fun b hm => rowSize_of (hb b (hk.lt hx hm))⟩
  refine ⟨⟨fun id x hx => (hk.row id x hx).keep h1 (fun b hF => hb b (hk.fb b hF)) hd rfl fun b hm => ⟨hb b (hk.lt hx hm), fun _ hF => h3 b hF (hk.lt hx hm)⟩, hk.inj, h2⟩, ?_⟩
  exact ⟨hg.os, hg.tape, hg.output, hg.size, fun b hlt _ => hb b hlt, h1, fun b hF hlt => .inl (h3 b hF hlt), fun id y hy hr => .inl ⟨y, hy, hr, rfl⟩, fun id x hx _ => hd id x hx⟩
theorem result_in (hk : HOK w.heap F h M) {w' : World} (hg : w.grownBy w' none) {F' : Nat → Prop} (h1 : ∀ b, F b → F' b) (h2 : ∀ b, F' b → b < w'.heap.size) (h3 : ∀ b, F' b → b < w.heap.size → F b)
    {r y : AV} {u : Value} {bs : List Nat} (ht : TR w'.heap (VC w'.heap F') (VC w'.heap F') r u bs) (hnd : bs.Nodup) (hbs : ∀ b ∈ bs, w.heap.size ≤ b ∧ b < w'.heap.size ∧ ¬ F' b) {lvl slot d k k' : Nat} {h' : Heap}
    (e : importR lvl slot d r (k, h) = some (y, k', h')) : ∃ M', HOK w'.heap F' h' M' ∧ Evo All w F h M w' F' h' M' ∧ VR w'.heap F' h' M' y u := by
  obtain ⟨k1, ev1⟩ := addF_ok hk hg h1 h2 h3
  obtain ⟨M', im, hv⟩ := import_ok lvl slot d r u bs k h M y k' h' (ht.mono (fun _ _ h => h) fun _ _ h => .c h) k1 hnd (fun b hb => (hbs b hb).2.2)
    (fun b hb id x hx hm => by have := hk.lt hx hm; have := (hbs b hb).1; omega) e
  exact ⟨M', im.ok, im.evo hg.size (fun b hb => (hbs b hb).1) ev1 k1, hv⟩
def CpOK (P : Program) (cp : CallP) : Prop := ∀ f args r, cp f args = some r → PureOK P f args r
def CiOK (P : Program) (ci : CallI) : Prop := ∀ lvl f args h r h', ci lvl f args h = some (r, h') → InlOK P f args h r h' ∨ (lvl = 0 ∧ ∃ ys, r = .newbx ys ∧ ItOK P f args ys)
theorem CiOK.inl {P : Program} {ci : CallI} (hci : CiOK P ci) {lvl f args h r h'} (e : ci (lvl + 1) f args h = some (r, h')) : InlOK P f args h r h' := (hci _ _ _ _ _ _ e).resolve_right fun h => by cases h.1
theorem acallP_ok {cp : CallP} (hcp : CpOK P cp) (hk : HOK w.heap F h M) {k : FuncId} {as : List AV} {us : List Value} (hl : as.length = us.length) (hx : ∀ (i : Nat) x u, as[i]? = some x → us[i]? = some u → VR w.heap F h M x u)
    {r : AV} {fl : List Id} (e : acallP cp h.get k as = some (r, fl)) :
    (∃ fn, P.funcs[k]? = some fn ∧ (fn.name == "runtime.NumGoroutine") = false ∧ fn.body.isNone = false) ∧
    Calls P k us.toArray w fun e w' => ∃ u F' bs, e = .returned u ∧ w.grownBy w' none ∧ (∀ b, (F b ∨ Of h M fl b) → F' b) ∧ (∀ b, F' b → b < w'.heap.size) ∧ (∀ b, F' b → b < w.heap.size → F b ∨ Of h M fl b) ∧
      TR w'.heap (VC w'.heap F') (VC w'.heap F') r u bs ∧ bs.Nodup ∧ ∀ b ∈ bs, w.heap.size ≤ b ∧ b < w'.heap.size ∧ ¬ F' b := by
  unfold acallP at e
  simp only [Option.bind_eq_some_iff] at e
  obtain ⟨bs, hbs, r', hr, e⟩ := e
  simp only [Option.some.injEq, Prod.mk.injEq] at e
  obtain ⟨rfl, rfl⟩ := e
  obtain ⟨hfn, hp⟩ := hcp k bs r' hr
  refine ⟨hfn, ?_⟩
  obtain ⟨l1, x1⟩ := optL_ok hbs
  have hlt : ∀ b, (F b ∨ Of h M ((as.map (borrowed h.get 4)).flatten) b) → b < w.heap.size := fun b hb => hb.elim (hk.fb b) fun ⟨id, x, _, hg, hm⟩ => hk.lt hg hm
  refine (hp w (fun b => F b ∨ Of h M ((as.map (borrowed h.get 4)).flatten) b) us hlt (by omega) fun i x u hxi hui => ?_).mono ?_
  · obtain ⟨y, hy1, hy2⟩ := x1 i x hxi
    exact (exportV_ok hk 4 y u x (hx i y u hy1 hui) hy2).grow fun b hb => hb.imp_right fun ⟨j, q, hj, hm⟩ => ⟨j, q, mem_flatten_map (List.mem_of_getElem? hy1) hj, hm⟩
  · rintro e w' ⟨u, F', bs', he, hg, f1, f2, f3, ht, hnd, hb⟩
    by_cases hbr : ((as.map (borrowed h.get 4)).flatten).isEmpty = true
    · have hnil : (as.map (borrowed h.get 4)).flatten = [] := by simpa using hbr
      rw [if_pos hbr]
      rw [hnil] at f1 f3
      exact ⟨u, F', bs', he, hg, f1, f2, f3, ht, hnd, hb⟩
    · rw [if_neg hbr]
      by_cases hal : alias 4 r' = true
      · rw [if_pos hal]
        exact ⟨u, F', bs', he, hg, f1, f2, f3, ht, hnd, hb⟩
      · rw [if_neg hal]
        have hno : ∀ b, ¬ Of h M [] b := fun b ⟨_, _, h, _⟩ => by cases h
        refine ⟨u, F, bs', he, hg, fun b hb => hb.elim (fun h => h) fun h => (hno b h).elim, fun b hF => Nat.lt_of_lt_of_le (hk.fb b hF) hg.size, fun b hF _ => .inl hF,
          ht.noalias 4 (by simpa using hal), hnd, fun b hb' => ⟨(hb b hb').1, (hb b hb').2.1, fun hF => by have := hk.fb b hF; have := (hb b hb').1; omega⟩⟩
theorem args_ok {e : Nat → Option AV} {a0 : Act} (he : EnvR w.heap F h M e a0) {f : Operand} {x : AV} (hf : opnd e f = some x) {k : FuncId} {fs cap : List AV} (hfn : fnOf x = some (k, fs, cap)) {args : List Operand} {as : List AV}
    (has : optL (opnd e) args = some as) : ∃ us vs, a0.eval f = .func (.func k) ⟨us⟩ ⟨vs⟩ ∧ (fs ++ as ++ cap).length = (us ++ args.map a0.eval ++ vs).length ∧
      ∀ (i : Nat) x u, (fs ++ as ++ cap)[i]? = some x → (us ++ args.map a0.eval ++ vs)[i]? = some u → VR w.heap F h M x u := by
  have hxe : x = .fn k fs cap := by
    unfold fnOf at hfn
    split at hfn
    · simp only [Option.some.injEq, Prod.mk.injEq] at hfn
      obtain ⟨h1, h2, h3⟩ := hfn
      rw [h1, h2, h3]
    · cases hfn
  subst hxe
  obtain ⟨us, vs, hu, l1, x1, l2, x2⟩ := (opnd_ok he hf).fn_inv
  obtain ⟨l3, x3⟩ := opnds_ok he has
  refine ⟨us, vs, hu, by simp only [List.length_append]; omega, fun i x u a b => ?_⟩
  by_cases h1 : i < (fs ++ as).length
  · rw [List.getElem?_append_left h1] at a
    rw [List.getElem?_append_left (by simp only [List.length_append] at h1 ⊢; omega)] at b
    by_cases h2 : i < fs.length
    · rw [List.getElem?_append_left h2] at a
      rw [List.getElem?_append_left (by omega)] at b
      exact x1 i x u a b
    · rw [List.getElem?_append_right (by omega)] at a
      rw [List.getElem?_append_right (by omega)] at b
      rw [l1] at a
      exact x3 _ x u a b
  · have hle : (fs ++ as).length = (us ++ args.map a0.eval).length := by simp only [List.length_append]; omega
    rw [List.getElem?_append_right (by omega)] at a
    rw [List.getElem?_append_right (by omega)] at b
    rw [hle] at a
    exact x2 _ x u a b
theorem aop_ok {C : Cfg} {cp : CallP} {ci : CallI} (hcp : CpOK P cp) (hci : CiOK P ci) (hk : HOK w.heap F h M) {e : Env} {a : Act} (he : EnvR w.heap F h M e.get a) {lvl : Nat} {o : Oper} {y : AV} {h' : Heap}
    (hq : aop P C cp ci lvl e h o.dst o.op = some (y, h')) {next : Act → World → Prop} {Q : Exit → Act → World → Prop}
    (hn : ∀ w' F' M' u, HOK w'.heap F' h' M' → Evo All w F h M w' F' h' M' → VR w'.heap F' h' M' y u → next (a.put o.dst u) w') : o.wp P a w next Q := by
  unfold aop at hq
  split at hq
  · -- a call
    rename_i f args ts hop
    simp only [Option.bind_eq_some_iff, Prod.exists] at hq
    obtain ⟨x, hf, k, first, cap, hfn, as, has, hq⟩ := hq
    obtain ⟨us, vs, hu, hl, hx⟩ := args_ok he hf hfn has
    split at hq
    · rcases hci.inl hq with ⟨⟨fn, n1, n2, n3⟩, hc⟩ | ⟨rfl, hxt⟩
      case inr =>
        obtain ⟨u, hr, hv⟩ := hxt w F _ M _ hk hl hx
        have hrun := (run_callX (P := P) (w := w) (ty := o.type) (c := { callee := .value f, args := ⟨args⟩, argTypes := ts }) hu (args := args) (ts := ts)).trans hr
        unfold Oper.wp execOp
        simp only [hop, hrun, Oper.upon_value]
        exact hn w F M u hk .refl hv
      have hrun := run_call (P := P) (w := w) (ty := o.type) (c := { callee := .value f, args := ⟨args⟩, argTypes := ts }) hu n1 n2 n3 (args := args) (ts := ts)
      unfold Oper.wp execOp
      simp only [hop, hrun, Oper.upon_enter]
      refine (hc w F M _ hk hl hx).mono ?_
      rintro e w' ⟨u, F', M', rfl, q1, q2, q3⟩
      exact hn w' F' M' u q1 q2 q3
    · simp only [Option.bind_eq_some_iff, Prod.exists, Option.some.injEq, Prod.mk.injEq] at hq
      obtain ⟨r, fl, hr, z, k', h2, himp, rfl, rfl⟩ := hq
      obtain ⟨⟨fn, n1, n2, n3⟩, hc⟩ := acallP_ok hcp hk hl hx hr
      have hrun := run_call (P := P) (w := w) (ty := o.type) (c := { callee := .value f, args := ⟨args⟩, argTypes := ts }) hu n1 n2 n3 (args := args) (ts := ts)
      unfold Oper.wp execOp
      simp only [hop, hrun, Oper.upon_enter]
      refine hc.mono ?_
      rintro e w' ⟨u, F', bs, rfl, hg, f1, f2, f3, ht, hnd, hb⟩
      obtain ⟨k1, fz⟩ := freezeAll_ok fl hk
      have ev1 := fz.evo (is := fl) hk
      obtain ⟨M', q1, q2, q3⟩ := result_in k1 hg f1 f2 f3 ht hnd hb himp
      exact hn w' F' M' u q1 (ev1.trans k1 q2) q3
  · rename_i hnc
    split at hq
    · rename_i t ht
      simp only [Option.bind_eq_some_iff, Prod.exists, Option.some.injEq, Prod.mk.injEq] at hq
      obtain ⟨z, k', h2, himp, rfl, rfl⟩ := hq
      obtain ⟨u, w', bs, hr, hg, htr, hnd, hb⟩ := aq_ok hk he ht
      obtain ⟨M', q1, q2, q3⟩ := take_in hk hg htr hnd hb himp
      unfold Oper.wp
      rw [hr, Oper.upon_value]
      exact hn w' F M' u q1 q2 q3
    · obtain ⟨n, w', F', M', hr, q1, q2, q3⟩ := aS_ok hk he (lvl := lvl) (dst := o.dst.getD 0) hq
      unfold Oper.wp
      rw [hr]
      rcases q3 with ⟨rfl, rfl⟩ | ⟨u, rfl, q3⟩
      · rw [Oper.upon_skip]
        exact hn w' F' M' undef q1 q2 (.c .v)
      · rw [Oper.upon_value]
        exact hn w' F' M' u q1 q2 q3
end
end Go.Av
