/- Slots; the operations of a region in their order; the sweep. Conditions: none. -/
import Derived.Test.YteafmomjfnlkgaaGreatSf2
import Derived.OrdersIn
import Derived.TacticsIn
set_option linter.unusedVariables false
namespace Go.Av
section
variable {P : Program} {w : World} {F : Nat → Prop} {h : Heap} {M : Id → Option Nat}
theorem put_getD {a : Act} {d : Nat} (hd : d < a.tmps.size) (v : Value) (k : Nat) : (a.put (some d) v).tmps.getD k undef = if k = d then v else a.tmps.getD k undef := by
  simp only [Act.put, Array.getD_eq_getD_getElem?]
  by_cases hk : k = d
  · subst hk
    rw [if_pos rfl, Array.getElem?_setIfInBounds_self_of_lt hd]
    rfl
  · rw [if_neg hk, Array.getElem?_setIfInBounds_ne (Ne.symm hk)]
theorem envR_put {H : Array Obj} {e : Env} {a : Act} (he : EnvR H F h M e.get a) {dst : Option Tmp} {n : Nat} (hn : a.tmps.size = n) (hd : ∀ d, dst = some d → d < n) {y : AV} {u : Value} (hv : VR H F h M y u) :
    EnvR H F h M (putE e dst y).get (a.put dst u) := by
  cases dst with
  | none => exact he
  | some d =>
    intro k x hx
    simp only [putE] at hx
    rw [put_getD (by rw [hn]; exact hd d rfl)]
    by_cases hk : k = d
    · subst hk
      rw [envGet_set_same] at hx
      injection hx with hx; subst hx
      rw [if_pos rfl]; exact hv
    · rw [envGet_set_ne _ _ _ _ hk] at hx
      rw [if_neg hk]; exact he k x hx
theorem put_size {a : Act} {dst : Option Tmp} {u : Value} : (a.put dst u).tmps.size = a.tmps.size := by
  cases dst <;> simp [Act.put]
theorem put_defers {a : Act} {dst : Option Tmp} {u : Value} : (a.put dst u).defers = a.defers := by
  cases dst <;> rfl
theorem envR_evo (hk : HOK w.heap F h M) {w' : World} {F' : Nat → Prop} {h' : Heap} {M' : Id → Option Nat} (ev : Evo All w F h M w' F' h' M') {e : Nat → Option AV} {a : Act} (he : EnvR w.heap F h M e a) : EnvR w'.heap F' h' M' e a :=
  fun k x hx => ev.vr hk (he k x hx)
theorem wantedF_ok {H : Array Obj} {e : Nat → Option AV} {a : Act} (he : EnvR H F h M e a) {all : List Oper} {o : Oper} {b : Bool} (hw : wantedF all e o = some b) : Region.wanted o (yielded all.toArray a.tmps) = b := by
  unfold wantedF at hw
  unfold Region.wanted
  cases hg : o.guard with
  | none => rw [hg] at hw; injection hw
  | some g =>
    obtain ⟨j, want⟩ := g
    rw [hg] at hw
    simp only at hw ⊢
    unfold yielded
    rw [List.getElem?_toArray]
    cases hd : (all[j]?).bind (·.dst) with
    | none =>
      rw [hd] at hw
      simp only [Option.some.injEq] at hw
      subst hw
      simp
    | some d =>
      rw [hd] at hw
      simp only [Option.bind_eq_some_iff] at hw
      obtain ⟨x, hx, hw⟩ := hw
      have hv := he d x hx
      have hg2 : ∀ v, a.tmps.getD d undef = v → v ≠ undef → a.tmps[d]? = some v := fun v h1 h2 => by
        rw [Array.getD_eq_getD_getElem?] at h1
        cases hq : a.tmps[d]? with
        | none => rw [hq] at h1; exact absurd h1.symm h2
        | some z => rw [hq] at h1; exact congrArg some h1
      simp only [Option.bind_some]
      split at hw
      · rename_i b'
        have h1 := hv.v_inv
        rw [hg2 _ h1 (by simp [undef])]
        injection hw with hw
      · rename_i v hnb
        have h1 := hv.v_inv
        injection hw with hw
        subst hw
        have : ∀ c, a.tmps[d]? ≠ some (.bool c) := fun c hc => by
          rw [Array.getD_eq_getD_getElem?, hc] at h1
          simp at h1
          exact hnb c h1.symm
        cases hq : a.tmps[d]? with
        | none => simp
        | some z => cases z <;> first | (simp; done) | (exact absurd hq (this _))
      · cases hw
theorem wanted_ok {H : Array Obj} {e : Env} {a : Act} (he : EnvR H F h M e.get a) {all : List Oper} {o : Oper} {b : Bool} (hw : wantedA all e o = some b) : Region.wanted o (yielded all.toArray a.tmps) = b := wantedF_ok he hw
structure SlotN where
  n : Nat
  y : Option Nat
  ds : List Deferred
def yv (l : Nat) : Value := .func (.yield l) #[] #[]
def SizeOK (N : SlotN) (a : Act) : Prop := a.tmps.size = N.n ∧ ∀ l, N.y = some l → a.tmps.getD 0 undef = yv l
def DOk (N : SlotN) (d : Nat) : Prop := d < N.n ∧ (N.y.isSome = true → d ≠ 0)
theorem SizeOK.put {N : SlotN} {a : Act} (hs : SizeOK N a) {dst : Option Tmp} (hd : ∀ d, dst = some d → DOk N d) {u : Value} : SizeOK N (a.put dst u) :=
  ⟨put_size.trans hs.1, fun l hl => by
    cases dst with
    | none => exact hs.2 l hl
    | some d =>
      have h1 := hd d rfl
      rw [put_getD (by rw [hs.1]; exact h1.1), if_neg (fun h => h1.2 (by rw [hl]; rfl) h.symm)]
      exact hs.2 l hl⟩
def ndO (o : Oper) : Bool := match o.op with | .defer _ => false | _ => true
structure St (N : SlotN) (w : World) (F : Nat → Prop) (h : Heap) (M : Id → Option Nat) (e : Env) (a : Act) : Prop where
  ok : HOK w.heap F h M
  env : EnvR w.heap F h M e.get a
  size : SizeOK N a
  defers : a.defers = N.ds
def dstOk (N : SlotN) (o : Oper) : Bool := (match o.dst with | some d => decide (d < N.n) && (N.y.isNone || d != 0) | none => true) && ndO o
theorem dstOk_nd {N : SlotN} {o : Oper} (h : dstOk N o = true) : ∀ c, o.op ≠ .defer c := fun c hc => by
  unfold dstOk ndO at h; rw [hc] at h; simp at h
theorem dstOk_spec {N : SlotN} {o : Oper} (h : dstOk N o = true) : ∀ d, o.dst = some d → DOk N d := fun d hd => by
  unfold dstOk at h
  rw [hd] at h
  simp only [Bool.and_eq_true, Bool.or_eq_true, decide_eq_true_eq, bne_iff_ne, ne_eq] at h
  refine ⟨h.1.1, fun hy => ?_⟩
  rcases h.1.2 with h2 | h2
  · rw [Option.isNone_iff_eq_none] at h2; rw [h2] at hy; cases hy
  · exact h2
theorem St.put {N : SlotN} {w' : World} {F' : Nat → Prop} {h' : Heap} {M' : Id → Option Nat} {e : Env} {a : Act} (st : St N w F h M e a) (hk : HOK w'.heap F' h' M') (ev : Evo All w F h M w' F' h' M') {dst : Option Tmp}
    (hd : ∀ d, dst = some d → DOk N d) {y : AV} {u : Value} (hv : VR w'.heap F' h' M' y u) : St N w' F' h' M' (putE e dst y) (a.put dst u) :=
  ⟨hk, envR_put (envR_evo st.ok ev st.env) st.size.1 (fun d h => (hd d h).1) hv, st.size.put hd, put_defers.trans st.defers⟩
theorem aops_ok {C : Cfg} {cp : CallP} {ci : CallI} (hcp : CpOK P cp) (hci : CiOK P ci) {lvl : Nat} {N : SlotN} {all : List Oper} {Q : Exit → Act → World → Prop} : ∀ (os : List Oper) {w : World} {F : Nat → Prop} {h : Heap} {M : Id → Option Nat} {e : Env} {a : Act}
    {e' : Env} {h' : Heap}, St N w F h M e a → os.all (dstOk N) = true → aops P C cp ci lvl all os e h = some (e', h') →
    (∀ a' w' F' M', St N w' F' h' M' e' a' → Evo All w F h M w' F' h' M' → Q .normal a' w') → wpList P all.toArray Q os a w
  | [], w, F, h, M, e, a, e', h', st, _, hq, hn => by
    simp only [aops, Option.some.injEq, Prod.mk.injEq] at hq
    obtain ⟨rfl, rfl⟩ := hq
    exact wpList_nil (hn a w F M st .refl)
  | o :: os, w, F, h, M, e, a, e', h', st, hd, hq, hn => by
    simp only [aops, Option.bind_eq_some_iff] at hq
    obtain ⟨wd, hw, hq⟩ := hq
    simp only [List.all_cons, Bool.and_eq_true] at hd
    have hw' := wanted_ok st.env hw
    unfold wpList
    cases wd with
    | true =>
      rw [if_pos hw']
      rw [if_pos rfl] at hq
      simp only [Option.bind_eq_some_iff, Prod.exists] at hq
      obtain ⟨y, h1, hop, hq⟩ := hq
      exact .inl (aop_ok hcp hci st.ok st.env hop fun w' F' M' u q1 q2 q3 =>
        aops_ok hcp hci os (st.put q1 q2 (dstOk_spec hd.1) q3) hd.2 hq fun a2 w2 F2 M2 s2 ev2 => hn a2 w2 F2 M2 s2 (q2.trans q1 ev2))
    | false =>
      rw [if_neg (by rw [hw']; simp)]
      rw [if_neg (by simp)] at hq
      exact aops_ok hcp hci os (st.put st.ok .refl (dstOk_spec hd.1) (.c .v)) hd.2 hq fun a2 w2 F2 M2 s2 ev2 => hn a2 w2 F2 M2 s2 ev2
def Fw (r : Option Nat) : Fence := { Fence.wide with round := r }
theorem calls_in {r : Option Nat} {n : Nat} {f : FuncId} {args : Array Value} {w : World} {R : Ending → World → Prop} (h : Calls P f args w R) : CallsIn (Fw r) n P f args w R := callsIn_wide.2 h
theorem calls_out {n : Nat} {f : FuncId} {args : Array Value} {w : World} {R : Ending → World → Prop} (h : CallsIn (Fw none) n P f args w R) : Calls P f args w R := callsIn_wide.1 h
theorem rows_in {r : Option Nat} {n : Nat} {row : String} {args : Array Value} {w : World} {R : Value → World → Prop} (h : Rows P row args w R) : RowsIn (Fw r) n P row args w R :=
  fun c cs _ => let ⟨v, w', hr, hs⟩ := h c cs; ⟨v, w', hr, stepsIn_wide.2 hs⟩
theorem oper_in {r : Option Nat} {n : Nat} {o : Oper} {a : Act} {w : World} {K : Act → World → Prop} {Q : Exit → Act → World → Prop} (hnd : ∀ c, o.op ≠ .defer c) (h : o.wp P a w K Q) : o.wpIn (Fw r) n P a w K Q := by
  unfold Oper.wpIn
  unfold Oper.wp at h
  refine ⟨fun _ _ => trivial, ?_⟩
  rw [Oper.semAt_eq _ _ _ hnd]
  generalize (execOp a.eval o).run P w = x at *
  cases x with
  | ok x w' =>
    cases x <;> simp only [Oper.upon] at h <;> simp only [Oper.uponIn] <;>
      first
        | exact h
        | exact ⟨fun hd => by simp [Fw, Fence.wide] at hd, calls_in h⟩
        | exact ⟨fun hd => by simp [Fw, Fence.wide] at hd, rows_in h⟩
  | halt x w' => cases x <;> simp only [Oper.upon] at h <;> simp only [Oper.uponIn] <;> exact h
theorem list_in {r : Option Nat} {n : Nat} {ops : Array Oper} {Q : Exit → Act → World → Prop} (hq : ¬ LetsOut Q) : ∀ (l : List Oper), (∀ o ∈ l, ∀ c, o.op ≠ .defer c) → ∀ {a : Act} {w : World}, wpList P ops Q l a w → wpListIn (Fw r) n P ops Q l a w
  | [], _, a, w, h => h
  | o :: l, hnd, a, w, h => by
    unfold wpListIn
    unfold wpList at h
    split
    · rename_i hw
      rw [if_pos hw] at h
      rcases h with h | h
      · exact Oper.wpIn_mono (fun a w h => list_in hq l (fun o ho => hnd o (.tail _ ho)) h) (oper_in (hnd o (.head _)) h)
      · exact absurd h.2 hq
    · rename_i hw
      rw [if_neg hw] at h
      exact ⟨fun _ _ => trivial, list_in hq l (fun o ho => hnd o (.tail _ ho)) h⟩
theorem any_in {r : Option Nat} {n : Nat} {md : Region.Mode} {ops : Array Oper} {Q : Exit → Act → World → Prop} (hq : ¬ LetsOut Q) (hnd : ∀ (i : Nat) (o : Oper), ops[i]? = some o → ∀ c, o.op ≠ .defer c) :
    ∀ (k : Nat) (listed : Array Bool) {a : Act} {w : World}, wpAny P md ops Q k listed a w → wpAnyIn (Fw r) n P md ops Q k listed a w
  | 0, _, a, w, h => h
  | k + 1, listed, a, w, h => by
    refine ⟨h.1, fun i hi => ?_⟩
    have h2 := h.2 i hi
    unfold wpOpIn
    unfold wpOp at h2
    cases ho : ops[i]? with
    | none => rw [ho] at h2; exact any_in hq hnd k _ h2
    | some o =>
      rw [ho] at h2
      simp only at h2 ⊢
      split
      · rename_i hw
        rw [if_pos hw] at h2
        rcases h2 with h2 | h2
        · exact Oper.wpIn_mono (fun a w h => any_in hq hnd k _ h) (oper_in (hnd i o ho) h2)
        · exact absurd h2.2 hq
      · rename_i hw
        rw [if_neg hw] at h2
        exact ⟨fun _ _ => trivial, any_in hq hnd k _ h2⟩
def RegW (P : Program) (r : Option Nat) (id : Nat) (ops : Array Oper) (Q : Exit → Act → World → Prop) (a : Act) (w : World) : Prop := (Code.region id ops true).wpIn (Fw r) 0 P Q a w
theorem region_any_in {r : Option Nat} {id : Nat} {all : List Oper} {Q : Exit → Act → World → Prop} {a : Act} {w : World} {N : SlotN} (hm : P.follows .mixedOrders = true) (hq : ¬ LetsOut Q) (hnd : all.all (dstOk N) = true)
    (h : wpAny P .any all.toArray Q all.toArray.size (Array.replicate all.toArray.size false) a { w with drawn := w.drawn + 1 }) : RegW P r id all.toArray Q a w :=
  wpIn_region_any hm (any_in hq (fun i o ho => dstOk_nd (List.all_eq_true.1 hnd o (List.mem_of_getElem? (by rw [← List.getElem?_toArray]; exact ho)))) _ _ h)
theorem VR.dropped {H : Array Obj} {h' : Heap} : ∀ d {x : AV} {u : Value}, VR H F h M x u → (∀ id, names id d x = true → h'.get id = h.get id) → VR H F h' M x u := by
  intro d
  have whole : ∀ {x : AV} {u : Value}, VR H F h M x u → (∀ id, h'.get id = h.get id) → VR H F h' M x u := fun {x u} hv hh => hv.ext fun id x hx => ⟨(hh id).trans hx, rfl⟩
  have base : ∀ d {id : Id} {off n ext : Nat} {u : Value}, VR H F h M (.own id off n ext) u → (∀ i, names i d (.own id off n ext) = true → h'.get i = h.get i) → VR H F h' M (.own id off n ext) u := fun d {id off n ext u} hv hh => by
    obtain ⟨a, c, cl, rw', sz', e', cells', rfl, hg', hn, hle, ho⟩ := hv.own_inv
    exact .own ((hh _ (by cases d <;> simp [names])).trans hg') hn hle ho
  have basep : ∀ d {id : Id} {off ext : Nat} {u : Value}, VR H F h M (.ptr id off ext) u → (∀ i, names i d (.ptr id off ext) = true → h'.get i = h.get i) → VR H F h' M (.ptr id off ext) u := fun d {id off ext u} hv hh => by
    cases hv with
    | c hc => cases hc
    | ptr hg hle ho => exact .ptr ((hh _ (by cases d <;> simp [names])).trans hg) hle ho
  induction d with
  | zero =>
    intro x u hv hh
    cases x with
    | v x => obtain rfl := hv.v_inv; exact .c .v
    | arr n xs => exact .c hv.arr_inv
    | ref xs off => exact .c hv.ref_inv
    | own id off n ext => exact base 0 hv hh
    | ptr id off ext => exact basep 0 hv hh
    | fn f a b =>
      cases a with
      | nil => cases b with
        | nil => obtain ⟨us, vs, rfl, l1, x1, l2, x2⟩ := hv.fn_inv; exact .fn l1 (fun i x u h => by simp at h) l2 (fun i x u h => by simp at h)
        | cons => exact whole hv fun id => hh id rfl
      | cons => exact whole hv fun id => hh id rfl
    | _ => exact whole hv fun id => hh id rfl
  | succ d ih =>
    intro x u hv hh
    cases x with
    | v x => obtain rfl := hv.v_inv; exact .c .v
    | arr n xs => exact .c hv.arr_inv
    | ref xs off => exact .c hv.ref_inv
    | own id off n ext => exact base (d + 1) hv hh
    | ptr id off ext => exact basep (d + 1) hv hh
    | fn f a b =>
      obtain ⟨us, vs, rfl, l1, x1, l2, x2⟩ := hv.fn_inv
      refine .fn l1 (fun i x u hx hu => ih (x1 i x u hx hu) fun id hn => hh id ?_) l2 fun i x u hx hu => ih (x2 i x u hx hu) fun id hn => hh id ?_
      · simp only [names, Bool.or_eq_true, List.any_eq_true]; exact .inl ⟨x, List.mem_of_getElem? hx, hn⟩
      · simp only [names, Bool.or_eq_true, List.any_eq_true]; exact .inr ⟨x, List.mem_of_getElem? hx, hn⟩
    | agg xs =>
      obtain ⟨us, rfl, hl, hx⟩ := hv.agg_inv
      exact .agg hl fun i x u hxi hu => ih (hx i x u hxi hu) fun id hn => hh id (by simp only [names, List.any_eq_true]; exact ⟨x, List.mem_of_getElem? hxi, hn⟩)
    | tuple xs =>
      obtain ⟨us, rfl, hl, hx⟩ := hv.tuple_inv
      exact .tuple hl fun i x u hxi hu => ih (hx i x u hxi hu) fun id hn => hh id (by simp only [names, List.any_eq_true]; exact ⟨x, List.mem_of_getElem? hxi, hn⟩)
    | fresh => exact whole hv fun id => hh id rfl
    | freshO => exact whole hv fun id => hh id rfl
    | newbx => exact whole hv fun id => hh id rfl
theorem sweepFrom_get (prot : List Id) (e : Env) (all : Heap) (id : Id) : ∀ h : Heap, (sweepFrom prot e all h).get id = if (memI prot id || (namedE id e || namedH id all)) = true then h.get id else none
  | [] => by simp [sweepFrom, Heap.get]
  | (j, b) :: h => by
    have ih := sweepFrom_get prot e all id h
    unfold sweepFrom
    split
    · rename_i hj
      simp only [Heap.get]
      by_cases e1 : j = id
      · subst e1; rw [if_pos rfl, if_pos hj, if_pos rfl]
      · rw [if_neg e1, if_neg e1]; exact ih
    · rename_i hj
      simp only [Heap.get]
      by_cases e1 : j = id
      · subst e1; rw [ih, if_neg hj, if_neg hj]
      · rw [if_neg e1]; exact ih
theorem namedE_of {id : Id} : ∀ {e : Env} {k : Nat} {x : AV}, e.get k = some x → names id 4 x = true → namedE id e = true
  | [], k, x, hx, _ => by simp [Env.get] at hx
  | (j, y) :: e, k, x, hx, hn => by
    simp only [Env.get] at hx
    simp only [namedE, Bool.or_eq_true]
    split at hx
    · injection hx with hx; subst hx; exact .inl hn
    · exact .inr (namedE_of hx hn)
theorem namedH_of {id : Id} : ∀ {h : Heap} {k : Id} {b : Blk}, h.get k = some b → namedB id b = true → namedH id h = true
  | [], k, x, hx, _ => by simp [Heap.get] at hx
  | (j, y) :: e, k, x, hx, hn => by
    simp only [Heap.get] at hx
    simp only [namedH, Bool.or_eq_true]
    split at hx
    · injection hx with hx; subst hx; exact .inl hn
    · exact .inr (namedH_of hx hn)
theorem sweep1_ok (hk : HOK w.heap F h M) (prot : List Id) (e : Env) : HOK w.heap F (sweep1 prot e h) M ∧ Evo (fun id => memI prot id = true) w F h M w F (sweep1 prot e h) M ∧
    ∀ x u, (∀ id, names id 4 x = true → namedE id e = true) → VR w.heap F h M x u → VR w.heap F (sweep1 prot e h) M x u := by
  have hget : ∀ id, (sweep1 prot e h).get id = if (memI prot id || (namedE id e || namedH id h)) = true then h.get id else none := fun id => sweepFrom_get prot e h id h
  have hsub : ∀ id x, (sweep1 prot e h).get id = some x → h.get id = some x := fun id x hx => by
    rw [hget] at hx; split at hx
    · exact hx
    · cases hx
  have hin : ∀ id, namedH id h = true → (sweep1 prot e h).get id = h.get id := fun id hn => by rw [hget, if_pos (by simp [hn])]
  have hine : ∀ id, namedE id e = true → (sweep1 prot e h).get id = h.get id := fun id hn => by rw [hget, if_pos (by simp [hn])]
  refine ⟨⟨fun id x hx => ?_, fun id id' x x' b g1 g2 => hk.inj id id' x x' b (hsub _ _ g1) (hsub _ _ g2), hk.fb⟩, ?_, fun x u hn hv => hv.dropped 4 fun id h1 => hine id (hn id h1)⟩
  · have hr := hk.row id x (hsub _ _ hx)
    have hnm : ∀ j, namedB j x = true → (sweep1 prot e h).get j = h.get j := fun j hj => hin j (namedH_of (hsub _ _ hx) hj)
    cases x with
    | sl cl rw sz ext cells =>
      obtain ⟨hl, hr⟩ := hr
      refine ⟨hl, hr.imp_right fun ⟨b, cur, t, h1, h2, h3, h4, h5⟩ => ⟨b, cur, t, h1, h2, h3, h4, fun i y hy => ?_⟩⟩
      obtain ⟨u, a1, a2, a3⟩ := h5 i y hy
      refine ⟨u, a1, a2, fun hcl => (a3 hcl).dropped 4 fun j hj => hnm j ?_⟩
      subst hcl
      simp only [namedB, List.any_eq_true]
      exact ⟨y, List.mem_of_getElem? hy, hj⟩
    | bx rw cells =>
      obtain ⟨b, cur, t, h1, h2, hl, h3, h4, h5⟩ := hr
      refine ⟨b, cur, t, h1, h2, hl, h3, h4, fun i y hy => ?_⟩
      obtain ⟨u, a1, a2⟩ := h5 i y hy
      refine ⟨u, a1, a2.dropped 4 fun j hj => hnm j ?_⟩
      simp only [namedB, List.any_eq_true]
      exact ⟨y, List.mem_of_getElem? hy, hj⟩
  · refine ⟨rfl, rfl, rfl, Nat.le_refl _, fun _ _ _ => rfl, fun _ h => h, fun _ h _ => .inl h, fun id y hy hr => .inl ⟨y, hsub _ _ hy, hr, rfl⟩, fun id x hx hp => ⟨x, ?_, Held.refl rfl fun _ _ => rfl⟩⟩
    rw [hget, if_pos (by simp [hp])]; exact hx
theorem sweep_ok (hk : HOK w.heap F h M) (prot : List Id) (e : Env) : HOK w.heap F (sweep prot e h) M ∧ Evo (fun id => memI prot id = true) w F h M w F (sweep prot e h) M ∧
    ∀ x u, (∀ id, names id 4 x = true → namedE id e = true) → VR w.heap F h M x u → VR w.heap F (sweep prot e h) M x u := by
  obtain ⟨k1, ev1, v1⟩ := sweep1_ok hk prot e
  obtain ⟨k2, ev2, v2⟩ := sweep1_ok k1 prot e
  exact ⟨k2, ev1.trans k1 ev2, fun x u hn hv => v2 x u hn (v1 x u hn hv)⟩
end
end Go.Av
