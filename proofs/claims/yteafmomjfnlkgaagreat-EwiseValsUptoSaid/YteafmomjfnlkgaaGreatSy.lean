/- Memory under another hand; what a loop over a function holds. Conditions: none. -/
import Derived.Test.YteafmomjfnlkgaaGreatSg6
import Derived.LoopN
import Derived.LoopNIn
import Derived.Scope
set_option linter.unusedVariables false
namespace Go.Av
section
variable {K : Id → Prop} {w w' w0 w1 w2 : World} {F F' F0 F1 F2 : Nat → Prop} {h h' h0 : Heap} {M M' M0 : Id → Option Nat} {keep : Nat → Prop}
theorem HOK.blocks (hk : HOK w1.heap F1 h M) (fg : Foreign keep w1 F1 w2 F2) (kF : ∀ b, F1 b → keep b) (kO : ∀ id x b, h.get id = some x → x.rw = true → M id = some b → keep b) :
    ∀ id x b, h.get id = some x → M id = some b → w2.heap[b]? = w1.heap[b]? := fun id x b hg hm => by
  cases hr : x.rw with
  | true => exact fg.same b (hk.lt hg hm) (kO id x b hg hr hm)
  | false => exact fg.same b (hk.lt hg hm) (kF b (hk.isF hg hr hm))
theorem foreign_ok (hk : HOK w1.heap F1 h M) (fg : Foreign keep w1 F1 w2 F2) (kF : ∀ b, F1 b → keep b) (kO : ∀ id x b, h.get id = some x → x.rw = true → M id = some b → keep b) :
    HOK w2.heap F2 h M ∧ (∀ x u, VR w1.heap F1 h M x u → VR w2.heap F2 h M x u) ∧ ∀ x u, VC w1.heap F1 x u → VC w2.heap F2 x u := by
  have hb := hk.blocks fg kF kO
  have hF : ∀ b, F1 b → w2.heap[b]? = w1.heap[b]? := fun b h => fg.same b (hk.fb b h) (kF b h)
  have hd : ∀ id x, h.get id = some x → ∃ y, h.get id = some y ∧ Held w1.heap w2.heap M M id x y := fun id x hx => ⟨x, hx, Held.refl rfl fun b hm => rowSize_of (hb id x b hx hm)⟩
  exact ⟨⟨fun id x hx => (hk.row id x hx).keep fg.fsub hF hd rfl fun b hm => ⟨hb id x b hx hm, fun hr hf => fg.fold b hf (hk.lt hx hm) (kO id x b hx hr hm)⟩, hk.inj, fg.fb⟩,
    fun x u hv => hv.keep fg.fsub hF hd, fun x u hv => hv.keep fg.fsub hF⟩
theorem evo_foreign (ev : Evo K w0 F0 h0 M0 w1 F1 h M) (hk : HOK w1.heap F1 h M) (fg : Foreign keep w1 F1 w2 F2) (kF : ∀ b, F1 b → keep b) (kO : ∀ id x b, h.get id = some x → x.rw = true → M id = some b → keep b)
    (k0 : ∀ b, b < w0.heap.size → keep b) : Evo K w0 F0 h0 M0 w2 F2 h M where
  os := fg.os.trans ev.os
  tape := fg.tape.trans ev.tape
  output := fg.output.trans ev.output
  size := Nat.le_trans ev.size fg.size
  keep b hb hn := (fg.same b (Nat.lt_of_lt_of_le hb ev.size) (k0 b hb)).trans (ev.keep b hb hn)
  fsub b hb := fg.fsub b (ev.fsub b hb)
  fold b hb hlt := ev.fold b (fg.fold b hb (Nat.lt_of_lt_of_le hlt ev.size) (k0 b hlt)) hlt
  orig := ev.orig
  held id x hx hK := by
    obtain ⟨y, hy, hd⟩ := ev.held id x hx hK
    exact ⟨y, hy, hd.trans (Held.refl rfl fun b hm => rowSize_of (hk.blocks fg kF kO id y b hy hm))⟩
theorem Evo.foreign (hk' : HOK w'.heap F' h' M') (ev : Evo K w F h M w' F' h' M') (kO : ∀ id x b, h.get id = some x → x.rw = true → M id = some b → ¬ keep b) : Foreign keep w F w' F' where
  os := ev.os
  tape := ev.tape
  output := ev.output
  size := ev.size
  same b hb hk := ev.keep b hb fun id x hg hr hm => kO id x b hg hr hm hk
  fsub := ev.fsub
  fold b hF hlt hk := (ev.fold b hF hlt).elim id fun ⟨id, x, hg, hr, hm⟩ => (kO id x b hg hr hm hk).elim
  fb := hk'.fb
def noCells : Obj → Bool
  | .cells .. => false
  | _ => true
theorem HOK.no (hk : HOK w.heap F h M) {l : Nat} {o : Obj} (hl : w.heap[l]? = some o) (ho : noCells o = true) : ∀ id x, h.get id = some x → M id ≠ some l := fun id x hg hm => by
  obtain ⟨cur, e, h1, _⟩ := hk.along hg hm
  rw [hl] at h1; injection h1 with h1; subst h1; cases ho
theorem Evo.obj (hk : HOK w.heap F h M) (ev : Evo K w F h M w' F' h' M') {l : Nat} {o : Obj} (hl : w.heap[l]? = some o) (ho : noCells o = true) : w'.heap[l]? = some o :=
  (ev.keep l (Array.getElem?_eq_some_iff.1 hl).1 fun id x hg _ => hk.no hl ho id x hg).trans hl
theorem Evo.objF (hk : HOK w.heap F h M) (ev : Evo K w F h M w' F' h' M') {l : Nat} {o : Obj} (hl : w.heap[l]? = some o) (ho : noCells o = true) (hF : ¬ F l) : ¬ F' l := fun hf =>
  (ev.fold l hf (Array.getElem?_eq_some_iff.1 hl).1).elim hF fun ⟨id, x, hg, _, hm⟩ => hk.no hl ho id x hg hm
theorem foreign_put {l : Nat} {o : Obj} (hfb : ∀ b, F b → b < w.heap.size) : Foreign (fun b => b ≠ l) w F (w.putObj l o) F where
  os := rfl
  tape := rfl
  output := rfl
  size := by simp
  same b _ hne := World.putObj_heap_other hne
  fsub _ h := h
  fold _ h _ _ := h
  fb b h := by rw [World.putObj_size]; exact hfb b h
theorem put_ok (hk : HOK w.heap F h M) {l : Nat} {o : Obj} (o' : Obj) (hl : w.heap[l]? = some o) (ho : noCells o = true) (hF : ¬ F l) :
    HOK (w.putObj l o').heap F h M ∧ (∀ x u, VR w.heap F h M x u → VR (w.putObj l o').heap F h M x u) ∧ ∀ x u, VC w.heap F x u → VC (w.putObj l o').heap F x u :=
  foreign_ok hk (foreign_put hk.fb) (fun b hb hbl => hF (hbl ▸ hb)) fun id x b hg _ hm hbl => hk.no hl ho id x hg (hbl ▸ hm)
theorem evo_put (hk : HOK w1.heap F1 h M) (ev : Evo K w0 F0 h0 M0 w1 F1 h M) {l : Nat} {o : Obj} (o' : Obj) (hl : w1.heap[l]? = some o) (ho : noCells o = true) (hF : ¬ F1 l) (hle : w0.heap.size ≤ l) :
    Evo K w0 F0 h0 M0 (w1.putObj l o') F1 h M :=
  evo_foreign ev hk (foreign_put hk.fb) (fun b hb hbl => hF (hbl ▸ hb)) (fun id x b hg _ hm hbl => hk.no hl ho id x hg (hbl ▸ hm)) fun b hb hbl => by omega
theorem evo_patch {h1 h3 : Heap} {M3 M4 : Id → Option Nat} {F3 F4 : Nat → Prop} {w3 w4 : World} {l : Nat} {o0 o1 : Obj} (hk : HOK w3.heap F3 h1 M3) (hl : w3.heap[l]? = some o0) (ho : noCells o0 = true)
    (ev : Evo K (w3.putObj l o1) F3 h1 M3 w4 F4 h3 M4) : Evo K w3 F3 h1 M3 (w4.putObj l o0) F4 h3 M4 := by
  have hlt : l < w4.heap.size := by
    have := ev.size; rw [World.putObj_size] at this
    exact Nat.lt_of_lt_of_le (Array.getElem?_eq_some_iff.1 hl).1 this
  refine ⟨ev.os, ev.tape, ev.output, by have := ev.size; rw [World.putObj_size] at this ⊢; exact this, fun b hb hn => ?_, ev.fsub, fun b hf hb => ev.fold b hf (by rw [World.putObj_size]; exact hb), fun id y hy hr => ?_, fun id x hx hK => ?_⟩
  · by_cases hbl : b = l
    · subst hbl; rw [World.putObj_heap_same hlt, hl]
    · rw [World.putObj_heap_other hbl, ev.keep b (by rw [World.putObj_size]; exact hb) hn, World.putObj_heap_other hbl]
  · rcases ev.orig id y hy hr with h1 | h1
    · exact .inl h1
    · exact .inr fun b hb => by have := h1 b hb; rw [World.putObj_size] at this; exact this
  · obtain ⟨y, hy, hd⟩ := ev.held id x hx hK
    refine ⟨y, hy, hd.sl, hd.ext, fun he => ?_⟩
    obtain ⟨e1, e2⟩ := hd.same he
    refine ⟨e1, fun b hb => ?_⟩
    have hne : b ≠ l := fun h => hk.no hl ho id x hx (h ▸ hb)
    exact (rowSize_of (World.putObj_heap_other hne)).trans ((e2 b hb).trans (rowSize_of (World.putObj_heap_other hne)))
def mark (D : Nat) : Deferred := { target := .collected D, args := #[] }
def DefL (B : Nat) (w : World) (F : Nat → Prop) : List Deferred → Prop
  | [] => True
  | d :: ds => (∃ D, d = mark D ∧ w.heap[D]? = some (.deferred (some [])) ∧ ¬ F D ∧ mark D ∉ ds ∧ B ≤ D) ∧ DefL B w F ds
def DefOK (B : Nat) (w : World) (F : Nat → Prop) (ds : List Deferred) : Prop := B ≤ w.heap.size ∧ DefL B w F ds
variable {B : Nat}
theorem DefL.evo (hk : HOK w.heap F h M) (ev : Evo K w F h M w' F' h' M') : ∀ {ds : List Deferred}, DefL B w F ds → DefL B w' F' ds
  | [], _ => trivial
  | d :: ds, ⟨⟨D, h1, h2, h3, h4⟩, h5⟩ => ⟨⟨D, h1, ev.obj hk h2 rfl, ev.objF hk h2 rfl h3, h4⟩, DefL.evo hk ev h5⟩
theorem DefOK.evo (hk : HOK w.heap F h M) (ev : Evo K w F h M w' F' h' M') {ds : List Deferred} (d : DefOK B w F ds) : DefOK B w' F' ds := ⟨Nat.le_trans d.1 ev.size, d.2.evo hk ev⟩
theorem mark_inj {a b : Nat} (h : mark a = mark b) : a = b := by simpa [mark] using h
theorem DefL.put {l : Nat} {o : Obj} : ∀ {ds : List Deferred}, mark l ∉ ds → DefL B w F ds → DefL B (w.putObj l o) F ds
  | [], _, _ => trivial
  | d :: ds, hm, ⟨⟨D, h1, h2, h3, h4⟩, h5⟩ => ⟨⟨D, h1, by
      rw [World.putObj_heap_other (fun h => hm (by rw [← h, h1]; exact .head _))]; exact h2, h3, h4⟩, DefL.put (fun h => hm (.tail _ h)) h5⟩
theorem DefOK.put {l : Nat} {o : Obj} {ds : List Deferred} (hm : mark l ∉ ds) (d : DefOK B w F ds) : DefOK B (w.putObj l o) F ds := ⟨by rw [World.putObj_size]; exact d.1, d.2.put hm⟩
theorem DefL.lt : ∀ {ds : List Deferred} {D : Nat}, DefL B w F ds → mark D ∈ ds → w.heap[D]? = some (.deferred (some []))
  | d :: ds, D, ⟨⟨D', h1, h2, h3, h4⟩, h5⟩, hm => by
    rcases List.mem_cons.1 hm with h | h
    · rw [h1] at h; rw [mark_inj h]; exact h2
    · exact DefL.lt h5 h
theorem DefOK.lt {ds : List Deferred} {D : Nat} (d : DefOK B w F ds) (hm : mark D ∈ ds) : w.heap[D]? = some (.deferred (some [])) := d.2.lt hm
theorem optL_both {α β : Type} {f : α → Option β} : ∀ {l : List α} {ys : List β}, optL f l = some ys → l.length = ys.length ∧ ∀ (i : Nat) y, ys[i]? = some y → ∃ x, l[i]? = some x ∧ f x = some y
  | [], ys, e => by simp only [optL, Option.some.injEq] at e; subst e; exact ⟨rfl, fun i y hy => by simp at hy⟩
  | x :: l, ys, e => by
    simp only [optL, Option.bind_eq_some_iff, Option.some.injEq] at e
    obtain ⟨y, hy, zs, hzs, rfl⟩ := e
    obtain ⟨h1, h2⟩ := optL_both hzs
    refine ⟨by simp [h1], fun i z hz => ?_⟩
    cases i with
    | zero => simp at hz; subst hz; exact ⟨x, rfl, hy⟩
    | succ i => simp at hz; exact h2 i z hz
theorem seqH_ok (hk : HOK w.heap F h M) {cap xs : List AV} {us : List Value} (hl : cap.length = us.length) (hx : ∀ (i : Nat) x u, cap[i]? = some x → us[i]? = some u → VR w.heap F h M x u) (he : optL (exportV h.get 4) cap = some xs) :
    ∃ F1, HOK w.heap F1 (seqH h cap) M ∧ Evo All w F h M w F1 (seqH h cap) M ∧ xs.length = us.length ∧ ∀ (i : Nat) x u, xs[i]? = some x → us[i]? = some u → VC w.heap F1 x u := by
  obtain ⟨k1, fz⟩ := freezeAll_ok ((cap.map (borrowed h.get 4)).flatten) hk
  obtain ⟨l1, x1⟩ := optL_both he
  refine ⟨_, k1, fz.evo hk, by omega, fun i x u hxi hui => ?_⟩
  obtain ⟨y, hy1, hy2⟩ := x1 i x hxi
  exact (exportV_ok hk 4 y u x (hx i y u hy1 hui) hy2).grow fun b hb => hb.imp_right fun ⟨j, q, hj, hm⟩ => ⟨j, q, mem_flatten_map (List.mem_of_getElem? hy1) hj, hm⟩
theorem setPs_ok {H : Array Obj} {N : SlotN} {ds : List Deferred} : ∀ {ps : List Tmp} {zs : List AV} {vs : List Value} {e : Env} {tm : Array Value}, EnvR H F h M e.get ⟨tm, ds⟩ → SizeOK N ⟨tm, ds⟩ → (∀ p ∈ ps, DOk N p) → zs.length = ps.length → zs.length = vs.length →
    (∀ (j : Nat) x u, zs[j]? = some x → vs[j]? = some u → VR H F h M x u) →
    EnvR H F h M (setPs e ps zs).get ⟨(ps.zip vs).foldl (fun t p => t.setIfInBounds p.1 p.2) tm, ds⟩ ∧ SizeOK N ⟨(ps.zip vs).foldl (fun t p => t.setIfInBounds p.1 p.2) tm, ds⟩
  | [], zs, vs, e, tm, he, hs, _, hl, _, _ => by cases zs <;> exact ⟨he, hs⟩
  | p :: ps, [], vs, e, tm, he, hs, _, hl, _, _ => by simp at hl
  | p :: ps, z :: zs, [], e, tm, he, hs, _, _, hl2, _ => by simp at hl2
  | p :: ps, z :: zs, v :: vs, e, tm, he, hs, hp, hl, hl2, hx => by
    have h1 := hp p (.head _)
    have he' : EnvR H F h M (putE e (some p) z).get (Act.put ⟨tm, ds⟩ (some p) v) := envR_put he hs.1 (fun d hd => by injection hd with hd; subst hd; exact h1.1) (hx 0 z v rfl rfl)
    have hs' : SizeOK N (Act.put ⟨tm, ds⟩ (some p) v) := hs.put fun d hd => by injection hd with hd; subst hd; exact h1
    exact setPs_ok (tm := tm.setIfInBounds p v) he' hs' (fun q hq => hp q (.tail _ hq)) (by simpa using hl) (by simpa using hl2) fun j x u a b => hx (j + 1) x u (by simpa using a) (by simpa using b)
end
end Go.Av
