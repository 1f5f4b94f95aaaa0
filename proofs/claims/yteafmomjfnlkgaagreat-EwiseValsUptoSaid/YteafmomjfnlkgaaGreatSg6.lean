/- A region whose order is open, with a store among the quiet operations of its head. Conditions: none. -/
import Derived.Test.YteafmomjfnlkgaaGreatSg7
set_option linter.unusedVariables false
namespace Go.Av
open Classical
section
variable {P : Program} {C : Cfg} {cp : CallP} {ci : CallI} {lvl n ps qs : Nat} {N : SlotN} {g0 : Id → Option Blk} {all : List Oper}
def QStepG (P : Program) (C : Cfg) (cp : CallP) (lvl : Nat) (g0 : Id → Option Blk) (q : Bool) (all : List Oper) (o : Oper) (e : Env) (h : Heap) (e1 : Env) (h1 : Heap) : Prop :=
  (wantedA all e o = some true ∧ ∃ t y k, aopQL P C cp q g0 e.get h o.op = some t ∧ importR lvl (o.dst.getD 0) 4 t (0, h) = some (y, k, h1) ∧ e1 = putE e o.dst y) ∨
  (wantedA all e o = some false ∧ h1 = h ∧ e1 = putE e o.dst (.v undef))
structure Canon2 (P : Program) (C : Cfg) (cp : CallP) (lvl : Nat) (g0 : Id → Option Blk) (n ps qs : Nat) (all : List Oper) (es : Nat → Env) (hs : Nat → Heap) : Prop where
  ok : LateOk n ps qs all.toArray
  gn : ∀ p o, p < n → ps.testBit p = true → all[p]? = some o → o.guard = none
  step : ∀ i, i < n → ps.testBit i = false → ∃ o, all[i]? = some o ∧ QStepG P C cp lvl g0 (qs.testBit i) all o (es i) (hs i) (es (i + 1)) (hs (i + 1))
  skip : ∀ p, p < n → ps.testBit p = true → hs (p + 1) = hs p ∧ ∃ o y, all[p]? = some o ∧ es (p + 1) = putE (es p) o.dst y
theorem bit_not {i : Nat} (h : ¬ ps.testBit i = true) : ps.testBit i = false := by simpa using h
theorem aopsL_seq : ∀ (k i : Nat) (os : List Oper) (e : Env) (h : Heap) (e' : Env) (h' : Heap), aopsL P C cp lvl g0 all ps qs k i os e h = some (e', h') →
    ∃ (es : Nat → Env) (hs : Nat → Heap), es 0 = e ∧ hs 0 = h ∧ es k = e' ∧ hs k = h' ∧ (∀ j, j < k → ps.testBit (i + j) = false → ∃ o, os[j]? = some o ∧ QStepG P C cp lvl g0 (qs.testBit (i + j)) all o (es j) (hs j) (es (j + 1)) (hs (j + 1))) ∧
      (∀ j, j < k → ps.testBit (i + j) = true → hs (j + 1) = hs j ∧ ∃ o y, os[j]? = some o ∧ es (j + 1) = putE (es j) o.dst y)
  | 0, i, os, e, h, e', h', hq => by
    simp only [aopsL, Option.some.injEq, Prod.mk.injEq] at hq
    obtain ⟨rfl, rfl⟩ := hq
    exact ⟨fun _ => e, fun _ => h, rfl, rfl, rfl, rfl, fun j hj => by omega, fun j hj => by omega⟩
  | k + 1, i, [], e, h, e', h', hq => by simp [aopsL] at hq
  | k + 1, i, o :: os, e, h, e', h', hq => by
    have go : ∀ e1 h1, (ps.testBit i = false → QStepG P C cp lvl g0 (qs.testBit i) all o e h e1 h1) → (ps.testBit i = true → h1 = h ∧ ∃ y, e1 = putE e o.dst y) → aopsL P C cp lvl g0 all ps qs k (i + 1) os e1 h1 = some (e', h') →
        ∃ (es : Nat → Env) (hs : Nat → Heap), es 0 = e ∧ hs 0 = h ∧ es (k + 1) = e' ∧ hs (k + 1) = h' ∧
        (∀ j, j < k + 1 → ps.testBit (i + j) = false → ∃ o', (o :: os)[j]? = some o' ∧ QStepG P C cp lvl g0 (qs.testBit (i + j)) all o' (es j) (hs j) (es (j + 1)) (hs (j + 1))) ∧ (∀ j, j < k + 1 → ps.testBit (i + j) = true → hs (j + 1) = hs j ∧ ∃ o' y, (o :: os)[j]? = some o' ∧ es (j + 1) = putE (es j) o'.dst y) := fun e1 h1 hst hsk hr => by
      obtain ⟨es, hs, q1, q2, q3, q4, q5, q6⟩ := aopsL_seq k (i + 1) os e1 h1 e' h' hr
      refine ⟨fun j => match j with | 0 => e | j + 1 => es j, fun j => match j with | 0 => h | j + 1 => hs j, rfl, rfl, q3, q4, fun j hj hne => ?_, fun j hj he => ?_⟩
      · cases j with
        | zero => exact ⟨o, rfl, by simpa only [q1, q2, Nat.add_zero] using hst (by simpa using hne)⟩
        | succ j =>
          obtain ⟨o', h1, h2⟩ := q5 j (by omega) (by rw [show i + 1 + j = i + (j + 1) by omega]; exact hne)
          refine ⟨o', by simpa using h1, ?_⟩
          rw [show i + (j + 1) = i + 1 + j by omega]
          exact h2
      · cases j with
        | zero =>
          obtain ⟨z1, y, z2⟩ := hsk (by simpa using he)
          exact ⟨by simpa only [q1, q2] using z1, o, y, rfl, by simpa only [q1, q2] using z2⟩
        | succ j =>
          obtain ⟨z1, o', y, z2, z3⟩ := q6 j (by omega) (by rw [show i + 1 + j = i + (j + 1) by omega]; exact he)
          exact ⟨z1, o', y, by simpa using z2, z3⟩
    simp only [aopsL] at hq
    split at hq
    · rename_i hip
      exact go _ h (fun hne => absurd hip (by rw [hne]; decide)) (fun _ => ⟨rfl, _, rfl⟩) hq
    · rename_i hip
      simp only [Option.bind_eq_some_iff] at hq
      obtain ⟨wd, hw, hq⟩ := hq
      split at hq
      · rename_i hwd
        subst hwd
        simp only [Option.bind_eq_some_iff, Prod.exists] at hq
        obtain ⟨t, ht, y, k', h1, him, hq⟩ := hq
        exact go _ _ (fun _ => .inl ⟨hw, t, y, k', ht, him, rfl⟩) (fun h => absurd h hip) hq
      · rename_i hwd
        have : wd = false := by simpa using hwd
        subst this
        exact go _ _ (fun _ => .inr ⟨hw, rfl, rfl⟩) (fun h => absurd h hip) hq
variable {es : Nat → Env} {hs : Nat → Heap}
theorem Canon2.at_ (c : Canon2 P C cp lvl g0 n ps qs all es hs) {i : Nat} (hi : i < n) (hne : ps.testBit i = false) : ∃ o d, all[i]? = some o ∧ all.toArray[i]? = some o ∧ o.dst = some d ∧ ∃ y, (es (i + 1)) = (es i).set d y ∧
    (∀ id b, (hs i).get id = some b → (hs (i + 1)).get id = some b) ∧ Others lvl d (hs i) (hs (i + 1)) ∧
    ((wantedA all (es i) o = some true ∧ ∃ t k, aopQL P C cp (qs.testBit i) g0 (es i).get (hs i) o.op = some t ∧ importR lvl d 4 t (0, hs i) = some (y, k, hs (i + 1))) ∨ (wantedA all (es i) o = some false ∧ hs (i + 1) = hs i ∧ y = .v undef)) := by
  obtain ⟨o, ho, hst⟩ := c.step i hi hne
  have ho' : all.toArray[i]? = some o := by simpa using ho
  obtain ⟨d, hd⟩ := c.ok.dst i o hi hne ho'
  refine ⟨o, d, ho, ho', hd, ?_⟩
  rcases hst with ⟨hw, t, y, k, ht, him, he⟩ | ⟨hw, hh, he⟩
  · rw [hd] at him he
    obtain ⟨_, _, _, h3, _⟩ := import_alike lvl d 4 t 0 (hs i) y k (hs (i + 1)) (hs i) (fun _ => rfl) him
    exact ⟨y, he, import_keeps lvl d 4 t 0 (hs i) y k (hs (i + 1)) him, h3, .inl ⟨hw, t, k, ht, him⟩⟩
  · rw [hd] at he
    exact ⟨_, he, fun id b hb => by rw [hh]; exact hb, by rw [hh]; exact .refl _ _ _, .inr ⟨hw, hh, rfl⟩⟩
theorem Canon2.at2 (c : Canon2 P C cp lvl g0 n ps qs all es hs) {i d : Nat} (hi : i < n) (h : (all.toArray[i]?).bind (·.dst) = some d) : ∃ o, all.toArray[i]? = some o ∧ o.dst = some d ∧ o.dst.isNone = false ∧ ∃ y, es (i + 1) = (es i).set d y ∧
    (∀ id b, (hs i).get id = some b → (hs (i + 1)).get id = some b) ∧ Others lvl d (hs i) (hs (i + 1)) := by
  cases hb : ps.testBit i with
  | true =>
    obtain ⟨hh, o, y, ho, he⟩ := c.skip i hi hb
    have ho' : all.toArray[i]? = some o := by simpa using ho
    have hd : o.dst = some d := by rw [ho'] at h; exact h
    refine ⟨o, ho', hd, by rw [hd]; rfl, y, by rw [he, hd]; rfl, fun id b hb => by rw [hh]; exact hb, by rw [hh]; exact .refl _ _ _⟩
  | false =>
    obtain ⟨o, d', _, ho, hd, y, he, hk, hoth, _⟩ := c.at_ hi hb
    have hdd : o.dst = some d := by rw [ho] at h; exact h
    have : d' = d := by rw [hd] at hdd; injection hdd
    subst this
    exact ⟨o, ho, hd, by rw [hd]; rfl, y, he, hk, hoth⟩
theorem Canon2.keeps (c : Canon2 P C cp lvl g0 n ps qs all es hs) : ∀ i j, i ≤ j → j ≤ n → ∀ id b, (hs i).get id = some b → (hs j).get id = some b := by
  intro i j hij hj id b hb
  induction j with
  | zero => have : i = 0 := by omega
            subst this; exact hb
  | succ j ih =>
    by_cases h : i = j + 1
    · subst h; exact hb
    · by_cases hjp : ps.testBit j = true
      · rw [(c.skip j (by omega) hjp).1]; exact ih (by omega) (by omega)
      · obtain ⟨o, d, _, _, _, y, _, hk, _⟩ := c.at_ (i := j) (by omega) (bit_not hjp)
        exact hk id b (ih (by omega) (by omega))
theorem Canon2.env (c : Canon2 P C cp lvl g0 n ps qs all es hs) : ∀ i, i ≤ n → ∀ k, (es i).get k = envOf all.toArray n (es 0).get (es n).get (· < i) k := by
  have fwd : ∀ i m k, i ≤ m → m ≤ n → (∀ j, i ≤ j → j < m → (all.toArray[j]?).bind (·.dst) ≠ some k) → (es m).get k = (es i).get k := by
    intro i m k him hm hno
    induction m with
    | zero => have : i = 0 := by omega
              subst this; rfl
    | succ m ih =>
      by_cases h : i = m + 1
      · subst h; rfl
      · by_cases hmp : ps.testBit m = true
        · obtain ⟨_, o, y, ho, he⟩ := c.skip m (by omega) hmp
          have ho' : all.toArray[m]? = some o := by simpa using ho
          have e1 : (es (m + 1)).get k = (es m).get k := by
            rw [he]
            cases hd : o.dst with
            | none => rfl
            | some d => exact envGet_set_ne _ _ _ _ fun hk => hno m (by omega) (by omega) (by rw [dst_at ho', hd, hk])
          rw [e1]
          exact ih (by omega) (by omega) fun j h1 h2 => hno j h1 (by omega)
        · obtain ⟨o, d, _, ho, hd, y, he, _⟩ := c.at_ (i := m) (by omega) (bit_not hmp)
          rw [he, envGet_set_ne _ _ _ _ fun hk => hno m (by omega) (by omega) (by rw [dst_at ho, hd, hk])]
          exact ih (by omega) (by omega) fun j h1 h2 => hno j h1 (by omega)
  intro i hi k
  unfold envOf
  split
  · rename_i hex
    obtain ⟨j, hjn, hji, hjd⟩ := hex
    symm
    refine fwd i n k hi (Nat.le_refl _) fun m h1 h2 hm => ?_
    obtain ⟨oj, hoj, hdj, hjp, _⟩ := c.at2 hjn hjd
    obtain ⟨om, hom, hdm, hmp, _⟩ := c.at2 h2 hm
    rw [dst_at hoj] at hjd
    rw [dst_at hom] at hm
    have := c.ok.one m j om oj h2 hjn hmp hom hoj (hjd.trans hm.symm)
    omega
  · rename_i hex
    exact fwd 0 i k (Nat.zero_le _) hi fun j _ h2 hj => hex ⟨j, by omega, h2, hj⟩
theorem Canon2.heap (c : Canon2 P C cp lvl g0 n ps qs all es hs) : ∀ i, i ≤ n → ∀ id, (hs i).get id = heapOf all.toArray n lvl (hs 0) (hs n) (· < i) id := by
  have fwd : ∀ i m (id : Id), i ≤ m → m ≤ n → (∀ j, i ≤ j → j < m → ¬ (id.1 = lvl ∧ (all.toArray[j]?).bind (·.dst) = some id.2.1)) → (hs m).get id = (hs i).get id := by
    intro i m id him hm hno
    induction m with
    | zero => have : i = 0 := by omega
              subst this; rfl
    | succ m ih =>
      by_cases h : i = m + 1
      · subst h; rfl
      · by_cases hmp : ps.testBit m = true
        · rw [(c.skip m (by omega) hmp).1]; exact ih (by omega) (by omega) fun j h1 h2 => hno j h1 (by omega)
        · obtain ⟨o, d, _, ho, hd, y, _, _, hoth, _⟩ := c.at_ (i := m) (by omega) (bit_not hmp)
          rw [hoth id fun hk => hno m (by omega) (by omega) ⟨hk.1, by rw [dst_at ho, hd, hk.2]⟩]
          exact ih (by omega) (by omega) fun j h1 h2 => hno j h1 (by omega)
  intro i hi id
  unfold heapOf
  split
  · rename_i hex
    obtain ⟨hl, j, hjn, hji, hjd⟩ := hex
    symm
    refine fwd i n id hi (Nat.le_refl _) fun m h1 h2 hm => ?_
    obtain ⟨oj, hoj, hdj, hjp, _⟩ := c.at2 hjn hjd
    obtain ⟨om, hom, hdm, hmp, _⟩ := c.at2 h2 hm.2
    rw [dst_at hoj] at hjd
    have hm2 := hm.2
    rw [dst_at hom] at hm2
    have := c.ok.one m j om oj h2 hjn hmp hom hoj (hjd.trans hm2.symm)
    omega
  · rename_i hex
    exact fwd 0 i id (Nat.zero_le _) hi fun j _ h2 hj => hex ⟨hj.1, j, by omega, h2, hj.2⟩
structure CanonS (P : Program) (lvl : Nat) (g0 : Id → Option Blk) (n ps : Nat) (all : List Oper) (e : Env) (h : Heap) (hst : Nat → Heap) (sid : Nat → Id) (sb : Nat → Blk) : Prop where
  zero : hst 0 = h
  step : ∀ i, i < n → ps.testBit i = true → (∃ o, all[i]? = some o ∧ lateS P lvl g0 n i all (e, hst i) o = some (sid i, sb i)) ∧ hst (i + 1) = (hst i).set (sid i) (sb i)
  skip : ∀ i, i < n → ps.testBit i = false → hst (i + 1) = hst i
theorem storesM_seq {n : Nat} {e : Env} : ∀ (k i : Nat) (h h' : Heap), storesM P lvl g0 n all ps k i (e, h) = some h' → ∃ (hst : Nat → Heap) (sid : Nat → Id) (sb : Nat → Blk), hst i = h ∧ hst (i + k) = h' ∧
    ∀ j, i ≤ j → j < i + k → (ps.testBit j = true → (∃ o, all[j]? = some o ∧ lateS P lvl g0 n j all (e, hst j) o = some (sid j, sb j)) ∧ hst (j + 1) = (hst j).set (sid j) (sb j)) ∧ (ps.testBit j = false → hst (j + 1) = hst j)
  | 0, i, h, h', hq => by
    simp only [storesM, Option.some.injEq] at hq
    subst hq
    exact ⟨fun _ => h, fun _ => (0, 0, 0), fun _ => .bx true [], rfl, rfl, fun j h1 h2 => by omega⟩
  | k + 1, i, h, h', hq => by
    simp only [storesM] at hq
    have go : ∀ (h1 : Heap) (s : Id × Blk), (ps.testBit i = true → (∃ o, all[i]? = some o ∧ lateS P lvl g0 n i all (e, h) o = some s) ∧ h1 = h.set s.1 s.2) → (ps.testBit i = false → h1 = h) → storesM P lvl g0 n all ps k (i + 1) (e, h1) = some h' →
        ∃ (hst : Nat → Heap) (sid : Nat → Id) (sb : Nat → Blk), hst i = h ∧ hst (i + (k + 1)) = h' ∧
    ∀ j, i ≤ j → j < i + (k + 1) → (ps.testBit j = true → (∃ o, all[j]? = some o ∧ lateS P lvl g0 n j all (e, hst j) o = some (sid j, sb j)) ∧ hst (j + 1) = (hst j).set (sid j) (sb j)) ∧ (ps.testBit j = false → hst (j + 1) = hst j) := fun h1 s ht hf hr => by
      obtain ⟨hst, sid, sb, q1, q2, q3⟩ := storesM_seq k (i + 1) h1 h' hr
      refine ⟨fun j => if j ≤ i then h else hst j, fun j => if j = i then s.1 else sid j, fun j => if j = i then s.2 else sb j, by simp, ?_, fun j hj1 hj2 => ?_⟩
      · simp only
        rw [if_neg (by omega), show i + (k + 1) = i + 1 + k by omega]; exact q2
      · simp only
        rw [if_neg (show ¬ j + 1 ≤ i by omega)]
        by_cases hji : j = i
        · subst hji
          rw [if_pos (Nat.le_refl _), if_pos rfl, if_pos rfl, q1]
          exact ⟨ht, hf⟩
        · rw [if_neg (show ¬ j ≤ i by omega), if_neg hji, if_neg hji]
          exact q3 j (by omega) (by omega)
    split at hq
    · rename_i hb
      simp only [Option.bind_eq_some_iff] at hq
      obtain ⟨o, ho, s, hs, hq⟩ := hq
      exact go _ s (fun _ => ⟨⟨o, ho, hs⟩, rfl⟩) (fun hf => absurd hb (by rw [hf]; decide)) hq
    · rename_i hb
      exact go h ((0, 0, 0), .bx true []) (fun ht => absurd ht hb) (fun _ => rfl) hq
def Tch (ps : Nat) (sid : Nat → Id) (c : Nat) (id : Id) : Prop := ∃ q, q < c ∧ ps.testBit q = true ∧ sid q = id
theorem CanonS.un {e : Env} {h : Heap} {hst : Nat → Heap} {sid : Nat → Id} {sb : Nat → Blk} (cs : CanonS P lvl g0 n ps all e h hst sid sb) {id : Id} : ∀ c, c ≤ n → ¬ Tch ps sid c id → (hst c).get id = h.get id
  | 0, _, _ => by rw [cs.zero]
  | c + 1, hc, hn => by
    have hn' : ¬ Tch ps sid c id := fun ⟨q, h1, h2, h3⟩ => hn ⟨q, by omega, h2, h3⟩
    have ih := cs.un c (by omega) hn'
    cases hb : ps.testBit c with
    | true =>
      rw [(cs.step c (by omega) hb).2, get_set_ne _ _ _ _ (fun hh => hn ⟨c, by omega, hb, hh.symm⟩)]; exact ih
    | false => rw [cs.skip c (by omega) hb]; exact ih
theorem CanonS.same {e : Env} {h : Heap} {hst : Nat → Heap} {sid : Nat → Id} {sb : Nat → Blk} (cs : CanonS P lvl g0 n ps all e h hst sid sb) {c : Nat} : ∀ d, c ≤ d → d ≤ n → (∀ q, c ≤ q → q < d → ps.testBit q = false) → hst d = hst c
  | 0, h1, _, _ => by rw [show c = 0 by omega]
  | d + 1, h1, h2, h3 => by
    by_cases hcd : c = d + 1
    · rw [hcd]
    · rw [cs.skip d (by omega) (h3 d (by omega) (by omega))]
      exact cs.same d (by omega) (by omega) fun q a b => h3 q a (by omega)
noncomputable def heap2 (ops : Array Oper) (n lvl ps : Nat) (sid : Nat → Id) (hst : Nat → Heap) (c : Nat) (h Hf : Heap) (L : Nat → Prop) (id : Id) : Option Blk :=
  if Tch ps sid c id then (hst c).get id else heapOf ops n lvl h Hf L id
structure Mid2 (w0 : World) (F0 : Nat → Prop) (h0 : Heap) (M0 : Id → Option Nat) (N : SlotN) (lvl n ps : Nat) (sid : Nat → Id) (hst : Nat → Heap) (all : List Oper) (es : Nat → Env) (hs : Nat → Heap) (L : Nat → Prop) (a : Act) (w : World) : Prop where
  st : ∃ c F M hS, c ≤ n ∧ (∀ q, q < n → ps.testBit q = true → (L q ↔ q < c)) ∧ HOK w.heap F hS M ∧ EnvR w.heap F hS M (envOf all.toArray n (es 0).get (es n).get L) a ∧ Evo All w0 F0 h0 M0 w F hS M ∧ ∀ id, hS.get id = heap2 all.toArray n lvl ps sid hst c (hs 0) (hs n) L id
  size : SizeOK N a
  defers : a.defers = N.ds
theorem Canon2.slot (c : Canon2 P C cp lvl g0 n ps qs all es hs) {L : Nat → Prop} (hcl : ∀ j oj, all.toArray[j]? = some oj → L j → ∀ e ∈ oj.after, Region.binds .any e = true → L e.on) {i : Nat} (hi : i < n) (hnL : ¬ L i) {o : Oper} (ho : all.toArray[i]? = some o)
    (hpre : ∀ e ∈ o.after, Region.binds .any e = true → L e.on) {t : Tmp} (ht : t ∈ o.looksAt all.toArray) : envOf all.toArray n (es 0).get (es n).get L t = (es i).get t := by
  rw [c.env i (by omega) t]
  unfold envOf
  by_cases hex : ∃ j, j < n ∧ (all.toArray[j]?).bind (·.dst) = some t
  · obtain ⟨j, hjn, hjd⟩ := hex
    obtain ⟨oj, hoj, hdj, hjp, _⟩ := c.at2 hjn hjd
    rw [dst_at hoj] at hjd
    have huniq : ∀ m, m < n → (all.toArray[m]?).bind (·.dst) = some t → m = j := fun m hm hmd => by
      obtain ⟨om, hom, hdm, hmp, _⟩ := c.at2 hm hmd
      rw [dst_at hom] at hmd
      exact c.ok.one j m oj om hjn hm hjp hoj hom (hmd.trans hjd.symm)
    obtain ⟨hji, hor⟩ := c.ok.data i j o oj t hi hjn ho hoj ht hjd
    rcases hor with hw | ⟨_, hw⟩
    · obtain ⟨o2, ho2, e, hee, hb, hon⟩ := Region.waitsFor_spec hw
      rw [ho] at ho2; injection ho2 with ho2; subst ho2
      have hLj : L j := hon ▸ hpre e hee hb
      have hlt : j < i := hon ▸ c.ok.back i o hi ho e hee hb
      rw [if_pos ⟨j, hjn, hLj, by rw [dst_at hoj, hjd]⟩, if_pos ⟨j, hjn, hlt, by rw [dst_at hoj, hjd]⟩]
    · obtain ⟨o2, ho2, e, hee, hb, hon⟩ := Region.waitsFor_spec hw
      rw [hoj] at ho2; injection ho2 with ho2; subst ho2
      have hlt : i < j := hon ▸ c.ok.back j oj hjn hoj e hee hb
      rw [if_neg, if_neg]
      · rintro ⟨m, hm, hml, hmd⟩
        have := huniq m hm hmd
        omega
      · rintro ⟨m, hm, hml, hmd⟩
        have := huniq m hm hmd
        subst this
        exact hnL (hon ▸ hcl m oj hoj hml e hee hb)
  · rw [if_neg, if_neg]
    · rintro ⟨m, hm, _, hmd⟩; exact hex ⟨m, hm, hmd⟩
    · rintro ⟨m, hm, _, hmd⟩; exact hex ⟨m, hm, hmd⟩
theorem looks_of {o : Oper} {ops : Array Oper} {t : Tmp} (ht : t ∈ reads o.op) : t ∈ o.looksAt ops := by
  obtain ⟨x, hx, hxt⟩ := List.mem_filterMap.1 ht
  have hxe : x = .tmp t := by
    cases x <;> simp at hxt
    rw [hxt]
  subst hxe
  exact List.mem_append_left _ (List.mem_filterMap.2 ⟨.tmp t, hx, rfl⟩)
def isB : Blk → Bool
  | .bx _ _ => true
  | _ => false
theorem lateR_spec {p : Nat} {c : Bool} {t : TypeId} {id id0 : Id} {off xt : Nat} {y : AV} {b b0 : Blk} (hq : lateR P lvl g0 n p all c t id off xt y b = some (id0, b0)) : c = true ∧ id0 = id ∧ g0 id0 = none ∧ y.cells.length = tsize P t ∧ 0 < tsize P t ∧
    (id0.1 = lvl → ∀ j, j < n → (all.toArray[j]?).bind (·.dst) = some id0.2.1 → Region.waitsFor .any all.toArray p j = true) ∧ b0.ext = b.ext ∧ isB b0 = isB b ∧ ∀ hS : Heap, hS.get id = some b → astore hS (.ptr id off (xt + 1)) y = some (hS.set id b0) := by
  unfold lateR at hq
  split at hq
  · rename_i sz ext cells
    split at hq
    · rename_i k z
      split at hq
      · rename_i hc
        obtain ⟨c1, c0, c3, c4, c5, c6⟩ := hc
        simp only [Option.some.injEq, Prod.mk.injEq] at hq
        obtain ⟨rfl, rfl⟩ := hq
        refine ⟨c1, rfl, by simpa using c0, by rw [c4]; rfl, by omega, fun hlv j hj hh => ?_, rfl, rfl, fun hS hg => ?_⟩
        · have := List.all_eq_true.1 ((Bool.or_eq_true_iff.1 c6).resolve_left (by simp [hlv])) j (List.mem_range.2 hj)
          simp only [Bool.or_eq_true, bne_iff_ne, ne_eq] at this
          rcases this with h | h
          · exact absurd (by simpa using hh) h
          · exact h
        · unfold astore
          simp only [hg, Option.bind_some]
          rw [if_pos ⟨c3, c5, rfl⟩]
          have e1 : (AV.v (.int k z)).cells.mapM (exportV hS.get 4) = some [.v (.int k z)] := rfl
          have e2 : (freezeAll hS (((AV.v (.int k z)).cells.map (borrowed hS.get 4)).flatten)) = hS := rfl
          rw [e1, e2]
          simp only [Option.bind_some, hg]
      · cases hq
    · cases hq
  · cases hq
theorem lateS_old {p : Nat} {r : Env × Heap} {o : Oper} {id0 : Id} {b0 : Blk} (hst : ∃ t a x, o.op = .store t a x) (hq : lateS P lvl g0 n p all r o = some (id0, b0)) : o.dst = none ∧ o.guard = none ∧ g0 id0 = none ∧ ∃ t a x off xt y b, o.op = .store t a x ∧ opnd r.1.get a = some (.ptr id0 off xt) ∧ opnd r.1.get x = some y ∧
    r.2.get id0 = some b ∧ y.cells.length = tsize P t ∧ 0 < tsize P t ∧ (id0.1 = lvl → ∀ j, j < n → (all.toArray[j]?).bind (·.dst) = some id0.2.1 → Region.waitsFor .any all.toArray p j = true) ∧ b0.ext = b.ext ∧ isB b0 = isB b ∧ ∀ hS : Heap, hS.get id0 = some b → astore hS (.ptr id0 off xt) y = some (hS.set id0 b0) := by
  unfold lateS at hq
  split at hq
  · rename_i t a x hop
    simp only [Option.bind_eq_some_iff] at hq
    obtain ⟨q, hqa, y, hy, hq⟩ := hq
    split at hq
    · rename_i id off
      simp only [Option.bind_eq_some_iff] at hq
      obtain ⟨b, hb, hq⟩ := hq
      split at hq
      · rename_i cells
        split at hq
        · rename_i hc
          obtain ⟨c1, c2, c0, c3, c4, c5, c6, c7⟩ := hc
          simp only [Option.some.injEq, Prod.mk.injEq] at hq
          obtain ⟨rfl, rfl⟩ := hq
          refine ⟨by simpa using c1, by simpa using c2, by simpa using c0, t, a, x, off, 0, y, .bx true cells, hop, hqa, hy, hb, c3, c4, fun hlv j hj hh => ?_, rfl, rfl, fun hS hg => ?_⟩
          · have := List.all_eq_true.1 ((Bool.or_eq_true_iff.1 c7).resolve_left (by simp [hlv])) j (List.mem_range.2 hj)
            simp only [Bool.or_eq_true, bne_iff_ne, ne_eq] at this
            rcases this with h | h
            · exact absurd (by simpa using hh) h
            · exact h
          · simp only [astore, hg, Option.bind_some]
            rw [if_pos ⟨rfl, c5, c6⟩]
        · cases hq
      · cases hq
    · rename_i id off xt
      simp only [Option.bind_eq_some_iff] at hq
      obtain ⟨b, hb, hq⟩ := hq
      obtain ⟨c1, rfl, c0, c3, c4, c5, c6, cB, c7⟩ := lateR_spec hq
      simp only [Bool.and_eq_true] at c1
      exact ⟨by simpa using c1.1, by simpa using c1.2, c0, t, a, x, off, xt + 1, y, b, hop, hqa, hy, hb, c3, c4, c5, c6, cB, c7⟩
    · cases hq
  · rename_i hop
    obtain ⟨t, a, x, h⟩ := hst
    rw [hop] at h; cases h
  · cases hq
def Wt (all : List Oper) (lvl n p : Nat) (id : Id) : Prop := id.1 = lvl → ∀ j, j < n → (all.toArray[j]?).bind (·.dst) = some id.2.1 → Region.waitsFor .any all.toArray p j = true
theorem lateW_spec {p : Nat} {id : Id} (h : lateW lvl n p all id = true) : Wt all lvl n p id := fun hlv j hj hh => by
  have := List.all_eq_true.1 ((Bool.or_eq_true_iff.1 h).resolve_left (by simp [hlv])) j (List.mem_range.2 hj)
  simp only [Bool.or_eq_true, bne_iff_ne, ne_eq] at this
  rcases this with h | h
  · exact absurd (by simpa using hh) h
  · exact h
theorem isOwn_spec {id : Id} {k : Nat} {y : Option AV} (h : isOwn id k y = true) : y = some (.own id 0 k k) := by
  unfold isOwn at h
  split at h
  · simp only [Bool.and_eq_true, beq_iff_eq, decide_eq_true_eq] at h
    obtain ⟨⟨rfl, rfl⟩, rfl⟩ := h
    rfl
  · cases h
theorem lateS_spec {p : Nat} {r : Env × Heap} {o : Oper} {id0 : Id} {b0 : Blk} (hq : lateS P lvl g0 n p all r o = some (id0, b0)) : o.guard = none ∧ g0 id0 = none ∧ Wt all lvl n p id0 ∧ (∃ b, r.2.get id0 = some b ∧ isB b0 = isB b) ∧
    ∃ y, (∀ d, o.dst = some d → r.1.get d = some y) ∧ ∀ (e' : Nat → Option AV) (hS : Heap), (∀ z : Operand, z ∈ o.op.operands → opnd e' z = opnd r.1.get z) → (∀ id b, Wt all lvl n p id → r.2.get id = some b → hS.get id = some b) →
      aS P lvl e' hS (o.dst.getD 0) o.op = some (y, hS.set id0 b0) := by
  by_cases hst : ∃ t a x, o.op = .store t a x
  · obtain ⟨t0, a0, x0, hop0⟩ := hst
    obtain ⟨hdn, hgn, c0, t, ad, x, off, xt, y, bo, hop, had, hxy, hg0, c3, c4, hid, hex0, hbB, hsb⟩ := lateS_old ⟨t0, a0, x0, hop0⟩ hq
    refine ⟨hgn, c0, hid, ⟨bo, hg0, hbB⟩, .v undef, (fun d hd => by rw [hdn] at hd; cases hd), fun e' hS hops hacc => ?_⟩
    have e1 := hops ad (by rw [hop]; simp [Op.operands])
    have e2 := hops x (by rw [hop]; simp [Op.operands])
    rw [hop]
    simp only [aS]
    rw [e1, e2, had, hxy]
    simp only [Option.bind_some]
    rw [if_pos ⟨c3, c4⟩, hsb _ (hacc id0 bo hid hg0)]
    rfl
  · unfold lateS at hq
    split at hq
    · rename_i t a x hop
      exact absurd ⟨t, a, x, hop⟩ hst
    · rename_i a b ts hop
      simp only [Option.bind_eq_some_iff] at hq
      obtain ⟨t, ht, t', ht', tv, htv, hq⟩ := hq
      unfold lateAT at hq
      split at hq
      · rename_i el esz by_
        simp only [Option.bind_eq_some_iff] at hq
        obtain ⟨z, hz, x, hx, y, hy, hq⟩ := hq
        unfold lateA1 at hq
        split at hq
        · rename_i id k ext id2 off2 m ext2
          simp only [Option.bind_eq_some_iff] at hq
          obtain ⟨b1, hb1, b2, hb2, hq⟩ := hq
          unfold lateA at hq
          split at hq
          · rename_i sz ext' cells rw2 sz2 e2 cells2
            split at hq
            · rename_i hc
              obtain ⟨c1, c2, rfl, rfl, rfl, rfl, c3, c4, c5, c6⟩ := hc
              simp only [Option.some.injEq, Prod.mk.injEq] at hq
              obtain ⟨rfl, rfl⟩ := hq
              simp only [Bool.and_eq_true, decide_eq_true_eq] at c1
              obtain ⟨⟨⟨⟨⟨⟨⟨d1, d2⟩, d3⟩, d4⟩, d5⟩, d6⟩, d7⟩, d8⟩ := c1
              have hown := isOwn_spec c2
              refine ⟨by simpa using d4, by simpa using d6, lateW_spec d7, ⟨_, hb1, rfl⟩, _, (fun d hd => by rw [hd] at hown; exact hown), fun e' hS hops hacc => ?_⟩
              have e1 := hops a (by rw [hop]; simp [Op.operands, Call.operands])
              have e2' := hops b (by rw [hop]; simp [Op.operands, Call.operands])
              have g1 := hacc id _ (lateW_spec d7) hb1
              have g2 := hacc id2 _ (lateW_spec d8) hb2
              rw [hop]
              subst d1
              simp only [aS, optL, e1, e2', hx, hy, Option.bind_some, ht, ht', htv, hz, if_true]
              rw [if_pos ⟨d2, d3⟩]
              have hn : newsOf hS.get (.own id2 off2 m e2) = some (m, cut cells2 off2 m sz2 e2) := by
                unfold newsOf
                simp only [exportV, g2, Option.bind_some, if_true]
              have hi : inner hS.get (.own id2 off2 m e2) = [] := by
                unfold inner
                simp only [g2]
              rw [hn]
              simp only [Option.bind_some, hi, freezeAll, g1, c3, c4, c5, c6, and_self, if_true]
            · cases hq
          · cases hq
        · cases hq
      · cases hq
    · cases hq
theorem CanonS.bx {e : Env} {h : Heap} {hst : Nat → Heap} {sid : Nat → Id} {sb : Nat → Blk} (cs : CanonS P lvl g0 n ps all e h hst sid sb) : ∀ {c : Nat} (hc : c ≤ n) {id : Id} {blk : Blk} (hb : (hst c).get id = some blk), ∃ b0, h.get id = some b0 ∧ isB blk = isB b0
  | 0, _, id, blk, hb => ⟨blk, by rw [← cs.zero]; exact hb, rfl⟩
  | c + 1, hc, id, blk, hb => by
    cases hbc : ps.testBit c with
    | false =>
      rw [cs.skip c (by omega) hbc] at hb
      exact cs.bx (by omega) hb
    | true =>
      obtain ⟨⟨o, ho, hls⟩, hst1⟩ := cs.step c (by omega) hbc
      rw [hst1] at hb
      by_cases hi : id = sid c
      · subst hi
        rw [get_set_same] at hb
        injection hb with hb
        obtain ⟨_, _, _, ⟨b, hg, he⟩, _⟩ := lateS_spec hls
        obtain ⟨b0, h1, h2⟩ := cs.bx (by omega) hg
        exact ⟨b0, h1, by rw [← hb, he, h2]⟩
      · rw [get_set_ne _ _ _ _ hi] at hb
        exact cs.bx (by omega) hb
theorem ptr_live {H : Array Obj} {F : Nat → Prop} {hS : Heap} {M : Id → Option Nat} {e : Nat → Option AV} {a : Act} (he : EnvR H F hS M e a) {x : Operand} {id : Id} {off : Nat} (hx : opnd e x = some (.ptr id off 0)) : ∃ blk, hS.get id = some blk := by
  cases x with
  | tmp t =>
    have := he t _ hx
    generalize a.tmps.getD t undef = u at this
    cases this with
    | c hc => cases hc
    | ptr hg _ _ => exact ⟨_, hg⟩
  | const v =>
    simp only [opnd, Option.some.injEq] at hx
    unfold lift at hx
    split at hx <;> cases hx
  | global => cases hx
  | func => simp [opnd] at hx
theorem lateV_c {H : Array Obj} {F : Nat → Prop} {h hS : Heap} {M : Id → Option Nat} {e e' : Nat → Option AV} {a : Act} (he : EnvR H F hS M e' a) {o : Op} (hs : ∀ t ∈ reads o, e' t = e t)
    (hbx : ∀ id rw cells blk, h.get id = some (.bx rw cells) → hS.get id = some blk → blk.ext = 0) {t : AV} (hq : lateV P e h o = some t) : aopQ P C cp e' hS.get o = some t := by
  have hop : ∀ x ∈ o.operands, opnd e' x = opnd e x := fun x hx => opnd_in (e := e) (e' := e') (o := o) hs hx
  have hlive : ∀ {x : Operand} {id : Id} {off : Nat} {rw : Bool} {cells : List AV}, opnd e' x = some (.ptr id off 0) → h.get id = some (.bx rw cells) → live hS.get id 0 = true := fun hx hh => by
    obtain ⟨blk, hb⟩ := ptr_live he hx
    unfold live
    rw [hb]
    simp [hbx _ _ _ _ hh hb]
  unfold lateV at hq
  split at hq
  · rename_i x
    simp only [Option.bind_eq_some_iff] at hq
    obtain ⟨y, hy, hq⟩ := hq
    rw [← hop x (by simp [Op.operands])] at hy
    unfold lateK at hq
    split at hq
    · rename_i id off
      simp only [Option.bind_eq_some_iff] at hq
      obtain ⟨b, hb, hq⟩ := hq
      unfold lateKB at hq
      split at hq
      · injection hq with hq; subst hq
        show (opnd e' x).bind _ = _
        rw [hy]
        show (if live hS.get id 0 = true then _ else _) = _
        rw [if_pos (hlive hy hb)]
      · cases hq
    · cases hq
  · rename_i s x i
    simp only [Option.bind_eq_some_iff] at hq
    obtain ⟨y, hy, hq⟩ := hq
    rw [← hop x (by simp [Op.operands])] at hy
    unfold lateF at hq
    split at hq
    · rename_i id off
      simp only [Option.bind_eq_some_iff] at hq
      obtain ⟨b, hb, hq⟩ := hq
      unfold lateFB at hq
      split at hq
      · simp only [Option.bind_eq_some_iff] at hq
        obtain ⟨r, hr, hq⟩ := hq
        show (opnd e' x).bind _ = _
        rw [hy]
        show afield P s hS.get (.ptr id off 0) i = _
        unfold afield
        rw [hr]
        obtain ⟨o1, t1⟩ := r
        show (if tsize P t1 = 0 then none else if live hS.get id 0 = true then _ else _) = _
        rw [if_pos (hlive hy hb)]
        exact hq
      · cases hq
    · cases hq
  · cases hq
theorem Mid2.next (hg00 : ∀ id b, g0 id = some b → (hs 0).get id = some b) (c : Canon2 P C cp lvl g0 n ps qs all es hs) (hcp : CpOK P cp) {sid : Nat → Id} {hst : Nat → Heap} {sb : Nat → Blk} (cs : CanonS P lvl g0 n ps all (es n) (hs n) hst sid sb) (hid : ∀ p, p < n → ps.testBit p = true → (sid p).1 = lvl → ∀ j, j < n → (all.toArray[j]?).bind (·.dst) = some (sid p).2.1 → Region.waitsFor .any all.toArray p j = true) (hg0n : ∀ p, p < n → ps.testBit p = true → g0 (sid p) = none) {w0 : World} {F0 : Nat → Prop} {h0 : Heap} {M0 : Id → Option Nat} {L : Nat → Prop} {a : Act} {w : World}
    (m : Mid2 w0 F0 h0 M0 N lvl n ps sid hst all es hs L a w)
    (hcl : ∀ j oj, all.toArray[j]? = some oj → L j → ∀ e ∈ oj.after, Region.binds .any e = true → L e.on) {i : Nat} (hi : i < n) (hip : ps.testBit i = false) (hnL : ¬ L i) {o : Oper} (ho : all.toArray[i]? = some o)
    (hpre : ∀ e ∈ o.after, Region.binds .any e = true → L e.on) (hdst : dstOk N o = true) {K : Act → World → Prop} {Q : Exit → Act → World → Prop}
    (hK : ∀ a' w', Mid2 w0 F0 h0 M0 N lvl n ps sid hst all es hs (fun j => j = i ∨ L j) a' w' → K a' w') :
    if Region.wanted o (yielded all.toArray a.tmps) = true then o.wp P a w K Q else K (a.put o.dst undef) w := by
  obtain ⟨o', d, ho1, ho2, hd, y, hey, hkeep, hoth, hcase⟩ := c.at_ hi hip
  rw [ho] at ho2; injection ho2 with ho2; subst ho2
  obtain ⟨ct, F, M, hS, hcn, hcut, hk, he, ev, hget⟩ := m.st
  have hdN := dstOk_spec hdst d hd
  have hslot : ∀ t ∈ o.looksAt all.toArray, envOf all.toArray n (es 0).get (es n).get L t = (es i).get t := fun t ht => c.slot hcl hi hnL ho hpre ht
  have hread : ∀ t ∈ reads o.op, envOf all.toArray n (es 0).get (es n).get L t = (es i).get t := fun t ht => hslot t (looks_of ht)
  have hwant : ∀ b, wantedA all (es i) o = some b → Region.wanted o (yielded all.toArray a.tmps) = b := fun b hb => by
    refine wantedF_ok he ?_
    unfold wantedA at hb
    unfold wantedF at hb ⊢
    cases hg : o.guard with
    | none => rw [hg] at hb; exact hb
    | some p =>
      obtain ⟨j, want⟩ := p
      rw [hg] at hb
      simp only at hb ⊢
      cases hdj : (all[j]?).bind (·.dst) with
      | none => rw [hdj] at hb; exact hb
      | some dj =>
        rw [hdj] at hb
        simp only at hb ⊢
        rw [hslot dj]
        · exact hb
        · refine List.mem_append_right _ ?_
          have hdj' : (all.toArray[j]?).bind (·.dst) = some dj := by simpa using hdj
          rw [hg]
          show dj ∈ ((all.toArray[j]?).bind (·.dst)).toList
          rw [hdj']
          simp
  have hwp : ∀ p, Region.waitsFor .any all.toArray p i = true → ¬ L p := fun p hw hLp => by
    obtain ⟨o2, ho2, e, hee, hb, hon⟩ := Region.waitsFor_spec hw
    exact hnL (hon ▸ hcl p o2 ho2 hLp e hee hb)
  have hut : ∀ id : Id, id.1 = lvl → id.2.1 = d → ¬ Tch ps sid ct id := fun id e1 e2 ⟨q, h1, h2, h3⟩ =>
    hwp q (hid q (by omega) h2 (by rw [h3]; exact e1) i hi (by rw [dst_at ho, hd, ← e2, ← h3])) ((hcut q (by omega) h2).2 h1)
  have hcompat : qs.testBit i = false → Compat (hs i).get hS.get := fun hl id b b' h1 h2 => by
      have hnt : ¬ Tch ps sid ct id := fun ⟨q, h1, h2, h3⟩ => hnL (c.ok.early L hcl q (by omega) h2 ((hcut q (by omega) h2).2 h1) i hi hip hl)
      rw [c.heap i (by omega)] at h1
      rw [hget] at h2
      unfold heap2 at h2
      rw [if_neg hnt] at h2
      have hk0 := c.keeps 0 n (Nat.zero_le _) (Nat.le_refl _) id
      unfold heapOf at h1 h2
      split at h1 <;> split at h2
      · rw [h1] at h2; injection h2
      · rw [hk0 b' h2] at h1; injection h1 with h1; exact h1.symm
      · rw [hk0 b h1] at h2; injection h2
      · rw [h1] at h2; injection h2
  have hfin : ∀ {w' : World} {F' : Nat → Prop} {hS' : Heap} {M' : Id → Option Nat} {u : Value}, HOK w'.heap F' hS' M' → Evo All w F hS M w' F' hS' M' → VR w'.heap F' hS' M' y u →
      (∀ k, hS'.get (lvl, d, k) = (hs (i + 1)).get (lvl, d, k)) → Others lvl d hS hS' → Mid2 w0 F0 h0 M0 N lvl n ps sid hst all es hs (fun j => j = i ∨ L j) (a.put o.dst u) w' := fun {w' F' hS' M' u} q1 q2 q3 q4 q5 => by
    have hcut' : ∀ q, q < n → ps.testBit q = true → ((q = i ∨ L q) ↔ q < ct) := fun q h1 h2 => ⟨fun h => h.elim (fun h => by subst h; rw [hip] at h2; cases h2) (hcut q h1 h2).1, fun h => .inr ((hcut q h1 h2).2 h)⟩
    refine ⟨⟨ct, F', M', hS', hcn, hcut', q1, fun k x hx => ?_, ev.trans hk q2, fun id => ?_⟩, m.size.put (dstOk_spec hdst), put_defers.trans m.defers⟩
    · rw [hd, put_getD (by rw [m.size.1]; exact hdN.1)]
      by_cases hkd : k = d
      · subst hkd
        rw [if_pos rfl]
        unfold envOf at hx
        rw [if_pos ⟨i, hi, .inl rfl, by rw [dst_at ho, hd]⟩] at hx
        have h1 := c.env (i + 1) (by omega) k
        unfold envOf at h1
        rw [if_pos ⟨i, hi, by omega, by rw [dst_at ho, hd]⟩, hey, envGet_set_same] at h1
        rw [← h1] at hx
        injection hx with hx; subst hx; exact q3
      · rw [if_neg hkd]
        refine q2.vr hk (he k x ?_)
        rw [← hx]
        unfold envOf
        by_cases hex : ∃ j, j < n ∧ L j ∧ (all.toArray[j]?).bind (·.dst) = some k
        · obtain ⟨j, h1, h2, h3⟩ := hex
          rw [if_pos ⟨j, h1, h2, h3⟩, if_pos ⟨j, h1, .inr h2, h3⟩]
        · rw [if_neg hex, if_neg]
          rintro ⟨j, h1, h2, h3⟩
          rcases h2 with rfl | h2
          · rw [dst_at ho, hd] at h3; injection h3 with h3; exact hkd h3.symm
          · exact hex ⟨j, h1, h2, h3⟩
    · by_cases hidd : id.1 = lvl ∧ id.2.1 = d
      · have hne := hut id hidd.1 hidd.2
        obtain ⟨l0, s0, k0⟩ := id
        obtain ⟨rfl, rfl⟩ := hidd
        rw [q4, c.heap (i + 1) (by omega)]
        unfold heap2
        rw [if_neg hne]
        unfold heapOf
        rw [if_pos ⟨rfl, i, hi, by omega, by rw [dst_at ho, hd]⟩, if_pos ⟨rfl, i, hi, .inl rfl, by rw [dst_at ho, hd]⟩]
      · rw [q5 id hidd, hget]
        unfold heap2
        by_cases h0' : Tch ps sid ct id
        · rw [if_pos h0', if_pos h0']
        · rw [if_neg h0', if_neg h0']
          unfold heapOf
          by_cases hex : id.1 = lvl ∧ ∃ j, j < n ∧ L j ∧ (all.toArray[j]?).bind (·.dst) = some id.2.1
          · obtain ⟨e1, j, h1, h2, h3⟩ := hex
            rw [if_pos ⟨e1, j, h1, h2, h3⟩, if_pos ⟨e1, j, h1, .inr h2, h3⟩]
          · rw [if_neg hex, if_neg]
            rintro ⟨e1, j, h1, h2, h3⟩
            rcases h2 with rfl | h2
            · rw [dst_at ho, hd] at h3; injection h3 with h3; exact hidd ⟨e1, h3.symm⟩
            · exact hex ⟨e1, j, h1, h2, h3⟩
  have halike : Alike lvl d (hs i) hS := fun k => by
    have hne := hut (lvl, d, k) rfl rfl
    rw [c.heap i (by omega), hget]
    unfold heap2
    rw [if_neg hne]
    unfold heapOf
    have huniq : ∀ m, m < n → (all.toArray[m]?).bind (·.dst) = some d → m = i := fun m hm hmd => by
      obtain ⟨om, hom, hdm, hmp, _⟩ := c.at2 hm hmd
      rw [dst_at hom] at hmd
      exact c.ok.one i m o om hi hm (by rw [hd]; rfl) ho hom (hmd.trans hd.symm)
    rw [if_neg, if_neg]
    · rintro ⟨_, m, hm, hml, hmd⟩
      exact hnL (huniq m hm hmd ▸ hml)
    · rintro ⟨_, m, hm, hml, hmd⟩
      have := huniq m hm hmd
      omega
  rcases hcase with ⟨hw, t, k, ht, him⟩ | ⟨hw, hh, rfl⟩
  · rw [if_pos (hwant true hw)]
    have hbx : ∀ id rw cells blk, (hs i).get id = some (.bx rw cells) → hS.get id = some blk → blk.ext = 0 := fun id rw cells blk h1 h2 => by
      rw [hget] at h2
      unfold heap2 at h2
      split at h2
      · rename_i htc
        obtain ⟨b0, k1, k2⟩ := cs.bx hcn h2
        rw [c.keeps i n (by omega) (Nat.le_refl _) id _ h1] at k1
        injection k1 with k1
        rw [← k1] at k2
        cases blk with
        | bx => rfl
        | sl => cases k2
      · have k0 := c.keeps 0 i (Nat.zero_le _) (by omega) id
        have kn := c.keeps i n (by omega) (Nat.le_refl _) id _ h1
        unfold heapOf at h2
        split at h2
        · rw [kn] at h2; injection h2 with h2; subst h2; rfl
        · have := k0 blk h2
          rw [h1] at this; injection this with this; subst this; rfl
    have ht' : aopQ P C cp (envOf all.toArray n (es 0).get (es n).get L) hS.get o.op = some t := by
      unfold aopQL at ht
      split at ht
      · cases hx : aopQ P C cp (es i).get g0 o.op with
        | some t' =>
          rw [hx] at ht
          injection ht with ht; subst ht
          refine aopQ_c hk (fun id b b' h1 h2 => ?_) he hread hx
          have hnt : ¬ Tch ps sid ct id := fun ⟨q, k1, k2, k3⟩ => by
            have := hg0n q (by omega) k2
            rw [k3, h1] at this; cases this
          rw [hget] at h2
          unfold heap2 at h2
          rw [if_neg hnt] at h2
          have h0 := hg00 id b h1
          unfold heapOf at h2
          split at h2
          · rw [c.keeps 0 n (Nat.zero_le _) (Nat.le_refl _) id b h0] at h2; injection h2
          · rw [h0] at h2; injection h2
        | none =>
          rw [hx] at ht
          exact lateV_c he hread hbx ht
      · rename_i hq
        exact aopQ_c hk (hcompat (by simpa using hq)) he hread ht
    obtain ⟨hS', q1, q2, _, q4⟩ := import_alike lvl d 4 t 0 (hs i) y k (hs (i + 1)) hS halike him
    exact aopQ_ok hcp hk he ht' q1 fun w' F' M' u r1 r2 r3 => hK _ _ (hfin r1 r2 r3 (fun k => (q2 k).symm) q4)
  · rw [if_neg (by rw [hwant false hw]; simp)]
    exact hK _ _ (hfin hk .refl (.c .v) (fun k => by rw [hh]; exact (halike k).symm) (.refl _ _ _))
theorem Mid2.store (c : Canon2 P C cp lvl g0 n ps qs all es hs) {hst : Nat → Heap} {sid : Nat → Id} {sb : Nat → Blk} (cs : CanonS P lvl g0 n ps all (es n) (hs n) hst sid sb) {w0 : World} {F0 : Nat → Prop} {h0 : Heap} {M0 : Id → Option Nat} {L : Nat → Prop} {a : Act} {w : World}
    (m : Mid2 w0 F0 h0 M0 N lvl n ps sid hst all es hs L a w)
    (hcl : ∀ j oj, all.toArray[j]? = some oj → L j → ∀ e ∈ oj.after, Region.binds .any e = true → L e.on) {p : Nat} (hpn : p < n) (hps : ps.testBit p = true) (hnL : ¬ L p) {o : Oper} (ho : all.toArray[p]? = some o)
    (hpre : ∀ e ∈ o.after, Region.binds .any e = true → L e.on) (hdst : dstOk N o = true) {K : Act → World → Prop} {Q : Exit → Act → World → Prop}
    (hK : ∀ a' w', Mid2 w0 F0 h0 M0 N lvl n ps sid hst all es hs (fun j => j = p ∨ L j) a' w' → K a' w') :
    if Region.wanted o (yielded all.toArray a.tmps) = true then o.wp P a w K Q else K (a.put o.dst undef) w := by
  obtain ⟨⟨o2, ho2, hls⟩, hst1⟩ := cs.step p hpn hps
  have ho3 : all[p]? = some o := by simpa using ho
  rw [ho3] at ho2; injection ho2 with ho2; subst ho2
  obtain ⟨hgn, _, hid, ⟨bo, hg0, hbB⟩, y, hyd, hkey⟩ := lateS_spec hls
  have hcl' : Clsd all.toArray (fun j => j = p ∨ L j) := fun j oj hj hLj e he hb => by
    rcases hLj with rfl | hLj
    · rw [ho] at hj; injection hj with hj; subst hj
      exact .inr (hpre e he hb)
    · exact .inr (hcl j oj hj hLj e he hb)
  obtain ⟨ct, F, M, hS, hcn, hcut, hk, he, ev, hget⟩ := m.st
  have hbefore : ∀ q, q < p → ps.testBit q = true → L q := fun q hq hb => (c.ok.order _ hcl' p hpn hps (.inl rfl) q hq hb).resolve_left (by omega)
  have hafter : ∀ q, p < q → q < n → ps.testBit q = true → ¬ L q := fun q hq hqn hb hL => hnL (c.ok.order L hcl q hqn hb hL p hq hps)
  have hctp : ct ≤ p := by
    rcases Nat.lt_or_ge p ct with h | h
    · exact absurd ((hcut p hpn hps).2 h) hnL
    · exact h
  have hnone : ∀ q, ct ≤ q → q < p → ps.testBit q = false := fun q h1 h2 => by
    cases hb : ps.testBit q with
    | false => rfl
    | true => have := (hcut q (by omega) hb).1 (hbefore q h2 hb); omega
  have hsame : hst p = hst ct := cs.same p hctp (by omega) hnone
  have htch : ∀ id, Tch ps sid p id ↔ Tch ps sid ct id := fun id => ⟨fun ⟨q, h1, h2, h3⟩ => by
    rcases Nat.lt_or_ge q ct with h | h
    · exact ⟨q, h, h2, h3⟩
    · exact absurd h2 (by rw [hnone q h h1]; decide), fun ⟨q, h1, h2, h3⟩ => ⟨q, by omega, h2, h3⟩⟩
  have hwt : Region.wanted o (yielded all.toArray a.tmps) = true := by unfold Region.wanted; rw [hgn]
  rw [if_pos hwt]
  -- the slots that it reads are the last ones
  have hread : ∀ t ∈ reads o.op, envOf all.toArray n (es 0).get (es n).get L t = (es n).get t := fun t ht => by
    have ht' := looks_of (ops := all.toArray) ht
    by_cases hex : ∃ j, j < n ∧ L j ∧ (all.toArray[j]?).bind (·.dst) = some t
    · unfold envOf; rw [if_pos hex]
    · unfold envOf
      rw [if_neg hex]
      by_cases hex2 : ∃ j, j < n ∧ (all.toArray[j]?).bind (·.dst) = some t
      · exfalso
        obtain ⟨j, hjn, hjd⟩ := hex2
        obtain ⟨oj, hoj, hdj, hjp, _⟩ := c.at2 hjn hjd
        have hjd' := hjd
        rw [dst_at hoj] at hjd'
        obtain ⟨_, hor⟩ := c.ok.data p j o oj t hpn hjn ho hoj ht' hjd'
        rcases hor with hw | ⟨hw, _⟩
        · obtain ⟨o2, ho2, e, hee, hb, hon⟩ := Region.waitsFor_spec hw
          rw [ho] at ho2; injection ho2 with ho2; subst ho2
          exact hex ⟨j, hjn, hon ▸ hpre e hee hb, hjd⟩
        · rw [hps] at hw; cases hw
      · have := c.env n (Nat.le_refl _) t
        unfold envOf at this
        rw [if_neg (fun ⟨j, h1, _, h3⟩ => hex2 ⟨j, h1, h3⟩)] at this
        exact this.symm
  have hops : ∀ z : Operand, z ∈ o.op.operands → opnd (envOf all.toArray n (es 0).get (es n).get L) z = opnd (es n).get z := fun z hz => opnd_in hread hz
  have hacc : ∀ id bb, Wt all lvl n p id → (hst p).get id = some bb → hS.get id = some bb := fun id bb hw hg0' => by
    rw [hget]
    unfold heap2
    by_cases ht : Tch ps sid ct id
    · rw [if_pos ht, ← hsame]; exact hg0'
    · rw [if_neg ht]
      rw [hsame, cs.un ct hcn ht] at hg0'
      rw [← hg0', c.heap n (Nat.le_refl _)]
      unfold heapOf
      by_cases hex : id.1 = lvl ∧ ∃ j, j < n ∧ L j ∧ (all.toArray[j]?).bind (·.dst) = some id.2.1
      · obtain ⟨e1, j, h1, h2, h3⟩ := hex
        rw [if_pos ⟨e1, j, h1, h2, h3⟩, if_pos ⟨e1, j, h1, h1, h3⟩]
      · rw [if_neg hex, if_neg]
        rintro ⟨e1, j, h1, _, h3⟩
        obtain ⟨o2, ho2, e, hee, hb, hon⟩ := Region.waitsFor_spec (hw e1 j h1 h3)
        rw [ho] at ho2; injection ho2 with ho2; subst ho2
        exact hex ⟨e1, j, h1, hon ▸ hpre e hee hb, h3⟩
  have haS : aS P lvl (envOf all.toArray n (es 0).get (es n).get L) hS (o.dst.getD 0) o.op = some (y, hS.set (sid p) (sb p)) := hkey _ hS hops hacc
  obtain ⟨nx, w', F', M', hr, q1, q2, q3⟩ := aS_ok hk he (lvl := lvl) (dst := o.dst.getD 0) haS
  have hcut' : ∀ q, q < n → ps.testBit q = true → ((q = p ∨ L q) ↔ q < p + 1) := fun q h1 h2 => ⟨fun h => h.elim (fun h => by omega) fun h => by
      rcases Nat.lt_or_ge p q with h3 | h3
      · exact absurd h (hafter q h3 h1 h2)
      · omega, fun h => by
      by_cases hqp : q = p
      · exact .inl hqp
      · exact .inr (hbefore q (by omega) h2)⟩
  have hmid : ∀ u, (∀ d, o.dst = some d → VR w'.heap F' (hS.set (sid p) (sb p)) M' y u) → Mid2 w0 F0 h0 M0 N lvl n ps sid hst all es hs (fun j => j = p ∨ L j) (a.put o.dst u) w' := fun u hu => by
    refine ⟨⟨p + 1, F', M', hS.set (sid p) (sb p), hpn, hcut', q1, fun k z hz => ?_, ev.trans hk q2, fun id => ?_⟩, m.size.put (dstOk_spec hdst), put_defers.trans m.defers⟩
    · by_cases hkd : o.dst = some k
      · rw [hkd, put_getD (by rw [m.size.1]; exact (dstOk_spec hdst k hkd).1), if_pos rfl]
        have hz2 : (es n).get k = some z := by
          unfold envOf at hz
          rw [if_pos ⟨p, hpn, .inl rfl, by rw [dst_at ho, hkd]⟩] at hz
          exact hz
        rw [hyd k hkd] at hz2
        injection hz2 with hz2
        subst hz2
        exact hu k hkd
      · have hold : (a.put o.dst u).tmps.getD k undef = a.tmps.getD k undef := by
          cases hd : o.dst with
          | none => rfl
          | some d =>
            rw [put_getD (by rw [m.size.1]; exact (dstOk_spec hdst d hd).1), if_neg (fun hh => hkd (by rw [hd, hh]))]
        rw [hold]
        refine q2.vr hk (he k z ?_)
        rw [← hz]
        unfold envOf
        by_cases hex : ∃ j, j < n ∧ L j ∧ (all.toArray[j]?).bind (·.dst) = some k
        · obtain ⟨j, h1, h2, h3⟩ := hex
          rw [if_pos ⟨j, h1, h2, h3⟩, if_pos ⟨j, h1, .inr h2, h3⟩]
        · rw [if_neg hex, if_neg]
          rintro ⟨j, h1, h2, h3⟩
          rcases h2 with h2 | h2
          · rw [h2] at h3; rw [dst_at ho] at h3; exact hkd h3
          · exact hex ⟨j, h1, h2, h3⟩
    · unfold heap2
      by_cases hidd : id = sid p
      · subst hidd
        rw [if_pos ⟨p, by omega, hps, rfl⟩, get_set_same, hst1, get_set_same]
      · have htp : Tch ps sid (p + 1) id ↔ Tch ps sid ct id := ⟨fun ⟨q, h1, h2, h3⟩ => (htch id).1 ⟨q, by
            rcases Nat.lt_or_ge q p with h | h
            · exact h
            · exact absurd h3.symm (by rw [show q = p by omega]; exact hidd), h2, h3⟩, fun h => by
            obtain ⟨q, h1, h2, h3⟩ := (htch id).2 h
            exact ⟨q, by omega, h2, h3⟩⟩
        rw [get_set_ne _ _ _ _ hidd, hget]
        unfold heap2
        by_cases htc : Tch ps sid ct id
        · rw [if_pos htc, if_pos (htp.2 htc), hst1, get_set_ne _ _ _ _ hidd, hsame]
        rw [if_neg htc, if_neg (fun hh => htc (htp.1 hh))]
        unfold heapOf
        by_cases hex : id.1 = lvl ∧ ∃ j, j < n ∧ L j ∧ (all.toArray[j]?).bind (·.dst) = some id.2.1
        · obtain ⟨e1, j, h1, h2, h3⟩ := hex
          rw [if_pos ⟨e1, j, h1, h2, h3⟩, if_pos ⟨e1, j, h1, .inr h2, h3⟩]
        · by_cases hpd : id.1 = lvl ∧ o.dst = some id.2.1
          · obtain ⟨e1, e2⟩ := hpd
            have hpt : (all.toArray[p]?).bind (·.dst) = some id.2.1 := by rw [dst_at ho, e2]
            have k1 := c.heap (p + 1) (by omega) id
            have k0 := c.heap p (by omega) id
            rw [(c.skip p hpn hps).1, k0] at k1
            unfold heapOf at k1
            rw [if_neg, if_pos ⟨e1, p, hpn, Nat.lt_succ_self p, hpt⟩] at k1
            · rw [if_neg hex, if_pos ⟨e1, p, hpn, .inl rfl, hpt⟩]
              exact k1
            · rintro ⟨_, j, hj, hjp, hjd⟩
              have hjp : j < p := hjp
              obtain ⟨oj, hoj, hdj, _⟩ := c.at2 hj hjd
              have := c.ok.one p j o oj hpn hj (by rw [e2]; rfl) ho hoj (hdj.trans e2.symm)
              omega
          · rw [if_neg hex, if_neg]
            rintro ⟨e1, j, h1, h2, h3⟩
            rcases h2 with h2 | h2
            · rw [h2] at h3; rw [dst_at ho] at h3; exact hpd ⟨e1, h3⟩
            · exact hex ⟨e1, j, h1, h2, h3⟩
  unfold Oper.wp
  rw [hr]
  rcases q3 with ⟨rfl, hyu⟩ | ⟨u, rfl, hyu⟩
  · rw [Oper.upon_skip]
    exact hK _ _ (hmid undef fun d hd => by rw [hyu]; exact .c .v)
  · rw [Oper.upon_value]
    exact hK _ _ (hmid u fun d hd => hyu)
theorem mid_any2 (hg00 : ∀ id b, g0 id = some b → (hs 0).get id = some b) (c : Canon2 P C cp lvl g0 n ps qs all es hs) (hcp : CpOK P cp) {hst : Nat → Heap} {sid : Nat → Id} {sb : Nat → Blk} (cs : CanonS P lvl g0 n ps all (es n) (hs n) hst sid sb) {w0 : World} {F0 : Nat → Prop} {h0 : Heap} {M0 : Id → Option Nat} {Q : Exit → Act → World → Prop} (hdst : all.all (dstOk N) = true)
    (hfin : ∀ a w F M, St N w F (hst n) M (es n) a → Evo All w0 F0 h0 M0 w F (hst n) M → wpAny P .any all.toArray Q (all.length - n) (listedN n all.toArray.size) a w) :
    ∀ (m : Nat) (listed : Array Bool) (a : Act) (w : World), HeadInv .any all.toArray n listed → cntU n listed = m → Mid2 w0 F0 h0 M0 N lvl n ps sid hst all es hs (fun j => listed.getD j false = true) a w →
      wpAny P .any all.toArray Q (m + (all.length - n)) listed a w := by
  have hle : n ≤ all.length := by simpa using c.ok.le
  have hid : ∀ p, p < n → ps.testBit p = true → (sid p).1 = lvl → ∀ j, j < n → (all.toArray[j]?).bind (·.dst) = some (sid p).2.1 → Region.waitsFor .any all.toArray p j = true := fun p hp hb => by
    obtain ⟨⟨o, ho, hls⟩, _⟩ := cs.step p hp hb
    exact (lateS_spec hls).2.2.1
  have hg0n : ∀ p, p < n → ps.testBit p = true → g0 (sid p) = none := fun p hp hb => by
    obtain ⟨⟨o, ho, hls⟩, _⟩ := cs.step p hp hb
    exact (lateS_spec hls).2.1
  intro m
  induction m with
  | zero =>
    intro listed a w inv hcnt mid
    have hl : ∀ i, i < n → listed.getD i true = true := cntU_zero hcnt
    have hlf : ∀ i, i < n → listed.getD i false = true := fun i hi => by
      have := hl i hi
      have hs' : i < listed.size := by rw [inv.size]; simp; omega
      simp [hs'] at this ⊢; exact this
    have heq : listed = listedN n all.toArray.size := by
      apply Array.ext
      · simp [listedN, inv.size]
      · intro i h1 h2
        by_cases hi : i < n
        · have := hl i hi
          simp [h1] at this
          simp [listedN, this, hi]
        · have := inv.tail i (by omega) (by rw [← inv.size]; exact h1)
          simp [h1] at this
          simp [listedN, this, hi]
    obtain ⟨ct, F, M, hS, hcn, hcut, hk, he, ev, hget⟩ := mid.st
    have hfar : ∀ q, ct ≤ q → q < n → ps.testBit q = false := fun q h1 h2 => by
      cases hb : ps.testBit q with
      | false => rfl
      | true => have := (hcut q h2 hb).1 (hlf q h2); omega
    have hsame : hst n = hst ct := cs.same n hcn (Nat.le_refl _) hfar
    have hget' : ∀ id, (hst n).get id = hS.get id := fun id => by
      rw [hget]
      unfold heap2
      by_cases htc : Tch ps sid ct id
      · rw [if_pos htc, hsame]
      · rw [if_neg htc, hsame, cs.un ct hcn htc, c.heap n (Nat.le_refl _)]
        unfold heapOf
        by_cases hex : id.1 = lvl ∧ ∃ j, j < n ∧ j < n ∧ (all.toArray[j]?).bind (·.dst) = some id.2.1
        · obtain ⟨e1, j, h1, h2, h3⟩ := hex
          rw [if_pos ⟨e1, j, h1, h2, h3⟩, if_pos ⟨e1, j, h1, hlf j h1, h3⟩]
        · rw [if_neg hex, if_neg]
          rintro ⟨e1, j, h1, h2, h3⟩
          exact hex ⟨e1, j, h1, h1, h3⟩
    have st : St N w F (hst n) M (es n) a := by
      refine ⟨hk.same hget', fun k x hx => (he k x ?_).ext fun id y e => ⟨(hget' id).trans e, rfl⟩, mid.size, mid.defers⟩
      rw [c.env n (Nat.le_refl _)] at hx
      rw [← hx]
      unfold envOf
      by_cases hex : ∃ j, j < n ∧ j < n ∧ (all.toArray[j]?).bind (·.dst) = some k
      · obtain ⟨j, h1, h2, h3⟩ := hex
        rw [if_pos ⟨j, h1, hlf j h1, h3⟩, if_pos ⟨j, h1, h2, h3⟩]
      · rw [if_neg, if_neg hex]
        rintro ⟨j, h1, h2, h3⟩
        exact hex ⟨j, h1, h1, h3⟩
    rw [heq]
    have hw := hfin a w F M st (ev.same hget')
    simpa using hw
  | succ m ih =>
    intro listed a w inv hcnt mid
    obtain ⟨i0, hi0, hu0, hleast⟩ := cntU_pos (k := n) (l := listed) (by omega)
    rw [show m + 1 + (all.length - n) = (m + (all.length - n)) + 1 by omega]
    have hsz : listed.size = all.length := by rw [inv.size]; simp
    refine ⟨fun hr => ?_, fun i hi => ?_⟩
    · exfalso
      have : i0 ∈ Region.ready .any all.toArray listed := by
        rw [mem_ready]
        obtain ⟨oz, ho⟩ : ∃ oz, all.toArray[i0]? = some oz := by
          have hlt : i0 < all.length := by omega
          exact ⟨all[i0], by simp [hlt]⟩
        refine ⟨hu0, oz, ho, fun e he hb => ?_⟩
        have hlt := c.ok.back i0 _ hi0 ho e he hb
        have := hleast e.on hlt
        have hlt2 : e.on < listed.size := by omega
        simp [hlt2] at this ⊢; exact this
      rw [hr] at this; cases this
    · have hin : i < n := by
        rcases Nat.lt_or_ge i n with h | h
        · exact h
        · exfalso
          exact c.ok.waits listed inv i0 hi0 hu0 i h hi
      obtain ⟨hui, o, ho, hpre⟩ := mem_ready.1 hi
      have ho1 : all[i]? = some o := by simpa using ho
      have hnL : ¬ listed.getD i false = true := fun hh => by
        have : i < listed.size := by omega
        simp [this] at hui hh
        rw [hui] at hh; cases hh
      have hdo : dstOk N o = true := List.all_eq_true.1 hdst o (List.mem_of_getElem? ho1)
      have inv' := inv.set hi hin
      have hcnt' : cntU n (listed.setIfInBounds i true) = m := by
        have := cntU_set (k := n) (l := listed) hin (by omega) hui
        omega
      have hgo : ∀ a' w', Mid2 w0 F0 h0 M0 N lvl n ps sid hst all es hs (fun j => j = i ∨ listed.getD j false = true) a' w' → wpAny P .any all.toArray Q (m + (all.length - n)) (listed.setIfInBounds i true) a' w' := fun a' w' mid' => ih _ a' w' inv' hcnt' (by
          have hL : (fun j => j = i ∨ listed.getD j false = true) = fun j => (listed.setIfInBounds i true).getD j false = true := funext fun j => propext ⟨fun h => by
            rcases h with rfl | h
            · have : j < listed.size := by omega
              simp [this]
            · exact getD_set_true h, fun h => by
            by_cases hji : i = j
            · exact .inl hji.symm
            · rw [getD_set_ne false hji] at h; exact .inr h⟩
          rw [← hL]; exact mid')
      have hcl : ∀ j oj, all.toArray[j]? = some oj → listed.getD j false = true → ∀ e ∈ oj.after, Region.binds .any e = true → listed.getD e.on false = true := fun j oj hj hLj e he hb => inv.closed j oj hj hLj e he hb
      have hnext : if Region.wanted o (yielded all.toArray a.tmps) = true then o.wp P a w (wpAny P .any all.toArray Q (m + (all.length - n)) (listed.setIfInBounds i true)) Q else wpAny P .any all.toArray Q (m + (all.length - n)) (listed.setIfInBounds i true) (a.put o.dst undef) w := by
        by_cases hip : ps.testBit i = true
        · exact mid.store c cs hcl hin hip hnL ho hpre hdo hgo
        · exact mid.next hg00 c hcp cs hid hg0n hcl hin (bit_not hip) hnL ho hpre hdo hgo
      unfold wpOp
      rw [ho]
      simp only
      split
      · rename_i hw
        rw [if_pos hw] at hnext
        exact .inl hnext
      · rename_i hw
        rw [if_neg hw] at hnext
        exact hnext
theorem late_ok (hm : P.follows .mixedOrders = true) (hcp : CpOK P cp) (hci : CiOK P ci) {w : World} {F : Nat → Prop} {h : Heap} {M : Id → Option Nat} {e : Env} {a : Act} (st : St N w F h M e a) {e' : Env} {h' : Heap} {id : Nat}
    (hd : lateOk n ps qs all.toArray = true) (hdst : all.all (dstOk N) = true) (hg00 : ∀ id b, g0 id = some b → h.get id = some b) (hq : aopsLate P C cp ci lvl g0 all n ps qs e h = some (e', h')) {Q : Exit → Act → World → Prop} {r : Option Nat} (hLQ : ¬ LetsOut Q)
    (hn : ∀ a' w' F' M', St N w' F' h' M' e' a' → Evo All w F h M w' F' h' M' → Q .normal a' w') : RegW P r id all.toArray Q a w := by
  obtain ⟨hdk, hseq⟩ := lateOk_spec hd
  have hle : n ≤ all.length := by simpa using hdk.le
  unfold aopsLate at hq
  simp only [Option.bind_eq_some_iff, Prod.exists] at hq
  obtain ⟨e1, h1, hq1, h2, hsm, htail⟩ := hq
  obtain ⟨es, hs, g1, g2, g3, g4, hst, hsk⟩ := aopsL_seq n 0 all e h e1 h1 hq1
  subst g1; subst g2; subst g3; subst g4
  obtain ⟨hst', sid, sb, k1, k2, k3⟩ := storesM_seq n 0 _ _ hsm
  rw [Nat.zero_add] at k2
  subst k2
  have cs : CanonS P lvl g0 n ps all (es n) (hs n) hst' sid sb := ⟨k1, fun i hi hb => (k3 i (by omega) (by omega)).1 hb, fun i hi hb => (k3 i (by omega) (by omega)).2 hb⟩
  have c : Canon2 P C cp lvl g0 n ps qs all es hs := ⟨hdk, fun p o hp hb ho => by
      obtain ⟨⟨o2, ho2, hls⟩, _⟩ := cs.step p hp hb
      rw [ho] at ho2; injection ho2 with ho2; subst ho2
      exact (lateS_spec hls).1, fun i hi hne => by simpa using hst i hi (by simpa using hne), fun p hp hb => hsk p hp (by simpa using hb)⟩
  refine region_any_in hm hLQ hdst ?_
  have hno : ∀ j, ¬ (Array.replicate all.toArray.size false).getD j false = true := fun j hh => by
    rw [getD_replicate_false] at hh; cases hh
  have := mid_any2 (P := P) (Q := Q) hg00 c hcp cs (w0 := w) (F0 := F) (h0 := hs 0) (M0 := M) hdst (fun a' w' F' M' st' ev' => by
      have hw := wpAny_of_seq (P := P) (md := .any) (Q' := Q) (all.drop n) n (listedN n all.toArray.size) a' w' (fun j => by rw [List.getElem?_drop]; simp) (by rw [List.length_drop]; simpa using hseq)
        (aops_ok hcp hci (all.drop n) st' (List.all_eq_true.2 fun o ho => List.all_eq_true.1 hdst o (List.mem_of_mem_drop ho)) htail fun a2 w2 F2 M2 s2 ev2 => hn a2 w2 F2 M2 s2 (ev'.trans st'.ok ev2))
      rw [List.length_drop] at hw
      exact hw)
    n (Array.replicate all.toArray.size false) a { w with drawn := w.drawn + 1 }
    ⟨by simp, fun j oj hj hl => absurd hl (hno j), fun t h1 h2 => replicate_un h2⟩ (cntU_start n _ (by simpa using hle))
    ⟨⟨0, F, M, hs 0, Nat.zero_le _, fun q _ _ => ⟨fun hh => absurd hh (hno q), fun hh => by omega⟩, st.ok, fun k x hx => st.env k x (by
        rw [← hx]; unfold envOf; rw [if_neg]; rintro ⟨j, _, h2, _⟩; exact hno j h2), ⟨rfl, rfl, rfl, Nat.le_refl _, fun _ _ _ => rfl, fun _ h => h, fun _ h _ => .inl h, fun id y hy hr => .inl ⟨y, hy, hr, rfl⟩, fun id x hx _ => ⟨x, hx, Held.refl rfl fun _ _ => rfl⟩⟩,
      fun id => by
        unfold heap2
        rw [if_neg (fun ⟨q, h1, _⟩ => by omega)]
        unfold heapOf; rw [if_neg]; rintro ⟨_, j, _, h2, _⟩; exact hno j h2⟩, st.size, st.defers⟩
  rw [show n + (all.length - n) = all.toArray.size by simp; omega] at this
  exact this
theorem drawW_ok (hm : P.follows .mixedOrders = true) (hcp : CpOK P cp) (hci : CiOK P ci) {w : World} {F : Nat → Prop} {h : Heap} {M : Id → Option Nat} {e : Env} {a : Act} (st : St N w F h M e a) {e' : Env} {h' : Heap} {id k : Nat}
    (hd : drawAny k all.toArray = true) (hdst : all.all (dstOk N) = true) (hq : aopsW P C cp ci lvl all k e h = some (e', h')) {Q : Exit → Act → World → Prop} {r : Option Nat} (hLQ : ¬ LetsOut Q)
    (hn : ∀ a' w' F' M', St N w' F' h' M' e' a' → Evo All w F h M w' F' h' M' → Q .normal a' w') : RegW P r id all.toArray Q a w := by
  unfold drawAny at hd
  unfold aopsW at hq
  by_cases hk0 : k < 1000
  · rw [if_pos hk0] at hd hq
    exact draw_ok hm hcp hci st hd hdst hq hLQ hn
  rw [if_neg hk0] at hd hq
  by_cases hk : k < 1000000
  · rw [if_pos hk] at hd hq
    exact float_ok hm hcp hci st hd hdst hq hLQ hn
  · rw [if_neg hk] at hd hq
    by_cases hk2 : k < 2000000
    · rw [if_pos hk2] at hd hq
      simp only [Option.bind_eq_some_iff, Prod.exists] at hq
      obtain ⟨e1, h1, q0, e2, h2, q1, e3, h3, q2, q3⟩ := hq
      split at q3
      · rename_i hs
        have hs := sameEH_eq hs
        injection q3 with q3
        rw [← hs] at q2
        injection q3 with q3 q4
        subst q3; subst q4
        exact draw2_ok hm hcp hci st hd hdst q0 q1 q2 hLQ hn
      · cases q3
    · rw [if_neg hk2] at hd hq
      exact late_ok hm hcp hci st hd hdst (fun id b hg => by
        unfold lateG at hg
        split at hg
        · cases hg
        · split at hg
          · exact hg
          · unfold bxG at hg
            simp only [Option.bind_eq_some_iff] at hg
            obtain ⟨c, h1, h2⟩ := hg
            cases c with
            | bx => injection h2 with h2; rw [h1, h2]
            | sl => cases h2) hq hLQ hn
end
end Go.Av
