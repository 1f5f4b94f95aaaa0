/- Heaps whose rows are told by name: what stays where rows are let go, free names. Tensors in a list, each with how many ahead of it have a type; the cells of their values, with rows of their own. Conditions: those that each names. -/
import Derived.Test.YteafmomjfnlkgaaGreatQ8W1
set_option linter.unusedVariables false
namespace Go.Av
theorem hnew_at {h : Heap} {k : Id} {y : Blk} (hn : h.get k = none) : h.new k y = some (h.set k y) := by unfold Heap.new; rw [hn]
def NB (Q : Id → Prop) (h : Heap) : Prop := ∀ p ∈ h, ∀ i, Q i → namedB i p.2 = false
theorem NB.named {Q : Id → Prop} {i : Id} (hi : Q i) : ∀ {h : Heap}, NB Q h → namedH i h = false
  | [], _ => rfl
  | (j, b) :: h, hn => by
    show (namedB i b || namedH i h) = false
    rw [hn (j, b) (.head _) i hi, NB.named hi (h := h) fun p hp => hn p (.tail _ hp)]
    rfl
theorem mem_set {h : Heap} {k : Id} {y : Blk} {p : Id × Blk} (hp : p ∈ h.set k y) : p ∈ h ∨ p.2 = y := by
  induction h with
  | nil =>
    simp only [Heap.set, List.mem_singleton] at hp
    exact .inr (by rw [hp])
  | cons q h ih =>
    obtain ⟨j, x⟩ := q
    unfold Heap.set at hp
    split at hp
    · rcases List.mem_cons.1 hp with rfl | hp
      · exact .inr rfl
      · exact .inl (.tail _ hp)
    · rcases List.mem_cons.1 hp with rfl | hp
      · exact .inl (.head _)
      · rcases ih hp with h1 | h1
        · exact .inl (.tail _ h1)
        · exact .inr h1
theorem NB.set {Q : Id → Prop} {h : Heap} {k : Id} {y : Blk} (hn : NB Q h) (hy : ∀ i, Q i → namedB i y = false) : NB Q (h.set k y) := fun p hp i hi => by
  rcases mem_set hp with h1 | h1
  · exact hn p h1 i hi
  · rw [h1]; exact hy i hi
theorem mem_sweepF {prot : List Id} {e : Env} {all : Heap} {p : Id × Blk} : ∀ {h : Heap}, p ∈ sweepFrom prot e all h → p ∈ h
  | [], hp => hp
  | (j, b) :: h, hp => by
    unfold sweepFrom at hp
    split at hp
    · rcases List.mem_cons.1 hp with rfl | hp
      · exact .head _
      · exact .tail _ (mem_sweepF hp)
    · exact .tail _ (mem_sweepF hp)
theorem NB.sweep {Q : Id → Prop} {h : Heap} {prot : List Id} {e : Env} (hn : NB Q h) : NB Q (sweep prot e h) := fun p hp => hn p (mem_sweepF (mem_sweepF hp))
section
variable {prot : List Id} {e : Env} {h : Heap} {i : Id}
theorem sweep_none (hg : h.get i = none) : (sweep prot e h).get i = none := by
  unfold sweep sweep1
  rw [sweepFrom_get, sweepFrom_get, hg]
  split <;> (try rfl)
  split <;> rfl
theorem sweep_gone (h1 : memI prot i = false) (h2 : namedE i e = false) (h3 : namedH i h = false) : (sweep prot e h).get i = none := by
  unfold sweep sweep1
  rw [sweepFrom_get, sweepFrom_get, h1, h2, h3]
  split <;> rfl
theorem sweep_env (h2 : namedE i e = true) : (sweep prot e h).get i = h.get i := by
  unfold sweep sweep1
  rw [sweepFrom_get, sweepFrom_get, h2]
  simp
theorem sweep_in {o : Id} {b : Blk} (ho : namedE o e = true) (hg : h.get o = some b) (hb : namedB i b = true) : (sweep prot e h).get i = h.get i := by
  have h1 : (sweep1 prot e h).get o = some b := by
    unfold sweep1
    rw [sweepFrom_get, ho]
    simp [hg]
  have h2 : namedH i h = true := namedH_of hg hb
  have h3 : namedH i (sweep1 prot e h) = true := namedH_of h1 hb
  show (sweepFrom prot e (sweep1 prot e h) (sweep1 prot e h)).get i = _
  rw [sweepFrom_get, h3]
  simp only [Bool.or_true, if_true]
  unfold sweep1
  rw [sweepFrom_get, h2]
  simp
end
theorem get_ne3 {h : Heap} {a b c a' b' c' : Nat} {y : Blk} (hne : a ≠ a' ∨ b ≠ b' ∨ c ≠ c') : (h.set (a', b', c') y).get (a, b, c) = h.get (a, b, c) := get_set_ne _ _ _ _ fun e => by
  injection e with e1 e2
  injection e2 with e2 e3
  rcases hne with h1 | h1 | h1 <;> exact h1 (by assumption)
def appO1 (h : Heap) (id : Id) (n esz by_ : Nat) (idy : Id) (m : Nat) : Blk → Option (AV × Heap)
  | b => (h.get idy).bind fun b2 => match b, b2 with
    | .sl false true sz ext' cells, .sl false _ szy exty' ys => if ext' = n ∧ n = n ∧ sz = esz ∧ szy = esz ∧ exty' = m ∧ m = m ∧ n + m ≤ 2 ^ 47 ∧ (n + m) * by_ ≤ 2 ^ 47 ∧ ys.all AV.one = true then
        some (.own id 0 (n + m) (n + m), h.set id (.sl false true sz (n + m) (cells ++ ys))) else none
    | _, _ => none
def appO2 (h : Heap) (id : Id) (n esz by_ m : Nat) (cells : List AV) : Blk → Option (AV × Heap)
  | .sl false _ szy exty' ys => if szy = esz ∧ exty' = m ∧ n + m ≤ 2 ^ 47 ∧ (n + m) * by_ ≤ 2 ^ 47 ∧ ys.all AV.one = true then
        some (.own id 0 (n + m) (n + m), h.set id (.sl false true esz (n + m) (cells ++ ys))) else none
  | _ => none
section
variable {lvl d esz by_ m n e : Nat} {h0 h : Heap} {y : AV} {ys cells : List AV} {id idy : Id} {w : Bool}
theorem appJ_op {n ext sz : Nat} : appJ lvl d esz by_ h0 h y m ys id n ext (.sl false true sz e cells) = appO h0 id n ext esz by_ y := rfl
theorem appO_at : appO h id n n esz by_ (.own idy 0 m m) = (h.get id).bind (appO1 h id n esz by_ idy m) := rfl
theorem appO1_at : appO1 h id n esz by_ idy m (.sl false true esz n cells) = (h.get idy).bind (appO2 h id n esz by_ m cells) := by
  unfold appO1
  cases h.get idy with
  | none => rfl
  | some b => cases b with
    | bx => rfl
    | sl cl w sz e ys => cases cl <;> simp [appO2]
theorem appO2_at (h3 : n + m ≤ 140737488355328) (h4 : (n + m) * by_ ≤ 140737488355328) (h5 : ys.all AV.one = true) : appO2 h id n esz by_ m cells (.sl false w esz m ys) = some (.own id 0 (n + m) (n + m), h.set id (.sl false true esz (n + m) (cells ++ ys))) := by
  show (if esz = esz ∧ m = m ∧ n + m ≤ 2 ^ 47 ∧ (n + m) * by_ ≤ 2 ^ 47 ∧ ys.all AV.one = true then _ else none) = _
  rw [if_pos ⟨rfl, rfl, by omega, by omega, h5⟩]
end
theorem freeN_c {h : Heap} {lvl d : Nat} : ∀ (c n k : Nat), (∀ j, j < c → (h.get (lvl, d, k + 100 * j)).isSome = true) → h.get (lvl, d, k + 100 * c) = none → c < n → freeN h lvl d n k = k + 100 * c
  | _, 0, _, _, _, hc => by omega
  | 0, n + 1, k, _, hn, _ => by
    unfold freeN
    rw [show k = k + 100 * 0 by omega, hn]
    rfl
  | c + 1, n + 1, k, hp, hn, hc => by
    unfold freeN
    have h0 := hp 0 (by omega)
    rw [show k + 100 * 0 = k by omega] at h0
    have h1 : (h.get (lvl, d, k)).isNone = false := by cases hx : h.get (lvl, d, k) with
      | none => rw [hx] at h0; cases h0
      | some b => rfl
    rw [h1, if_neg (by decide), freeN_c c n (k + 100) (fun j hj => by rw [show k + 100 + 100 * j = k + 100 * (j + 1) by omega]; exact hp (j + 1) (by omega)) (by rw [show k + 100 + 100 * c = k + 100 * (c + 1) by omega]; exact hn) (by omega)]
    omega
theorem freB_c {cl : Bool} {lvl d k sz m c : Nat} {h : Heap} {xs : List AV} (hp : ∀ j, j < c → (h.get (lvl, d, k + 100 * j)).isSome = true) (hn : h.get (lvl, d, k + 100 * c) = none) (hc : c < 2097152) :
    freB cl lvl d k h sz m xs (h.get (lvl, d, k)) = some (.own (lvl, d, k + 100 * c) 0 m m, h.set (lvl, d, k + 100 * c) (.sl cl true sz m xs)) := by
  rw [← freB_eq, show freeK h lvl d k = k + 100 * c from freeN_c c _ k hp hn hc, hnew_at hn]
  rfl
theorem freB_o {cl : Bool} {lvl d k sz m c : Nat} {h : Heap} {xs : List AV} {o : Option Blk} (hp : ∀ j, j < c → (h.get (lvl, d, k + 100 * j)).isSome = true) (hn : h.get (lvl, d, k + 100 * c) = none) (hc : c < 2097152) (ho : h.get (lvl, d, k) = o) :
    freB cl lvl d k h sz m xs o = some (.own (lvl, d, k + 100 * c) 0 m m, h.set (lvl, d, k + 100 * c) (.sl cl true sz m xs)) := by
  subst ho
  exact freB_c hp hn hc
theorem freB0 (c : Nat) (hc : c < 2097152) {d sz m : Nat} {h : Heap} {xs : List AV} {o : Option Blk} (hp : ∀ j, j < c → (h.get (1, d, 100 * j)).isSome = true) (hn : h.get (1, d, 100 * c) = none) (ho : h.get (1, d, 0) = o) :
    freB true 1 d 0 h sz m xs o = some (.own (1, d, 100 * c) 0 m m, h.set (1, d, 100 * c) (.sl true true sz m xs)) := by
  have := freB_o (cl := true) (lvl := 1) (d := d) (k := 0) (sz := sz) (m := m) (c := c) (h := h) (xs := xs) (o := o) (fun j hj => by rw [Nat.zero_add]; exact hp j hj) (by rw [Nat.zero_add]; exact hn) hc ho
  rw [Nat.zero_add] at this
  exact this
theorem freB1 (c : Nat) (hc : c < 2097152) {d k sz m : Nat} {h : Heap} {xs : List AV} {o : Option Blk} (hp : ∀ j, j < c → (h.get (1, d, (k + 1) + 100 * j)).isSome = true) (hn : h.get (1, d, (k + 1) + 100 * c) = none) (ho : h.get (1, d, k + 1) = o) :
    freB true 1 d (k + 1) h sz m xs o = some (.own (1, d, (k + 1) + 100 * c) 0 m m, h.set (1, d, (k + 1) + 100 * c) (.sl true true sz m xs)) := freB_o hp hn hc ho
end Go.Av
namespace Go.Av
def nTy (x : T_Tensor) : Nat := if x.fType = 0 then 0 else 1
def cnt : List T_Tensor → Nat
  | [] => 0
  | x :: l => nTy x + cnt l
def tag : Nat → List T_Tensor → List (T_Tensor × Nat)
  | _, [] => []
  | c, x :: l => (x, c) :: tag (c + nTy x) l
theorem tag_len : ∀ (c : Nat) (l : List T_Tensor), (tag c l).length = l.length
  | _, [] => rfl
  | c, x :: l => by simp [tag, tag_len]
theorem cnt_snoc : ∀ (l : List T_Tensor) (x : T_Tensor), cnt (l ++ [x]) = cnt l + nTy x
  | [], x => by simp [cnt]
  | y :: l, x => by simp [cnt, cnt_snoc l x]; omega
theorem cnt_le : ∀ l : List T_Tensor, cnt l ≤ l.length
  | [] => Nat.le_refl _
  | x :: l => by have := cnt_le l; simp [cnt, nTy]; split <;> omega
theorem tag_snoc : ∀ (c : Nat) (l : List T_Tensor) (x : T_Tensor), tag c (l ++ [x]) = tag c l ++ [(x, c + cnt l)]
  | c, [], x => by simp [tag, cnt]
  | c, y :: l, x => by simp [tag, cnt, tag_snoc (c + nTy y) l x]; omega
theorem tag_get : ∀ {c : Nat} {l : List T_Tensor} {i : Nat} {p : T_Tensor × Nat}, (tag c l)[i]? = some p → l[i]? = some p.1 ∧ c ≤ p.2
  | c, [], i, p, h => by simp [tag] at h
  | c, x :: l, 0, p, h => by simp [tag] at h; subst h; exact ⟨rfl, Nat.le_refl _⟩
  | c, x :: l, i + 1, p, h => by
    simp only [tag, List.getElem?_cons_succ] at h
    obtain ⟨h1, h2⟩ := tag_get h
    exact ⟨h1, by omega⟩
theorem tag_lt : ∀ {c : Nat} {l : List T_Tensor} {i : Nat} {p : T_Tensor × Nat}, (tag c l)[i]? = some p → p.1.fType ≠ 0 → p.2 < c + cnt l
  | c, [], i, p, h, _ => by simp [tag] at h
  | c, x :: l, 0, p, h, ht => by simp [tag] at h; subst h; simp [cnt, nTy, ht]; omega
  | c, x :: l, i + 1, p, h, ht => by
    simp only [tag, List.getElem?_cons_succ] at h
    have := tag_lt h ht
    simp [cnt]; omega
theorem tag_inc : ∀ {c : Nat} {l : List T_Tensor} {i j : Nat} {p q : T_Tensor × Nat}, (tag c l)[i]? = some p → (tag c l)[j]? = some q → i < j → p.1.fType ≠ 0 → p.2 < q.2
  | c, [], i, j, p, q, h, _, _, _ => by simp [tag] at h
  | c, x :: l, 0, 0, p, q, _, _, hij, _ => by omega
  | c, x :: l, i + 1, 0, p, q, _, _, hij, _ => by omega
  | c, x :: l, 0, j + 1, p, q, h, h2, _, ht => by
    simp [tag] at h; subst h
    simp only [tag, List.getElem?_cons_succ] at h2
    have := (tag_get h2).2
    simp [nTy, ht] at this
    omega
  | c, x :: l, i + 1, j + 1, p, q, h, h2, hij, ht => by
    simp only [tag, List.getElem?_cons_succ] at h h2
    exact tag_inc h h2 (by omega) ht
theorem tag_at {l : List T_Tensor} {i : Nat} {x : T_Tensor} (h : l[i]? = some x) : ∃ k, (tag 0 l)[i]? = some (x, k) := by
  have hi : i < (tag 0 l).length := by rw [tag_len]; exact (List.getElem?_eq_some_iff.1 h).1
  refine ⟨((tag 0 l)[i]).2, ?_⟩
  have h1 := List.getElem?_eq_getElem hi
  have := (tag_get h1).1
  rw [h] at this
  injection this with this
  rw [h1, this]
def elc (p : T_Tensor × Nat) : List AV :=
  [.v (.int .i64 p.1.fType), if p.1.fType = 0 then .v (.slice none 0 0) else .own (1, 21, 100 * p.2) 0 p.1.fDims.length p.1.fDims.length, .v (.bool (!decide (p.1.fType = 0))), .v (.int .i64 p.1.fType),
   if p.1.fType = 0 then .v (.slice none 0 0) else .own (1, 23, 100 * p.2) 0 p.1.fDims.length p.1.fDims.length,
   if p.1.fType = 0 then .v (.slice none 0 0) else .own (1, 23, 1 + 100 * p.2) 0 p.1.fF.length p.1.fF.length,
   if p.1.fType = 0 then .v (.slice none 0 0) else .own (1, 23, 2 + 100 * p.2) 0 p.1.fI.length p.1.fI.length,
   if p.1.fType = 0 then .v (.slice none 0 0) else .own (1, 23, 3 + 100 * p.2) 0 p.1.fB.length p.1.fB.length]
theorem elc_len (p : T_Tensor × Nat) : (elc p).length = 8 := rfl
structure Rws (h : Heap) (x : T_Tensor) (k : Nat) : Prop where
  d : h.get (1, 21, 100 * k) = some (.sl true true 1 x.fDims.length (lm (ik .i64) x.fDims))
  e : h.get (1, 23, 100 * k) = some (.sl true true 1 x.fDims.length (lm (ik .i64) x.fDims))
  f : h.get (1, 23, 1 + 100 * k) = some (.sl true true 1 x.fF.length (lm (ik .u32) x.fF))
  i : h.get (1, 23, 2 + 100 * k) = some (.sl true true 1 x.fI.length (lm (ik .i64) x.fI))
  b : h.get (1, 23, 3 + 100 * k) = some (.sl true true 1 x.fB.length (lm bk x.fB))
structure HV (h : Heap) (l : List T_Tensor) (i c : Nat) : Prop where
  o : h.get (1, 3, 77) = some (.sl false true 8 i (fm elc (tag 0 (l.take i))))
  r : ∀ (j : Nat) (p : T_Tensor × Nat), (tag 0 (l.take i))[j]? = some p → p.1.fType ≠ 0 → Rws h p.1 p.2
  p1 : ∀ j, j < c → (h.get (1, 21, 100 * j)).isSome = true
  p3 : ∀ j a, j < c → a < 4 → (h.get (1, 23, a + 100 * j)).isSome = true
  q1 : ∀ j, c ≤ j → h.get (1, 21, 100 * j) = none
  q3 : ∀ j a, c ≤ j → a < 4 → h.get (1, 23, a + 100 * j) = none
  nb : NB (fun id => id.2.1 = 5 ∨ id.2.1 = 6 ∨ id.2.1 = 27) h
structure HS (h : Heap) (l : List T_Tensor) (i : Nat) : Prop where
  v : HV h l i (cnt (l.take i))
  b5 : h.get (1, 5, 0) = none
  b6 : h.get (1, 6, 0) = none
  b27 : h.get (1, 27, 0) = none
theorem elc_names {l : List (T_Tensor × Nat)} {j : Nat} {p : T_Tensor × Nat} {id : Id} (h : l[j]? = some p) (hp : (elc p).any (names id 4) = true) : (fm elc l).any (names id 4) = true := by
  rw [List.any_eq_true] at hp ⊢
  obtain ⟨x, h1, h2⟩ := hp
  refine ⟨x, ?_, h2⟩
  unfold fm
  rw [List.mem_flatMap]
  exact ⟨p, List.mem_of_getElem? h, h1⟩
theorem nm_ownT {id : Id} {d a b c : Nat} : names id d (.own id a b c) = true := by cases d <;> simp [names]
theorem elc_n1 {p : T_Tensor × Nat} (h : p.1.fType ≠ 0) : (elc p).any (names (1, 21, 100 * p.2) 4) = true := by
  simp [elc, h, nm_ownT]
theorem elc_n3 {p : T_Tensor × Nat} {a : Nat} (h : p.1.fType ≠ 0) (ha : a < 4) : (elc p).any (names (1, 23, a + 100 * p.2) 4) = true := by
  rcases (by omega : a = 0 ∨ a = 1 ∨ a = 2 ∨ a = 3) with rfl | rfl | rfl | rfl <;> simp [elc, h, nm_ownT]
theorem tag_ex : ∀ {c : Nat} {l : List T_Tensor} {k : Nat}, c ≤ k → k < c + cnt l → ∃ (i : Nat) (p : T_Tensor × Nat), (tag c l)[i]? = some p ∧ p.1.fType ≠ 0 ∧ p.2 = k
  | c, [], k, h1, h2 => by simp [cnt] at h2; omega
  | c, x :: l, k, h1, h2 => by
    by_cases hx : x.fType = 0
    · obtain ⟨i, p, a, b, d⟩ := tag_ex (c := c + nTy x) (l := l) (k := k) (by simp [nTy, hx]; exact h1) (by simp [cnt] at h2; omega)
      exact ⟨i + 1, p, by rw [tag, List.getElem?_cons_succ]; exact a, b, d⟩
    · by_cases hk : k = c
      · exact ⟨0, (x, c), rfl, hx, hk.symm⟩
      · obtain ⟨i, p, a, b, d⟩ := tag_ex (c := c + nTy x) (l := l) (k := k) (by simp [nTy, hx]; omega) (by simp [cnt] at h2; omega)
        exact ⟨i + 1, p, by rw [tag, List.getElem?_cons_succ]; exact a, b, d⟩
def Nms (ys : List AV) (c : Nat) : Prop := ys.any (names (1, 21, 100 * c) 4) = true ∧ ∀ a, a < 4 → ys.any (names (1, 23, a + 100 * c) 4) = true
theorem HV.swp {h : Heap} {l : List T_Tensor} {i c : Nat} {e : Env} (H : HV h l i c) (ho : namedE (1, 3, 77) e = true)
    (hc : ∀ j, j < c → j < cnt (l.take i) ∨ ((sweep [] e h).get (1, 21, 100 * j) = h.get (1, 21, 100 * j) ∧ ∀ a, a < 4 → (sweep [] e h).get (1, 23, a + 100 * j) = h.get (1, 23, a + 100 * j))) : HV (sweep [] e h) l i c := by
  have hin : ∀ {id : Id}, (fm elc (tag 0 (l.take i))).any (names id 4) = true → (sweep [] e h).get id = h.get id := fun hh => sweep_in ho H.o hh
  have h1 : ∀ (j : Nat) (p : T_Tensor × Nat), (tag 0 (l.take i))[j]? = some p → p.1.fType ≠ 0 → (sweep [] e h).get (1, 21, 100 * p.2) = h.get (1, 21, 100 * p.2) := fun j p a b => hin (elc_names a (elc_n1 b))
  have h3 : ∀ (j : Nat) (p : T_Tensor × Nat) (a : Nat), (tag 0 (l.take i))[j]? = some p → p.1.fType ≠ 0 → a < 4 → (sweep [] e h).get (1, 23, a + 100 * p.2) = h.get (1, 23, a + 100 * p.2) := fun j p a b c d => hin (elc_names b (elc_n3 c d))
  refine ⟨(by rw [sweep_env ho]; exact H.o), fun j p a b => ?_, fun j hj => ?_, fun j a hj ha => ?_, fun j hj => sweep_none (H.q1 j hj), fun j a hj ha => sweep_none (H.q3 j a hj ha), NB.sweep H.nb⟩
  · have R := H.r j p a b
    have e0 := h3 j p 0 a b (by omega)
    rw [Nat.zero_add] at e0
    exact ⟨(h1 j p a b).trans R.d, e0.trans R.e, (h3 j p 1 a b (by omega)).trans R.f, (h3 j p 2 a b (by omega)).trans R.i, (h3 j p 3 a b (by omega)).trans R.b⟩
  · rcases hc j hj with hq | hq
    · obtain ⟨m, p, a, b, rfl⟩ := tag_ex (Nat.zero_le _) (by rw [Nat.zero_add]; exact hq)
      rw [h1 m p a b]
      exact H.p1 _ hj
    · rw [hq.1]; exact H.p1 _ hj
  · rcases hc j hj with hq | hq
    · obtain ⟨m, p, b, c, rfl⟩ := tag_ex (Nat.zero_le _) (by rw [Nat.zero_add]; exact hq)
      rw [h3 m p a b c ha]
      exact H.p3 _ a hj ha
    · rw [hq.2 a ha]; exact H.p3 _ a hj ha
theorem HV.sw {h : Heap} {l : List T_Tensor} {i : Nat} {e : Env} (H : HV h l i (cnt (l.take i))) (ho : namedE (1, 3, 77) e = true) (hb : ∀ id : Id, (id.2.1 = 5 ∨ id.2.1 = 6 ∨ id.2.1 = 27) → namedE id e = false) : HS (sweep [] e h) l i :=
  ⟨H.swp ho fun j hj => .inl hj, sweep_gone rfl (hb _ (.inl rfl)) (NB.named (.inl rfl) H.nb), sweep_gone rfl (hb _ (.inr (.inl rfl))) (NB.named (.inr (.inl rfl)) H.nb), sweep_gone rfl (hb _ (.inr (.inr rfl))) (NB.named (.inr (.inr rfl)) H.nb)⟩
theorem HV.put {h : Heap} {l : List T_Tensor} {i s c : Nat} {y : Blk} (H : HV h l i c) (hk : s = 5 ∨ s = 6 ∨ s = 27) (hy : ∀ id : Id, (id.2.1 = 5 ∨ id.2.1 = 6 ∨ id.2.1 = 27) → namedB id y = false) : HV (h.set (1, s, 0) y) l i c := by
  have e1 : ∀ (b c : Nat), b ≠ s → (h.set (1, s, 0) y).get (1, b, c) = h.get (1, b, c) := fun b c hb => get_ne3 (.inr (.inl hb))
  refine ⟨by rw [e1 _ _ (by omega)]; exact H.o, fun j p a b => ?_, fun j hj => by rw [e1 _ _ (by omega)]; exact H.p1 j hj, fun j a hj ha => by rw [e1 _ _ (by omega)]; exact H.p3 j a hj ha,
    fun j hj => by rw [e1 _ _ (by omega)]; exact H.q1 j hj, fun j a hj ha => by rw [e1 _ _ (by omega)]; exact H.q3 j a hj ha, H.nb.set hy⟩
  have R := H.r j p a b
  exact ⟨by rw [e1 _ _ (by omega)]; exact R.d, by rw [e1 _ _ (by omega)]; exact R.e, by rw [e1 _ _ (by omega)]; exact R.f, by rw [e1 _ _ (by omega)]; exact R.i, by rw [e1 _ _ (by omega)]; exact R.b⟩
def put5 (h : Heap) (x : T_Tensor) (c : Nat) : Heap := ((((h.set (1, 21, 100 * c) (.sl true true 1 x.fDims.length (lm (ik .i64) x.fDims))).set (1, 23, 100 * c) (.sl true true 1 x.fDims.length (lm (ik .i64) x.fDims))).set (1, 23, 1 + 100 * c) (.sl true true 1 x.fF.length (lm (ik .u32) x.fF))).set
  (1, 23, 2 + 100 * c) (.sl true true 1 x.fI.length (lm (ik .i64) x.fI))).set (1, 23, 3 + 100 * c) (.sl true true 1 x.fB.length (lm bk x.fB))
theorem put5_rws {h : Heap} {x : T_Tensor} {c : Nat} : Rws (put5 h x c) x c := by
  unfold put5
  constructor <;> simp (disch := omega) only [get_ne3, get_set_same]
theorem put5_ne {h : Heap} {x : T_Tensor} {c b d : Nat} (hb : b ≠ 21 ∧ b ≠ 23) : (put5 h x c).get (1, b, d) = h.get (1, b, d) := by
  unfold put5
  simp (disch := omega) only [get_ne3]
theorem put5_1 {h : Heap} {x : T_Tensor} {c d : Nat} (hb : d ≠ c) : (put5 h x c).get (1, 21, 100 * d) = h.get (1, 21, 100 * d) := by
  unfold put5
  simp (disch := omega) only [get_ne3]
theorem put5_3 {h : Heap} {x : T_Tensor} {c d a : Nat} (hb : d ≠ c) (ha : a < 4) : (put5 h x c).get (1, 23, a + 100 * d) = h.get (1, 23, a + 100 * d) := by
  unfold put5
  simp (disch := omega) only [get_ne3]
theorem HV.put5 {h : Heap} {l : List T_Tensor} {i : Nat} {x : T_Tensor} (H : HV h l i (cnt (l.take i))) : HV (put5 h x (cnt (l.take i))) l i (cnt (l.take i) + 1) := by
  have R0 := put5_rws (h := h) (x := x) (c := cnt (l.take i))
  refine ⟨by rw [put5_ne (by omega)]; exact H.o, fun j p a b => ?_, fun j hj => ?_, fun j a hj ha => ?_, fun j hj => by rw [put5_1 (by omega)]; exact H.q1 j (by omega), fun j a hj ha => by rw [put5_3 (by omega) ha]; exact H.q3 j a (by omega) ha, ?_⟩
  · have R := H.r j p a b
    have hlt := tag_lt a b
    rw [Nat.zero_add] at hlt
    have e0 := put5_3 (h := h) (x := x) (c := cnt (l.take i)) (d := p.2) (a := 0) (by omega) (by omega)
    rw [Nat.zero_add] at e0
    exact ⟨by rw [put5_1 (by omega)]; exact R.d, by rw [e0]; exact R.e, by rw [put5_3 (by omega) (by omega)]; exact R.f, by rw [put5_3 (by omega) (by omega)]; exact R.i, by rw [put5_3 (by omega) (by omega)]; exact R.b⟩
  · by_cases hjc : j = cnt (l.take i)
    · rw [hjc, R0.d]; rfl
    · rw [put5_1 hjc]; exact H.p1 j (by omega)
  · by_cases hjc : j = cnt (l.take i)
    · rw [hjc]
      rcases (by omega : a = 0 ∨ a = 1 ∨ a = 2 ∨ a = 3) with rfl | rfl | rfl | rfl
      · rw [Nat.zero_add, R0.e]; rfl
      · rw [R0.f]; rfl
      · rw [R0.i]; rfl
      · rw [R0.b]; rfl
    · rw [put5_3 hjc ha]; exact H.p3 j a (by omega) ha
  · unfold Go.Av.put5
    exact ((((H.nb.set fun _ _ => rfl).set fun _ _ => rfl).set fun _ _ => rfl).set fun _ _ => rfl).set fun _ _ => rfl
structure HB (h : Heap) (l : List T_Tensor) (i c : Nat) (ys : List AV) : Prop where
  v : HV h l i c
  b6 : h.get (1, 6, 0) = some (.bx true ys)
  b27 : h.get (1, 27, 0) = none
theorem HB.sw {h : Heap} {l : List T_Tensor} {i c : Nat} {e : Env} {ys : List AV} (H : HB h l i c ys) (hc : ∀ j, j < c → j < cnt (l.take i) ∨ Nms ys j) (ho : namedE (1, 3, 77) e = true) (h6 : namedE (1, 6, 0) e = true) :
    HB (sweep [] e h) l i c ys ∧ ∀ id, ys.any (names id 4) = true → (sweep [] e h).get id = h.get id := by
  have hin : ∀ id, ys.any (names id 4) = true → (sweep [] e h).get id = h.get id := fun id hid => sweep_in h6 H.b6 hid
  refine ⟨⟨H.v.swp ho fun j hj => ?_, (by rw [sweep_env h6]; exact H.b6), sweep_none H.b27⟩, hin⟩
  rcases hc j hj with h1 | h1
  · exact .inl h1
  · exact .inr ⟨hin _ h1.1, fun a ha => hin _ (h1.2 a ha)⟩
theorem Nms_elc {x : T_Tensor} {c : Nat} (hx : x.fType ≠ 0) : Nms (elc (x, c)) c := ⟨elc_n1 (p := (x, c)) hx, fun a ha => elc_n3 (p := (x, c)) hx ha⟩
theorem Rws.sw {h h' : Heap} {x : T_Tensor} {c : Nat} (R : Rws h x c) (hx : x.fType ≠ 0) (hh : ∀ id, (elc (x, c)).any (names id 4) = true → h'.get id = h.get id) : Rws h' x c := by
  have N := Nms_elc (c := c) hx
  have e0 := N.2 0 (by omega)
  rw [Nat.zero_add] at e0
  exact ⟨(hh _ N.1).trans R.d, (hh _ e0).trans R.e, (hh _ (N.2 1 (by omega))).trans R.f, (hh _ (N.2 2 (by omega))).trans R.i, (hh _ (N.2 3 (by omega))).trans R.b⟩
theorem elc_nb {x : T_Tensor} {c : Nat} {id : Id} (hid : id.2.1 = 5 ∨ id.2.1 = 6 ∨ id.2.1 = 27) : (elc (x, c)).any (names id 4) = false := by
  obtain ⟨a, b, d⟩ := id
  simp only at hid
  by_cases hx : x.fType = 0
  · simp [elc, hx, names]
  · simp [elc, hx, names]
    refine ⟨?_, ?_, ?_, ?_, ?_⟩ <;> intro h <;> omega
theorem fm_elc_nb {id : Id} (hid : id.2.1 = 5 ∨ id.2.1 = 6 ∨ id.2.1 = 27) (l : List (T_Tensor × Nat)) : (fm elc l).any (names id 4) = false := by
  unfold fm
  rw [List.any_eq_false]
  intro y hy
  rw [List.mem_flatMap] at hy
  obtain ⟨p, hp, hy⟩ := hy
  have := elc_nb (x := p.1) (c := p.2) hid
  rw [List.any_eq_false] at this
  exact this y hy
theorem HV.next {h : Heap} {l : List T_Tensor} {i : Nat} {x : T_Tensor} {ys : List AV} (H : HV h l i (cnt (l.take i) + nTy x)) (hx : l[i]? = some x) (hy : ys = elc (x, cnt (l.take i))) (hr : x.fType ≠ 0 → Rws h x (cnt (l.take i))) :
    HV ((h.set (1, 27, 0) (.sl false true 8 1 ys)).set (1, 3, 77) (.sl false true 8 (i + 1) (fm elc (tag 0 (l.take i)) ++ ys))) l (i + 1) (cnt (l.take (i + 1))) := by
  subst hy
  have et : l.take (i + 1) = l.take i ++ [x] := by rw [List.take_add_one, hx]; rfl
  have hil : i < l.length := (List.getElem?_eq_some_iff.1 hx).1
  have ec : cnt (l.take (i + 1)) = cnt (l.take i) + nTy x := by rw [et, cnt_snoc]
  have eg : tag 0 (l.take (i + 1)) = tag 0 (l.take i) ++ [(x, cnt (l.take i))] := by rw [et, tag_snoc, Nat.zero_add]
  rw [ec]
  have e1 : ∀ (b c : Nat) (y z : Blk), b = 21 ∨ b = 23 → ((h.set (1, 27, 0) y).set (1, 3, 77) z).get (1, b, c) = h.get (1, b, c) := fun b c y z hb => by simp (disch := omega) only [get_ne3]
  refine ⟨?_, fun j p a b => ?_, fun j hj => by rw [e1 _ _ _ _ (by omega)]; exact H.p1 j hj, fun j a hj ha => by rw [e1 _ _ _ _ (by omega)]; exact H.p3 j a hj ha,
    fun j hj => by rw [e1 _ _ _ _ (by omega)]; exact H.q1 j hj, fun j a hj ha => by rw [e1 _ _ _ _ (by omega)]; exact H.q3 j a hj ha, ?_⟩
  · rw [get_set_same, eg]
    simp [fm]
  · rw [eg] at a
    have R : Rws h p.1 p.2 := by
      rcases Nat.lt_or_ge j (tag 0 (l.take i)).length with hj | hj
      · rw [List.getElem?_append_left hj] at a
        exact H.r j p a b
      · rw [List.getElem?_append_right hj] at a
        rcases hk : j - (tag 0 (l.take i)).length with _ | m
        · rw [hk] at a
          simp at a
          subst a
          exact hr b
        · rw [hk] at a
          simp at a
    exact ⟨by rw [e1 _ _ _ _ (by omega)]; exact R.d, by rw [e1 _ _ _ _ (by omega)]; exact R.e, by rw [e1 _ _ _ _ (by omega)]; exact R.f, by rw [e1 _ _ _ _ (by omega)]; exact R.i, by rw [e1 _ _ _ _ (by omega)]; exact R.b⟩
  · refine NB.set (NB.set H.nb ?_) fun id hid => ?_
    · intro id hid
      show (elc (x, cnt (l.take i))).any (names id 4) = false
      exact elc_nb hid
    show (fm elc (tag 0 (l.take i)) ++ elc (x, cnt (l.take i))).any (names id 4) = false
    rw [List.any_append, fm_elc_nb hid, elc_nb hid]
    rfl
structure LV (h : Heap) (l : List T_Tensor) (i : Nat) : Prop where
  o : h.get (1, 3, 77) = some (.sl false true 8 l.length (fm elc (tag 0 l)))
  r : ∀ (j : Nat) (p : T_Tensor × Nat), i ≤ j → (tag 0 l)[j]? = some p → p.1.fType ≠ 0 → Rws h p.1 p.2
theorem LV.of {h : Heap} {l : List T_Tensor} {c : Nat} (H : HV h l l.length c) : LV h l 0 := by
  have e : l.take l.length = l := List.take_length
  have h1 := H.o
  have h2 := H.r
  rw [e] at h1 h2
  exact ⟨h1, fun j p _ a b => h2 j p a b⟩
theorem LV.sw {h : Heap} {l : List T_Tensor} {i : Nat} {prot : List Id} {e : Env} (H : LV h l i) (ho : namedE (1, 3, 77) e = true) : LV (sweep prot e h) l i :=
  ⟨by rw [sweep_env ho]; exact H.o, fun j p hj a b => Rws.sw (x := p.1) (c := p.2) (H.r j p hj a b) b fun id hid => sweep_in ho H.o (elc_names a hid)⟩
theorem fm_sub {α : Type} {c : α → List AV} {w i j m : Nat} {l : List α} {x : α} (hw : ∀ x, (c x).length = w) (h : l[i]? = some x) (hj : j + m ≤ w) : ((fm c l).drop (i * w + j)).take m = ((c x).drop j).take m := by
  have h1 := fm_cut hw h
  rw [← h1, List.drop_take, List.take_take, List.drop_drop, Nat.min_eq_left (by omega)]
theorem fm_fits {α : Type} {c : α → List AV} {w i j : Nat} {l : List α} {x : α} (hw : ∀ x, (c x).length = w) (h : l[i]? = some x) (hj : j ≤ w) : (i * w + j ≤ (fm c l).length) = True := by
  have := fm_fit hw h
  have h2 : i * w + w ≤ (fm c l).length := of_eq_true this
  exact eq_true (by omega)
def vo (x : T_Tensor) : T_Val := if x.fType = 0 then T_Val.mk 0 [] false (T_Tensor.mk 0 [] [] [] []) else T_Val.mk x.fType x.fDims true x
structure LW (h : Heap) (l : List T_Tensor) (i : Nat) (x : T_Tensor) (c : Nat) (fl dl : List Int) : Prop where
  o : h.get (1, 3, 77) = some (.sl false true 8 l.length (fm elc (tag 0 l)))
  r : ∀ (j : Nat) (p : T_Tensor × Nat), i + 1 ≤ j → (tag 0 l)[j]? = some p → p.1.fType ≠ 0 → Rws h p.1 p.2
  d : h.get (1, 21, 100 * c) = some (.sl true true 1 x.fDims.length (lm (ik .i64) dl))
  f : h.get (1, 23, 1 + 100 * c) = some (.sl true true 1 x.fF.length (lm (ik .u32) fl))
section
variable {h : Heap} {l : List T_Tensor} {i : Nat} {x : T_Tensor} {c : Nat} {fl dl : List Int}
theorem LV.w (H : LV h l i) (hc : (tag 0 l)[i]? = some (x, c)) (h0 : x.fType ≠ 0) : LW h l i x c x.fF x.fDims :=
  have R : Rws h x c := H.r i (x, c) (Nat.le_refl _) hc h0
  ⟨H.o, fun j p hj => H.r j p (by omega), R.d, R.f⟩
theorem LW.v (H : LW h l i x c fl dl) : LV h l (i + 1) := ⟨H.o, H.r⟩
theorem LW.sw {prot : List Id} {e : Env} (H : LW h l i x c fl dl) (hc : (tag 0 l)[i]? = some (x, c)) (h0 : x.fType ≠ 0) (ho : namedE (1, 3, 77) e = true) : LW (sweep prot e h) l i x c fl dl := by
  have hin : ∀ id, (elc (x, c)).any (names id 4) = true → (sweep prot e h).get id = h.get id := fun id hid => sweep_in ho H.o (elc_names hc hid)
  have N := Nms_elc (c := c) h0
  exact ⟨by rw [sweep_env ho]; exact H.o, fun j p hj a b => Rws.sw (x := p.1) (c := p.2) (H.r j p hj a b) b fun id hid => sweep_in ho H.o (elc_names a hid), (hin _ N.1).trans H.d, (hin _ (N.2 1 (by omega))).trans H.f⟩
theorem LW.setF (H : LW h l i x c fl dl) (hc : (tag 0 l)[i]? = some (x, c)) (h0 : x.fType ≠ 0) {gl : List Int} : LW (h.set (1, 23, 1 + 100 * c) (.sl true true 1 x.fF.length (lm (ik .u32) gl))) l i x c gl dl := by
  refine ⟨by rw [get_ne3 (by omega)]; exact H.o, fun j p hj a b => ?_, by rw [get_ne3 (by omega)]; exact H.d, get_set_same _ _ _⟩
  have R := H.r j p hj a b
  have := tag_inc hc a (by omega) h0
  simp only at this
  exact ⟨by rw [get_ne3 (by omega)]; exact R.d, by rw [get_ne3 (by omega)]; exact R.e, by rw [get_ne3 (by omega)]; exact R.f, by rw [get_ne3 (by omega)]; exact R.i, by rw [get_ne3 (by omega)]; exact R.b⟩
theorem LW.setD (H : LW h l i x c fl dl) (hc : (tag 0 l)[i]? = some (x, c)) (h0 : x.fType ≠ 0) {gl : List Int} : LW (h.set (1, 21, 100 * c) (.sl true true 1 x.fDims.length (lm (ik .i64) gl))) l i x c fl gl := by
  refine ⟨by rw [get_ne3 (by omega)]; exact H.o, fun j p hj a b => ?_, get_set_same _ _ _, by rw [get_ne3 (by omega)]; exact H.f⟩
  have R := H.r j p hj a b
  have := tag_inc hc a (by omega) h0
  simp only at this
  exact ⟨by rw [get_ne3 (by omega)]; exact R.d, by rw [get_ne3 (by omega)]; exact R.e, by rw [get_ne3 (by omega)]; exact R.f, by rw [get_ne3 (by omega)]; exact R.i, by rw [get_ne3 (by omega)]; exact R.b⟩
end
end Go.Av
