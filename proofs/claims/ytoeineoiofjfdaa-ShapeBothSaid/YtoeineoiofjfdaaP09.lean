/- ShapeBoth: the law over the plain functions. Conditions: those that each names. -/
import Derived.Test.YtoeineoiofjfdaaP08
set_option linter.unusedVariables false
namespace Go.Av
theorem idxV_last : ∀ {l : List Int}, (∀ x ∈ l, 1 ≤ x) → idxV l (prod l - 1) = l.map (· - 1)
  | [], _ => rfl
  | d :: l, hp => by
    have hq : 1 ≤ prod l := prod_pos fun x hx => hp x (by simp [hx])
    have ih := idxV_last (l := l) fun x hx => hp x (by simp [hx])
    have e1 : (d * prod l - 1) / prod l = d - 1 := by
      rw [show d * prod l - 1 = (prod l - 1) + prod l * (d - 1) by rw [Int.mul_sub, Int.mul_one, Int.mul_comm]; omega, Int.add_mul_ediv_left _ _ (by omega), Int.ediv_eq_zero_of_lt (by omega) (by omega)]
      omega
    have e2 : (d * prod l - 1) % prod l = prod l - 1 := by
      rw [show d * prod l - 1 = (prod l - 1) + prod l * (d - 1) by rw [Int.mul_sub, Int.mul_one, Int.mul_comm]; omega, Int.add_mul_emod_self_left, Int.emod_eq_of_lt (by omega) (by omega)]
    simp only [prod, idxV, e1, e2, ih, List.map_cons]
theorem idxV_zero : ∀ {l : List Int}, idxV l 0 = l.map fun _ => 0
  | [] => rfl
  | d :: l => by simp [idxV, idxV_zero (l := l)]
theorem fromS_zero : ∀ {s l : List Int}, fromS s (l.map fun _ => 0) = 0
  | [], l => by cases l <;> rfl
  | d :: s, [] => rfl
  | d :: s, x :: l => by simp [fromS, fromS_zero (s := s) (l := l)]
theorem fromS_last : ∀ {s l : List Int}, s.length = l.length → dimsFit s l → fromS s (l.map (· - 1)) = prod s - 1
  | [], [], _, _ => rfl
  | d :: s, x :: l, hl, hf => by
    have ih := fromS_last (s := s) (l := l) (by simpa using hl) hf.2
    simp only [List.map_cons, fromS, ih, prod]
    by_cases h : d = 1
    · subst h; simp
    · rw [if_neg h]
      have := hf.1.resolve_left h
      subst this
      rw [Int.sub_mul, Int.one_mul]; omega
/-- dims that a broadcast shape without noughts comes from have none -/
theorem fit_pos {s l : List Int} (hl : s.length = l.length) (hf : dimsFit s l) (hp : ∀ x ∈ l, 1 ≤ x) : ∀ x ∈ s, 1 ≤ x := by
  intro x hx
  obtain ⟨k, hk, rfl⟩ := List.getElem_of_mem hx
  rcases fit_drop hl hf k hk with h | h
  · rw [h]; decide
  · rw [h]; exact hp _ (List.getElem_mem _)
theorem Both_law {fu : Nat} {a b : List Int} (ha : Short a) (hb : Short b) (hfa : a.length < fu) (hfb : b.length < fu) (hf : 9 < fu) : law04_ShapeBoth fu a b = some true := by
  unfold law04_ShapeBoth
  rw [Broadcast_spec ha hb hfa hfb hf, ob_some, Broadcast_spec hb ha hfb hfa hf, ob_some]
  by_cases good : Good a ∧ Good b ∧ ∃ r, bc a b = some r ∧ Good r
  · obtain ⟨ga, gb, r, hr, gr⟩ := good
    obtain ⟨h1, h2, h3, h4, h5, h6⟩ := bc_left hr
    have e1 : broadcastV a b = (r, 0) := by simp only [broadcastV, if_pos ga, if_pos gb, hr, if_pos gr]
    have e2 : broadcastV b a = (r, 0) := by simp only [broadcastV, if_pos ga, if_pos gb, bc_comm (a := b), hr, if_pos gr]
    have e3 : broadcastV r a = (r, 0) := by simp only [broadcastV, if_pos ga, if_pos gr, h1]
    have e4 : broadcastV b r = (r, 0) := by simp only [broadcastV, if_pos gb, if_pos gr, h2]
    have e5 : broadcastV r r = (r, 0) := by simp only [broadcastV, if_pos gr, h3]
    have e6 : broadcastV a r = (r, 0) := by simp only [broadcastV, if_pos ga, if_pos gr, bc_comm (a := a), h1]
    have := gr.1
    have sr : Short r := by unfold Short; omega
    have fr : r.length < fu := by omega
    simp only [e1, e2, if_true]
    rw [Broadcast_spec sr ha fr hfa hf, ob_some, Broadcast_spec hb sr hfb fr hf, ob_some, Broadcast_spec sr sr fr fr hf, ob_some, Size_spec sr fr, ob_some]
    simp only [e3, e4, e5, sizeV, if_pos gr, if_true]
    simp only [SameInts_spec sr fr, ob_some, decide_true, if_true]
    unfold law04_ShapeBoth_k1
    simp only
    by_cases h0 : prod r = 0
    · rw [if_pos h0]
    · rw [if_neg h0]
      have hpos : 0 < prod r := by have := prod_nonneg gr.2.1; omega
      have hP := gr.2.2
      rw [wk_eq (by omega) (by omega), From_spec ha sr hfa fr hf, ob_some, From_spec ha sr hfa fr hf, ob_some, Size_spec ha hfa, ob_some]
      obtain ⟨f1, _, f3⟩ := bcast_fit ga gr e6
      have hpr := pos_of_good gr h0
      have hdl : (r.drop (r.length - a.length)).length = a.length := by simp; omega
      have c1 : 0 ≤ prod r - 1 ∧ prod r - 1 < prod r := ⟨by omega, by omega⟩
      have c2 : (0 : Int) ≤ 0 ∧ 0 < prod r := ⟨by omega, by omega⟩
      simp only [fromV, if_pos ga, if_pos gr, e6, if_true, sizeV, if_pos c1, if_pos c2]
      rw [idxV_last hpr, idxV_zero, ← List.map_drop, ← List.map_drop, fromS_zero, fromS_last hdl.symm f3]
      have := ga.2.2
      have hpa := prod_pos (fit_pos hdl.symm f3 fun x hx => hpr x (List.mem_of_mem_drop hx))
      simp only [if_true]
      rw [wk_eq (by omega) (by omega)]
      simp
  · have e : ∀ x y : List Int, (¬ (Good x ∧ Good y ∧ ∃ r, bc x y = some r ∧ Good r)) → (broadcastV x y).1 = [] ∧ (broadcastV x y).2 ≠ 0 := by
      intro x y hn
      simp only [broadcastV]
      by_cases gx : Good x
      · rw [if_pos gx]
        by_cases gy : Good y
        · rw [if_pos gy]
          cases hb : bc x y with
          | none => simp
          | some r =>
            have : ¬ Good r := fun h => hn ⟨gx, gy, r, hb, h⟩
            simp [this, errS_ne]
        · rw [if_neg gy]; exact ⟨rfl, errS_ne y⟩
      · rw [if_neg gx]; exact ⟨rfl, errS_ne x⟩
    obtain ⟨q1, q2⟩ := e a b good
    obtain ⟨q3, q4⟩ := e b a fun ⟨gb, ga, r, hr, gr⟩ => good ⟨ga, gb, r, by rw [bc_comm]; exact hr, gr⟩
    rw [if_neg q2, if_neg q4, q1, q3]
    rfl
end Go.Av
