/- Sameness of lists and sizes, over the plain functions of layer 5. Conditions: those that each names. -/
import Derived.Test.YtoeineoiofjfdaaP04
set_option linter.unusedVariables false
namespace Go.Av
theorem drop_same {a b : List Int} {i : Nat} (ha : i < a.length) (hb : i < b.length) : a.drop i = b.drop i ↔ a[i] = b[i] ∧ a.drop (i + 1) = b.drop (i + 1) := by
  rw [List.drop_eq_getElem_cons ha, List.drop_eq_getElem_cons hb]
  exact List.cons_eq_cons
theorem SameInts_spec {fu : Nat} {a b : List Int} (hl : Short a) (hf : a.length < fu) : ref04_SameInts fu a b = some (decide (a = b)) := by
  unfold ref04_SameInts ref04_SameInts_W1
  by_cases hlen : a.length = b.length
  · rw [if_pos (by omega)]
    refine (cloop_ind (fun (i : Int) => some (decide (a.drop i.toNat = b.drop i.toNat))) (fun i => 0 ≤ i ∧ i ≤ a.length) (fun i => a.length - i.toNat) ?_ fu 0 (by simp) (by simp; omega)).trans (by simp)
    rintro i ⟨h0, h1⟩ next hn
    obtain ⟨k, rfl⟩ := Int.eq_ofNat_of_zero_le h0
    unfold ref04_SameInts_L1
    simp only [Int.toNat_natCast]
    by_cases hk : k < a.length
    · rw [if_pos (by omega), at?_get hk, ob_some, at?_get (by omega : k < b.length), ob_some, wk_succ (by unfold Short at hl; omega)]
      have hd := drop_same hk (by omega : k < b.length)
      by_cases he : a[k] = b[k]
      · rw [if_pos he, hn _ (by omega) (by simp; omega)]
        simp [hd, he]
      · rw [if_neg he]
        simp [hd, he]
    · rw [if_neg (by omega)]
      have e1 : a.drop k = b.drop k := by rw [List.drop_of_length_le (by omega), List.drop_of_length_le (by omega)]
      simp [e1]
  · rw [if_neg (by omega)]
    have : ¬ a = b := fun h => hlen (by rw [h])
    simp [this]

theorem refSizeW_spec {fu : Nat} {l : List Int} (hp : ∀ x ∈ l, 1 ≤ x ∧ x ≤ 4096) (hl : l.length ≤ 8) (hf : l.length < fu) : ref04_Size_W1 fu l 1 0 = some (if prod l ≤ 4096 then (prod l, 0) else (0, 4)) := by
  unfold ref04_Size_W1
  refine (cloop_ind (fun (s : Int × Int) => some (if s.1 * prod (l.drop s.2.toNat) ≤ 4096 then (s.1 * prod (l.drop s.2.toNat), 0) else (0, 4))) (fun s => 0 ≤ s.2 ∧ s.2 ≤ l.length ∧ 1 ≤ s.1 ∧ s.1 ≤ 4096) (fun s => l.length - s.2.toNat) ?_ fu (1, 0) (by simp) (by simp; omega)).trans (by simp)
  rintro ⟨m, i⟩ ⟨h0, h1, h2, h3⟩ next hn
  simp only at h0 h1 h2 h3 hn ⊢
  obtain ⟨k, rfl⟩ := Int.eq_ofNat_of_zero_le h0
  unfold ref04_Size_L1 ref04_Size_k2
  simp only [Int.toNat_natCast]
  by_cases hk : k < l.length
  · obtain ⟨q1, q2⟩ := hp _ (List.getElem_mem hk)
    have hge : 1 ≤ m * l[k] := by have := Int.mul_le_mul h2 q1 (by decide) (by omega); simpa using this
    have hle : m * l[k] ≤ 4096 * 4096 := Int.mul_le_mul h3 q2 (by omega) (by decide)
    rw [if_pos (by omega), at?_get hk, ob_some, if_neg (by omega), ob_some, wk_eq (x := m * l[k]) (by omega) (by omega), List.drop_eq_getElem_cons hk]
    have hpos : 1 ≤ prod (l.drop (k + 1)) := prod_pos fun x hx => (hp x (List.mem_of_mem_drop hx)).1
    simp only [prod, ← Int.mul_assoc]
    by_cases hd : 4096 < m * l[k]
    · rw [if_pos hd]
      have : m * l[k] * 1 ≤ m * l[k] * prod (l.drop (k + 1)) := Int.mul_le_mul_of_nonneg_left hpos (by omega)
      rw [if_neg (by omega)]
    · rw [if_neg hd]
      rw [wk_succ (by omega), hn (m * l[k], ((k + 1 : Nat) : Int)) ⟨by simp only []; omega, by simp only []; omega, hge, by simp only []; omega⟩ (by simp; omega)]
      simp
  · rw [if_neg (by omega), List.drop_of_length_le (by omega)]
    simp only [prod, Int.mul_one]
    rw [if_pos h3]
theorem refSize_spec {fu : Nat} {l : List Int} (hl : Short l) (hf : l.length < fu) : ref04_Size fu l = some (sizeV l) := by
  unfold ref04_Size ref04_Size_W2
  refine (cloop_ind (fun (s : Bool × Bool × Int) => cond ((l.drop s.2.2.toNat).any (fun x => decide (x < 0))) (some (0, 1)) (ref04_Size_k1 fu l (s.1 || (l.drop s.2.2.toNat).any (fun x => decide (x = 0))) (s.2.1 || (l.drop s.2.2.toNat).any (fun x => decide (4096 < x))))) (fun s => 0 ≤ s.2.2 ∧ s.2.2 ≤ l.length) (fun s => l.length - s.2.2.toNat) ?_ fu _ (by simp) (by simp; omega)).trans ?_
  · rintro ⟨z, b, i⟩ ⟨h0, h1⟩ next hn
    simp only at h0 h1 hn ⊢
    obtain ⟨k, rfl⟩ := Int.eq_ofNat_of_zero_le h0
    unfold ref04_Size_L2
    simp only [Int.toNat_natCast]
    by_cases hk : k < l.length
    · rw [if_pos (by omega), at?_get hk, ob_some, List.drop_eq_getElem_cons hk]
      simp only [List.any_cons]
      by_cases h2 : l[k] < 0
      · rw [if_pos h2]; simp [h2]
      · rw [if_neg h2]
        have hx := fun z' b' => hn (z', b', ((k + 1 : Nat) : Int)) (by simp only []; omega) (by simp; omega)
        simp only [Int.toNat_natCast] at hx
        have hz : (if z = true then ref04_Size_k3 fu (fun x13 x14 x15 => next (x13, x14, x15)) b (k : Int) l[k] true else ref04_Size_k3 fu (fun x13 x14 x15 => next (x13, x14, x15)) b (k : Int) l[k] (decide (l[k] = 0))) = next (z || decide (l[k] = 0), b || decide (4096 < l[k]), wk .i64 ((k : Int) + 1)) := by
          unfold ref04_Size_k3
          cases z <;> cases b <;> simp
        rw [hz, wk_succ (by unfold Short at hl; omega), hx]
        simp only [Bool.or_assoc]
        simp [h2]
    · rw [if_neg (by omega), List.drop_of_length_le (by omega)]
      simp
  · simp only [Int.toNat_zero, List.drop_zero, Bool.false_or]
    by_cases h1 : l.any (fun x => decide (x < 0)) = true
    · rw [h1, cond_true]
      have hg : ¬ Good l := fun hg => by
        obtain ⟨x, hx, hx2⟩ := List.any_eq_true.1 h1
        have := (hg.2.1 x hx).1
        simp at hx2; omega
      simp only [sizeV, if_neg hg, errS, if_pos h1]
    have h1' : l.any (fun x => decide (x < 0)) = false := by simpa using h1
    rw [h1', cond_false]
    have he : errS l = 4 := by simp only [errS, if_neg h1]
    unfold ref04_Size_k1
    by_cases h2 : (decide (8 < (l.length : Int)) || l.any fun x => decide (4096 < x)) = true
    · rw [if_pos h2]
      have hg : ¬ Good l := fun hg => by
        rcases Bool.or_eq_true_iff.1 h2 with h3 | h3
        · have := hg.1; simp at h3; omega
        · obtain ⟨x, hx, hx2⟩ := List.any_eq_true.1 h3
          have := (hg.2.1 x hx).2
          simp at hx2; omega
      simp only [sizeV, if_neg hg, he]
    rw [if_neg h2]
    simp only [Bool.or_eq_true, decide_eq_true_eq, List.any_eq_true, not_or, not_exists, not_and] at h1 h2
    have hr : Rng l := fun x hx => by have := h1 x hx; have := h2.2 x hx; omega
    by_cases h4 : (l.any fun x => decide (x = 0)) = true
    · rw [if_pos h4]
      have hz : (0 : Int) ∈ l := by
        obtain ⟨x, hx, hx2⟩ := List.any_eq_true.1 h4
        simp at hx2; subst hx2; exact hx
      have hg : Good l := ⟨by omega, hr, by rw [prod_zero hz]; decide⟩
      simp only [sizeV, if_pos hg, prod_zero hz]
    rw [if_neg h4]
    have hp : ∀ x ∈ l, 1 ≤ x ∧ x ≤ 4096 := fun x hx => by
      have := hr x hx
      simp only [List.any_eq_true, decide_eq_true_eq, not_exists, not_and] at h4
      have := h4 x hx; omega
    rw [refSizeW_spec hp (by omega) hf]
    by_cases h5 : prod l ≤ 4096
    · have hg : Good l := ⟨by omega, hr, h5⟩
      simp only [sizeV, if_pos hg, if_pos h5]
    · have hg : ¬ Good l := fun hg => h5 hg.2.2
      simp only [sizeV, if_neg hg, if_neg h5, he]
end Go.Av
