/- The reference of layer 4. Conditions: those that each names. -/
import Derived.Test.YtoeineoiofjfdaaP07
set_option linter.unusedVariables false
namespace Go.Av
theorem wk_idem (x : Int) : wk .i64 (wk .i64 x) = wk .i64 x := by
  have := wk_mul_l x 1
  simpa using this
theorem wk_hor (y p f : Int) : wk .i64 (wk .i64 y * p + f) = wk .i64 (y * p + f) := by
  rw [← wk_add_l (wk .i64 y * p), wk_mul_l, wk_add_l]
theorem refSizeW_spec {fu : Nat} {l : List Int} (hp : ∀ x ∈ l, 1 ≤ x ∧ x ≤ 4096) (hl : l.length ≤ 8) (hf : l.length < fu) : ref04_Size_W1 fu l 1 0 = some (if prod l ≤ 4096 then (prod l, 0) else (0, 4)) := by
  unfold ref04_Size_W1
  refine (cloop_ind (fun (s : Int × Int) => some (if s.1 * prod (l.drop s.2.toNat) ≤ 4096 then (s.1 * prod (l.drop s.2.toNat), 0) else (0, 4))) (fun s => 0 ≤ s.2 ∧ s.2 ≤ l.length ∧ 1 ≤ s.1 ∧ s.1 ≤ 4096) (fun s => l.length - s.2.toNat) ?_ fu (1, 0) (by simp) (by simp; omega)).trans (by simp)
  rintro ⟨m, i⟩ ⟨h0, h1, h2, h3⟩ next hn
  simp only at h0 h1 h2 h3 hn ⊢
  obtain ⟨k, rfl⟩ := Int.eq_ofNat_of_zero_le h0
  unfold ref04_Size_L1 ref04_Size_k2
  simp only [Int.toNat_natCast]
  by_cases hk : k < l.length
  · obtain ⟨q1, q2⟩ := hp _ (List.getElem_mem hk)
    have hge : 1 ≤ m * l[k] := by have := Int.mul_le_mul h2 q1 (by decide) (by omega); simpa using this
    have hle : m * l[k] ≤ 4096 * 4096 := Int.mul_le_mul h3 q2 (by omega) (by decide)
    rw [if_pos (by omega), at?_get hk, ob_some, if_neg (by omega), ob_some, wk_eq (x := m * l[k]) (by omega) (by omega), List.drop_eq_getElem_cons hk]
    have hpos : 1 ≤ prod (l.drop (k + 1)) := prod_pos fun x hx => (hp x (List.mem_of_mem_drop hx)).1
    simp only [prod, ← Int.mul_assoc]
    by_cases hd : 4096 < m * l[k]
    · rw [if_pos hd]
      have : m * l[k] * 1 ≤ m * l[k] * prod (l.drop (k + 1)) := Int.mul_le_mul_of_nonneg_left hpos (by omega)
      rw [if_neg (by omega)]
    · rw [if_neg hd]
      rw [wk_succ (by omega), hn (m * l[k], ((k + 1 : Nat) : Int)) ⟨by simp only []; omega, by simp only []; omega, hge, by simp only []; omega⟩ (by simp; omega)]
      simp
  · rw [if_neg (by omega), List.drop_of_length_le (by omega)]
    simp only [prod, Int.mul_one]
    rw [if_pos h3]
theorem refSize_spec {fu : Nat} {l : List Int} (hl : Short l) (hf : l.length < fu) : ref04_Size fu l = some (sizeV l) := by
  unfold ref04_Size ref04_Size_W2
  refine (cloop_ind (fun (s : Bool × Bool × Int) => cond ((l.drop s.2.2.toNat).any (fun x => decide (x < 0))) (some (0, 1)) (ref04_Size_k1 fu l (s.1 || (l.drop s.2.2.toNat).any (fun x => decide (x = 0))) (s.2.1 || (l.drop s.2.2.toNat).any (fun x => decide (4096 < x))))) (fun s => 0 ≤ s.2.2 ∧ s.2.2 ≤ l.length) (fun s => l.length - s.2.2.toNat) ?_ fu _ (by simp) (by simp; omega)).trans ?_
  · rintro ⟨z, b, i⟩ ⟨h0, h1⟩ next hn
    simp only at h0 h1 hn ⊢
    obtain ⟨k, rfl⟩ := Int.eq_ofNat_of_zero_le h0
    unfold ref04_Size_L2
    simp only [Int.toNat_natCast]
    by_cases hk : k < l.length
    · rw [if_pos (by omega), at?_get hk, ob_some, List.drop_eq_getElem_cons hk]
      simp only [List.any_cons]
      by_cases h2 : l[k] < 0
      · rw [if_pos h2]; simp [h2]
      · rw [if_neg h2]
        have hx := fun z' b' => hn (z', b', ((k + 1 : Nat) : Int)) (by simp only []; omega) (by simp; omega)
        simp only [Int.toNat_natCast] at hx
        have hz : (if z = true then ref04_Size_k3 fu (fun x13 x14 x15 => next (x13, x14, x15)) b (k : Int) l[k] true else ref04_Size_k3 fu (fun x13 x14 x15 => next (x13, x14, x15)) b (k : Int) l[k] (decide (l[k] = 0))) = next (z || decide (l[k] = 0), b || decide (4096 < l[k]), wk .i64 ((k : Int) + 1)) := by
          unfold ref04_Size_k3
          cases z <;> cases b <;> simp
        rw [hz, wk_succ (by unfold Short at hl; omega), hx]
        simp only [Bool.or_assoc]
        simp [h2]
    · rw [if_neg (by omega), List.drop_of_length_le (by omega)]
      simp
  · simp only [Int.toNat_zero, List.drop_zero, Bool.false_or]
    by_cases h1 : l.any (fun x => decide (x < 0)) = true
    · rw [h1, cond_true]
      have hg : ¬ Good l := fun hg => by
        obtain ⟨x, hx, hx2⟩ := List.any_eq_true.1 h1
        have := (hg.2.1 x hx).1
        simp at hx2; omega
      simp only [sizeV, if_neg hg, errS, if_pos h1]
    have h1' : l.any (fun x => decide (x < 0)) = false := by simpa using h1
    rw [h1', cond_false]
    have he : errS l = 4 := by simp only [errS, if_neg h1]
    unfold ref04_Size_k1
    by_cases h2 : (decide (8 < (l.length : Int)) || l.any fun x => decide (4096 < x)) = true
    · rw [if_pos h2]
      have hg : ¬ Good l := fun hg => by
        rcases Bool.or_eq_true_iff.1 h2 with h3 | h3
        · have := hg.1; simp at h3; omega
        · obtain ⟨x, hx, hx2⟩ := List.any_eq_true.1 h3
          have := (hg.2.1 x hx).2
          simp at hx2; omega
      simp only [sizeV, if_neg hg, he]
    rw [if_neg h2]
    simp only [Bool.or_eq_true, decide_eq_true_eq, List.any_eq_true, not_or, not_exists, not_and] at h1 h2
    have hr : Rng l := fun x hx => by have := h1 x hx; have := h2.2 x hx; omega
    by_cases h4 : (l.any fun x => decide (x = 0)) = true
    · rw [if_pos h4]
      have hz : (0 : Int) ∈ l := by
        obtain ⟨x, hx, hx2⟩ := List.any_eq_true.1 h4
        simp at hx2; subst hx2; exact hx
      have hg : Good l := ⟨by omega, hr, by rw [prod_zero hz]; decide⟩
      simp only [sizeV, if_pos hg, prod_zero hz]
    rw [if_neg h4]
    have hp : ∀ x ∈ l, 1 ≤ x ∧ x ≤ 4096 := fun x hx => by
      have := hr x hx
      simp only [List.any_eq_true, decide_eq_true_eq, not_exists, not_and] at h4
      have := h4 x hx; omega
    rw [refSizeW_spec hp (by omega) hf]
    by_cases h5 : prod l ≤ 4096
    · have hg : Good l := ⟨by omega, hr, h5⟩
      simp only [sizeV, if_pos hg, if_pos h5]
    · have hg : ¬ Good l := fun hg => h5 hg.2.2
      simp only [sizeV, if_neg hg, if_neg h5, he]
theorem refStrides_spec {fu : Nat} {l : List Int} (hl : Short l) (hf : l.length < fu) : ref04_Strides fu l = some (if Good l then (strdW l, 0) else ([], errS l)) := by
  unfold ref04_Strides
  rw [refSize_spec hl hf, ob_some]
  simp only [sizeV]
  by_cases hg : Good l
  · simp only [if_pos hg, if_true]
    have h8 := hg.1
    unfold ref04_Strides_W1
    refine (cloop_ind (fun (s : List Int × Int) => some (s.1 ++ strdW (l.drop s.2.toNat), (0 : Int))) (fun s => 0 ≤ s.2 ∧ s.2 ≤ l.length ∧ (s.1.length : Int) = s.2) (fun s => l.length - s.2.toNat) ?_ fu _ (by simp) (by simp; omega)).trans (by simp)
    rintro ⟨q, i⟩ ⟨h0, h1, h2⟩ next hn
    simp only at h0 h1 h2 hn ⊢
    obtain ⟨k, rfl⟩ := Int.eq_ofNat_of_zero_le h0
    unfold ref04_Strides_L1
    simp only [Int.toNat_natCast]
    by_cases hk : k < l.length
    · rw [if_pos (by omega), wk_succ (by omega)]
      have inner : ∀ (s : Int) (j : Nat), j ≤ l.length → ref04_Strides_W2 fu (fun x9 x10 => next (x9, x10)) l q (k : Int) (wk .i64 s) (j : Int) = ref04_Strides_k1 fu (fun x9 x10 => next (x9, x10)) q (k : Int) (wk .i64 (s * prod (l.drop j))) := by
        intro s j hj
        unfold ref04_Strides_W2
        refine (cloop_ind (fun (s : Int × Int) => ref04_Strides_k1 fu (fun x9 x10 => next (x9, x10)) q (k : Int) (wk .i64 (s.1 * prod (l.drop s.2.toNat)))) (fun s => 0 ≤ s.2 ∧ s.2 ≤ l.length ∧ ∃ s', s.1 = wk .i64 s') (fun s => l.length - s.2.toNat) ?_ fu (wk .i64 s, (j : Int)) ⟨by simp only []; omega, by simp only []; omega, s, rfl⟩ (by simp; omega)).trans (by simp only [Int.toNat_natCast, wk_mul_l])
        rintro ⟨m, i⟩ ⟨g0, g1, s', rfl⟩ nx hnx
        simp only at g0 g1 hnx ⊢
        obtain ⟨i, rfl⟩ := Int.eq_ofNat_of_zero_le g0
        unfold ref04_Strides_L2
        simp only [Int.toNat_natCast]
        by_cases hi : i < l.length
        · rw [if_pos (by omega), at?_get hi, ob_some, wk_succ (by omega), hnx (wk .i64 (wk .i64 s' * l[i]), ((i + 1 : Nat) : Int)) ⟨by simp only []; omega, by simp only []; omega, _, rfl⟩ (by simp; omega), List.drop_eq_getElem_cons hi]
          simp only [Int.toNat_natCast, prod, wk_mul_l, Int.mul_assoc]
        · rw [if_neg (by omega), List.drop_of_length_le (by omega)]
          simp only [prod, Int.mul_one, wk_idem]
      have := inner 1 (k + 1) (by omega)
      rw [show wk .i64 (1 : Int) = 1 by decide, Int.one_mul] at this
      rw [this]
      unfold ref04_Strides_k1
      rw [chk_pos (by omega), wk_succ (by omega)]
      refine (hn (q ++ [wk .i64 (prod (l.drop (k + 1)))], ((k + 1 : Nat) : Int)) ⟨by simp only []; omega, by simp only []; omega, by simp; omega⟩ (by simp; omega)).trans ?_
      rw [List.drop_eq_getElem_cons hk]
      simp [strdW]
    · rw [if_neg (by omega), List.drop_of_length_le (by omega)]
      simp [strdW]
  · simp only [if_neg hg]
    rw [if_neg (errS_ne l)]

theorem idx_step {a d P : Int} (ha : 0 ≤ a) (hd : 1 ≤ d) (hP : 1 ≤ P) : a % (d * P) / P = a / P % d ∧ a % (d * P) % P = a % P := by
  have h1 := Int.mul_ediv_add_emod a (d * P)
  have hdP : 0 < d * P := Int.mul_pos (by omega) (by omega)
  have hr := Int.emod_nonneg a (b := d * P) (by omega)
  have hr2 := Int.emod_lt_of_pos a hdP
  generalize a % (d * P) = r at h1 hr hr2 ⊢
  generalize a / (d * P) = q at h1
  have e : a = r + P * (d * q) := by rw [← h1, Int.mul_comm d P, Int.mul_assoc, Int.add_comm]
  have hq : r / P < d := Int.ediv_lt_of_lt_mul (by omega) hr2
  have hq0 : 0 ≤ r / P := Int.ediv_nonneg hr (by omega)
  rw [e, Int.add_mul_ediv_left _ _ (by omega : P ≠ 0), Int.add_mul_emod_self_left, Int.add_mul_emod_self_left, Int.emod_eq_of_lt hq0 hq]
  exact ⟨rfl, rfl⟩
theorem refIndexW_spec {fu : Nat} {l : List Int} {a : Int} (hg : Good l) (hn0 : 1 ≤ prod l) (ha : 0 ≤ a) (ha2 : a < prod l) (hf : l.length < fu) : ref04_Index_W1 fu l (List.replicate l.length 0) a (wk .i64 ((l.length : Int) - 1)) = some (idxV l a, 0) := by
  have hp := pos_of_good hg (by omega)
  have hd := prod_drop_le hp
  have h8 := hg.1
  have hP := hg.2.2
  rw [wk_eq (by omega) (by omega)]
  unfold ref04_Index_W1
  refine cloop_ind (fun _ => some (idxV l a, (0 : Int))) (fun (s : List Int × Int × Int) => ∃ k : Nat, k ≤ l.length ∧ s = (List.replicate k 0 ++ idxV (l.drop k) (a % prod (l.drop k)), a / prod (l.drop k), (k : Int) - 1)) (fun s => (s.2.2 + 1).toNat) ?_ fu _ ⟨l.length, Nat.le_refl _, by simp [idxV, prod]⟩ (by simp; omega)
  rintro _ ⟨k, hk, rfl⟩ next hn
  unfold ref04_Index_L1
  simp only
  match k, hk with
  | 0, _ =>
    rw [if_neg (by decide)]
    simp only [List.replicate_zero, List.nil_append, List.drop_zero]
    rw [Int.emod_eq_of_lt ha ha2]
  | k + 1, hk =>
    have e1 : (((k + 1 : Nat) : Int) - 1) = (k : Int) := by omega
    have hlen : (List.replicate (k + 1) (0 : Int) ++ idxV (l.drop (k + 1)) (a % prod (l.drop (k + 1)))).length = l.length := by simp [idxV_length]; omega
    have hq := hp l[k] (List.getElem_mem _)
    have hr := (hg.2.1 l[k] (List.getElem_mem _)).2
    obtain ⟨d1, d2⟩ := hd (k + 1)
    have q0 : 0 ≤ a / prod (l.drop (k + 1)) := Int.ediv_nonneg ha (by omega)
    have q1 : a / prod (l.drop (k + 1)) ≤ a := Int.ediv_le_self _ ha
    have q2 : 0 ≤ a / prod (l.drop (k + 1)) / l[k] := Int.ediv_nonneg q0 (by omega)
    have q3 : a / prod (l.drop (k + 1)) / l[k] ≤ a / prod (l.drop (k + 1)) := Int.ediv_le_self _ q0
    rw [e1, if_pos (by omega), hlen, at?_get (by omega), ob_some, chk_pos (by omega), chk_pos (by omega), Int.toNat_natCast, rep_set]
    rw [Int.tdiv_eq_ediv_of_nonneg q0, Int.tmod_eq_emod_of_nonneg q0, wk_eq (by omega) (by omega), wk_eq (x := (k : Int) - 1) (by omega) (by omega)]
    refine hn _ ⟨k, by omega, ?_⟩ (by simp)
    rw [List.drop_eq_getElem_cons (by omega : k < l.length)]
    obtain ⟨s1, s2⟩ := idx_step (P := prod (l.drop (k + 1))) ha hq d1
    simp only [prod, idxV, s1, s2]
    rw [Int.ediv_ediv_of_nonneg (by omega), Int.mul_comm]
theorem refIndex_spec {fu : Nat} {l : List Int} {a : Int} (hl : Short l) (hf : l.length < fu) : ref04_Index fu l a = some (indexV l a) := by
  unfold ref04_Index
  rw [refSize_spec hl hf, ob_some]
  simp only [sizeV, indexV]
  by_cases hg : Good l
  · simp only [if_pos hg, if_true]
    by_cases h1 : a < 0
    · rw [if_pos h1, if_neg (by omega)]
    · rw [if_neg h1]
      by_cases h2 : prod l ≤ a
      · rw [if_pos h2, if_neg (by omega)]
      · rw [if_neg h2, if_pos (by omega)]
        unfold ref04_Index_k1
        have := hg.1
        rw [chk_pos (by omega), Int.toNat_natCast, refIndexW_spec hg (by omega) (by omega) (by omega) hf]
  · simp only [if_neg hg]
    rw [if_neg (errS_ne l)]
theorem offV_lt : ∀ {l xs : List Int}, (∀ x ∈ l, 0 ≤ x) → xs.length = l.length → okIx l xs = true → 0 ≤ offV l xs ∧ offV l xs < prod l
  | [], [], _, _, _ => by simp [offV, prod]
  | d :: l, x :: xs, hp, hl, h => by
    simp only [okIx, Bool.and_eq_true, decide_eq_true_eq] at h
    obtain ⟨h1, h2⟩ := offV_lt (l := l) (xs := xs) (fun y hy => hp y (by simp [hy])) (by simpa using hl) h.2
    simp only [offV, prod]
    have m1 : (x + 1) * prod l ≤ d * prod l := Int.mul_le_mul_of_nonneg_right (by omega) (by omega)
    rw [Int.add_mul, Int.one_mul] at m1
    have m2 : 0 ≤ x * prod l := Int.mul_nonneg h.1.1 (by omega)
    omega
theorem refOffset_spec {fu : Nat} {l xs : List Int} (hl : Short l) (hf : l.length < fu) : ref04_Offset fu l xs = some (offsetV l xs) := by
  unfold ref04_Offset
  rw [refSize_spec hl hf, ob_some]
  simp only [sizeV, offsetV]
  by_cases hg : Good l
  · simp only [if_pos hg, if_true]
    by_cases hx : xs.length = l.length
    · rw [if_pos (by omega), if_pos hx]
      unfold ref04_Offset_W1
      have hP := hg.2.2
      have h8 := hg.1
      refine (cloop_ind (fun s => some (if okIx (l.drop s.2.toNat) (xs.drop s.2.toNat) = true then (wk .i64 (s.1 * prod (l.drop s.2.toNat) + offV (l.drop s.2.toNat) (xs.drop s.2.toNat)), (0 : Int)) else (0, 2))) (fun (s : Int × Int) => 0 ≤ s.2 ∧ s.2 ≤ l.length ∧ ∃ s', s.1 = wk .i64 s') (fun s => l.length - s.2.toNat) ?_ fu _ ⟨by simp, by simp, 0, by decide⟩ (by simp; omega)).trans ?_
      · rintro ⟨o, i⟩ ⟨h0, h1, s', rfl⟩ next hn
        simp only at h0 h1 hn ⊢
        obtain ⟨k, rfl⟩ := Int.eq_ofNat_of_zero_le h0
        unfold ref04_Offset_L1 ref04_Offset_k1
        simp only [Int.toNat_natCast]
        by_cases hk : k < l.length
        · have hkx : k < xs.length := by omega
          rw [if_pos (by omega), at?_get hkx, ob_some]
          rw [List.drop_eq_getElem_cons hk, List.drop_eq_getElem_cons hkx]
          simp only [okIx, offV, Bool.and_eq_true, decide_eq_true_eq]
          by_cases hx1 : xs[k] < 0
          · rw [if_pos hx1, if_neg (by omega)]
          rw [if_neg hx1, at?_get hk, ob_some]
          by_cases hx2 : l[k] ≤ xs[k]
          · rw [if_pos hx2, if_neg (by omega)]
          rw [if_neg hx2, ob_some, ob_some, wk_add_l, wk_succ (by omega)]
          rw [hn (wk .i64 (wk .i64 s' * l[k] + xs[k]), ((k + 1 : Nat) : Int)) ⟨by simp only []; omega, by simp only []; omega, _, rfl⟩ (by simp; omega)]
          simp only [Int.toNat_natCast]
          by_cases hok : okIx (l.drop (k + 1)) (xs.drop (k + 1)) = true
          · rw [if_pos hok, if_pos ⟨⟨by omega, by omega⟩, hok⟩, wk_hor, Int.add_mul, prod, ← Int.mul_assoc, Int.add_assoc]
          · rw [if_neg hok, if_neg (fun h => hok h.2)]
        · rw [if_neg (by omega), List.drop_of_length_le (by omega), List.drop_of_length_le (by omega)]
          simp [okIx, offV, prod, wk_idem]
      · simp only [Int.toNat_zero, List.drop_zero, Int.zero_mul, Int.zero_add]
        by_cases hok : okIx l xs = true
        · obtain ⟨b1, b2⟩ := offV_lt (fun x hx => (hg.2.1 x hx).1) hx hok
          rw [if_pos hok, if_pos hok, wk_eq (by omega) (by omega)]
        · rw [if_neg hok, if_neg hok]
    · rw [if_neg (by omega), if_neg hx]
  · simp only [if_neg hg]
    rw [if_neg (errS_ne l)]
end Go.Av
