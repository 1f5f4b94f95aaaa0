/- ShapeBack: the law over the plain functions. Conditions: those that each names. -/
import Derived.Test.YtoeineoiofjfdaaP05
set_option linter.unusedVariables false
namespace Go.Av
theorem band_range (a : Int) : 0 ≤ band .i64 a 65535 ∧ band .i64 a 65535 ≤ 65535 := by
  have h : (BitVec.ofInt 64 a &&& BitVec.ofInt 64 65535).toNat ≤ 65535 := by
    rw [BitVec.toNat_and]
    exact Nat.le_trans Nat.and_le_right (by decide)
  have e : band .i64 a 65535 = wk .i64 ((BitVec.ofInt 64 a &&& BitVec.ofInt 64 65535).toNat : Int) := rfl
  rw [e, wk_eq (by omega) (by omega)]
  omega
theorem tmod_range {a n : Int} (h0 : 0 ≤ a) (hn : 0 < n) : 0 ≤ Int.tmod a n ∧ Int.tmod a n < n := by
  rw [Int.tmod_eq_emod_of_nonneg h0]
  exact ⟨Int.emod_nonneg _ (by omega), Int.emod_lt_of_pos _ hn⟩
/-- the sum of indices times strides -/
theorem BackW_spec {fu : Nat} {l : List Int} {a : Int} (hg : Good l) (h0 : 0 ≤ a) (h1 : a < prod l) (hf : l.length < fu) (e1 e2 : Int) :
    law04_ShapeBack_W1 fu l a (idxV l a, e1) (strdW l, e2) 0 0 = some true := by
  have hp := pos_of_good hg (by omega)
  have hP := hg.2.2
  have hL := hg.1
  have hok := okIx_idx hp h0 h1
  have hof := offV_idx hp h0 h1
  have hlen := idxV_length l a
  generalize idxV l a = xs at *
  unfold law04_ShapeBack_W1
  refine cloop_ind (fun _ => some true) (fun (s : Int × Int) => 0 ≤ s.2 ∧ s.2 ≤ l.length ∧ 0 ≤ s.1 ∧ s.1 + prod (l.drop s.2.toNat) ≤ prod l ∧ okIx (l.drop s.2.toNat) (xs.drop s.2.toNat) = true ∧ s.1 + offV (l.drop s.2.toNat) (xs.drop s.2.toNat) = a) (fun s => l.length - s.2.toNat) ?_ fu _ ⟨by simp, by simp, by simp, by simp, by simpa using hok, by simpa using hof⟩ (by simp; omega)
  rintro ⟨o, i⟩ ⟨h2, h3, h4, h5, h6, h7⟩ next hn
  simp only at h2 h3 h4 h5 h6 h7 hn ⊢
  obtain ⟨k, rfl⟩ := Int.eq_ofNat_of_zero_le h2
  unfold law04_ShapeBack_L1 law04_ShapeBack_k5 law04_ShapeBack_k4
  simp only [Int.toNat_natCast, hlen] at h5 h6 h7 ⊢
  by_cases hk : k < l.length
  · have hkx : k < xs.length := by omega
    rw [List.drop_eq_getElem_cons hk, List.drop_eq_getElem_cons hkx] at h6 h7
    rw [List.drop_eq_getElem_cons hk] at h5
    simp only [okIx, offV, prod, Bool.and_eq_true, decide_eq_true_eq] at h5 h6 h7
    obtain ⟨⟨h6a, h6b⟩, h6c⟩ := h6
    have hpn : 0 ≤ prod (l.drop (k + 1)) := prod_nonneg fun x hx => hg.2.1 x (List.mem_of_mem_drop hx)
    have m1 : (xs[k] + 1) * prod (l.drop (k + 1)) ≤ l[k] * prod (l.drop (k + 1)) := Int.mul_le_mul_of_nonneg_right (by omega) hpn
    rw [Int.add_mul, Int.one_mul] at m1
    have m2 : 0 ≤ xs[k] * prod (l.drop (k + 1)) := Int.mul_nonneg (by omega) hpn
    rw [if_pos (by omega), at?_get hkx, ob_some, if_neg (by omega), at?_get hk, ob_some, if_neg (by omega), ob_some, at?_nat, strdW_get hk, ob_some]
    rw [wk_eq (x := prod (l.drop (k + 1))) (by omega) (by omega), wk_eq (x := xs[k] * prod (l.drop (k + 1))) (by omega) (by omega), wk_eq (by omega) (by omega), wk_succ (by omega)]
    exact hn (_, ((k + 1 : Nat) : Int)) ⟨by simp only []; omega, by simp only []; omega, by simp only []; omega, by simp only [Int.toNat_natCast]; omega, by simpa only [Int.toNat_natCast] using h6c, by simp only [Int.toNat_natCast]; omega⟩ (by simp; omega)
  · rw [List.drop_of_length_le (by omega), List.drop_of_length_le (by omega)] at h7
    rw [if_neg (by omega)]
    simp only [offV] at h7
    simp; omega
theorem Back_law {fu : Nat} {l : List Int} {a : Int} (hl : Short l) (hf : l.length < fu) (hf8 : 8 < fu) : law04_ShapeBack fu l a = some true := by
  unfold law04_ShapeBack
  rw [Size_spec hl hf, ob_some]
  simp only [sizeV]
  by_cases hg : Good l
  · simp only [if_pos hg, if_true]
    have hP := hg.2.2
    have hL := hg.1
    have key : ∀ b, (0 < prod l → 0 ≤ b ∧ b < prod l) → law04_ShapeBack_k1 fu l (prod l, 0) b = some true := by
      intro b hb
      unfold law04_ShapeBack_k1
      rw [Index_spec hl hf, ob_some]
      simp only [indexV, if_pos hg]
      by_cases h0 : prod l = 0
      · rw [if_pos h0, if_neg (by omega)]
        rfl
      · have hpos : 0 < prod l := by have := prod_nonneg hg.2.1; omega
        obtain ⟨h1, h2⟩ := hb hpos
        rw [if_neg h0, if_pos ⟨h1, h2⟩, Strides_spec hl hf, ob_some, Offset_spec hl hf, ob_some]
        simp only [if_pos hg, offsetV, idxV_length, if_true, okIx_idx (pos_of_good hg h0) h1 h2, offV_idx (pos_of_good hg h0) h1 h2, strdW_length]
        exact BackW_spec hg h1 h2 hf _ _
    by_cases h0 : 0 < prod l
    · rw [if_pos h0]
      have hr := tmod_range (band_range a).1 h0
      by_cases h1 : a < 0
      · rw [if_pos h1, chk_pos (by omega)]; exact key _ fun _ => hr
      · rw [if_neg h1]
        by_cases h2 : prod l ≤ a
        · rw [if_pos h2, chk_pos (by omega)]; exact key _ fun _ => hr
        · rw [if_neg h2]; exact key _ fun _ => ⟨by omega, by omega⟩
    · rw [if_neg h0]; exact key _ fun h => absurd h h0
  · simp only [if_neg hg]
    rw [if_neg (errS_ne l)]
    rfl
end Go.Av
