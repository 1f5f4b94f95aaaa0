/- MovesDepth: the law over the plain functions. Conditions: those that each names. -/
import Derived.Test.YtnpnomlnajgbcaaGreatVV
import Derived.Test.YtnpnomlnajgbcaaGreatQA
set_option linter.unusedVariables false
namespace Go.Av
theorem ten_of {t : T_Tensor} (h : Q_27 t) : Ten t := by
  obtain ⟨_, h1, h2, h3, h4, _⟩ := h
  have l1 := h1.1; have l2 := h2.1; have l3 := h3.1; have l4 := h4.1
  refine ⟨by omega, by omega, by omega, by omega, fun x hx => ?_⟩
  have := h2.2 x hx
  simp [Lit.wf, IntKind.min, IntKind.max, IntKind.signed, IntKind.bits] at this
  omega
def setB (m b : Int) : T_Setting := T_Setting.mk 0 ([]) false false false false false ([]) false 0 0 0 false false false 0 m false false 0 ([]) ([]) ([]) ([]) 0 false false b 0 0 false (T_Tensor.mk 0 ([]) ([]) ([]) ([]))
theorem law_5 (a0 : T_Tensor) (a1 : Int) (w0 : Q_27 a0) (w1 : (Lit.int .i64 a1).wf = true) : ∃ fu, law12_MovesDepth fu a0 a1 = some true := by
  refine ⟨a0.fDims.length + a0.fF.length + a0.fI.length + a0.fB.length + 20000, ?_⟩
  generalize hfu : a0.fDims.length + a0.fF.length + a0.fI.length + a0.fB.length + 20000 = fu
  have ht := ten_of w0
  have hft : Fuel fu a0 := ⟨by omega, by omega, by omega, by omega⟩
  have e : law12_MovesDepth fu a0 a1 = (moves_Do fu 64 (setB 0 a1) ([a0]) 1).bind fun x3 => if x3.2 = 0 then ((moves_Do fu 63 (setB 6 a1) x3.1 1).bind fun x4 => if x4.2 = 0 then (if (x4.1.length : Int) = 1 then ((at? x4.1 0).bind fun x5 => (ref05_Canon fu a0).bind fun x6 => (ref05_Same fu x5 x6).bind fun x7 => some x7) else some false) else some false) else law12_MovesDepth.k1 fu x3 := rfl
  rw [e]
  by_cases hg : a0.fType ≠ 0 ∧ checkV a0 = 0 ∧ ∃ A C H W B : Nat, (setB 0 a1).fBlock = (B : Int) ∧ 1 ≤ B ∧ B ≤ 4096 ∧ a0.fDims = dS A C H W B ∧ Good (dD A C H W B)
  · obtain ⟨h0, hc, A, C, H, W, B, hb, hB, hB2, hd, hge⟩ := hg
    have hcc : checkV (canonT a0) = 0 := by rw [canonT_check]; exact hc
    obtain ⟨hk, hgd, hL⟩ := checkV_zero.1 hc
    rw [hd] at hgd
    obtain ⟨N, hN⟩ := Int.eq_ofNat_of_zero_le (prod_nonneg hgd.2.1)
    have hP : PickOK (dD A C H W B) N (fX A C H W B) (canonT a0) := ⟨hcc, hge, by rw [prod_SD]; exact hN, by rw [← hN]; show prod a0.fDims = _; rw [hd], fun k hk => by
      have hk' : (k : Int) < prod (dS A C H W B) := by rw [hN]; exact Int.ofNat_lt.2 hk
      have := fX_rng (pos_dS hgd hk') hk'
      rw [hN] at this
      exact this⟩
    have hY : ∀ k, k < N → 0 ≤ gY A C H W B k ∧ gY A C H W B k < N ∧ fX A C H W B (gY A C H W B k).toNat = k := fun k hk => by
      have hk' : (k : Int) < prod (dS A C H W B) := by rw [hN]; exact Int.ofNat_lt.2 hk
      have := gY_rng (pos_dS hgd hk') hk'
      rw [hN] at this
      exact this
    rw [Do_64 ht hft h0 hc hb hB hB2 hd hge hN (by omega), ob_some, if_pos rfl]
    have t1 := pT_ten ht hP
    obtain ⟨y1, y2⟩ := pT_type hP
    have c1 := pT_check hP
    obtain ⟨r1, r2, r3, r4⟩ := len_small c1
    have gC := (hgd.2.1 (C : Int) (by simp [dS])).2
    have hd2 := Do_63 (fu := fu) (s := setB 6 a1) (t := pT (dD A C H W B) N (fX A C H W B) (canonT a0)) t1 ⟨by omega, by omega, by omega, by omega⟩ (by rw [y1]; exact h0) c1 hb (show (6 : Int) ≠ 7 by decide) hB hB2 (by omega) y2 hgd hN (by omega)
    show (moves_Do fu 63 (setB 6 a1) [pT (dD A C H W B) N (fX A C H W B) (canonT a0)] 1).bind _ = _
    rw [hd2, ob_some, if_pos rfl, if_pos (by simp)]
    show (some (pT (dS A C H W B) N (gY A C H W B) (canonT (pT (dD A C H W B) N (fX A C H W B) (canonT a0))))).bind _ = _
    have hbk := pT_back hP hY
    have hdc : (canonT a0).fDims = dS A C H W B := hd
    rw [hdc] at hbk
    rw [ob_some, refCanon_spec ht (by omega), ob_some, pT_canon hP, hbk, refSame_spec (canonT_small ht) (canonT_fuel hft), ob_some, sameT_self]
  · obtain ⟨er, he, hd⟩ := Do_64_bad (fu := fu) (s := setB 0 a1) ht hft hg (by omega)
    rw [hd, ob_some, if_neg he]
    rfl
end Go.Av
