/- MovesParts: the law over the plain functions. Conditions: those that each names. -/
import Derived.Test.YtnpnomlnajgbcaaGreatVV
import Derived.Test.YtnpnomlnajgbcaaGreatQA
set_option linter.unusedVariables false
namespace Go.Av
theorem ten_of {t : T_Tensor} (h : Q_27 t) : Ten t := by
  obtain ⟨_, h1, h2, h3, h4, _⟩ := h
  have l1 := h1.1; have l2 := h2.1; have l3 := h3.1; have l4 := h4.1
  refine ⟨by omega, by omega, by omega, by omega, fun x hx => ?_⟩
  have := h2.2 x hx
  simp [Lit.wf, IntKind.min, IntKind.max, IntKind.signed, IntKind.bits] at this
  omega
def setA (a : Int) : T_Setting := T_Setting.mk a ([]) false false false false false ([]) false 0 0 0 false false false 0 0 false false 0 ([]) ([]) ([]) ([]) 0 false false 0 0 0 false (T_Tensor.mk 0 ([]) ([]) ([]) ([]))
theorem law_4 (a0 : T_Tensor) (a1 : Int) (a2 : List Int) (w0 : Q_27 a0) (w1 : (Lit.int .i64 a1).wf = true) (w2 : a2.length * 8 ≤ 140737488351232 ∧ ∀ z0 ∈ a2, ((Lit.int .i64 z0).wf = true)) : ∃ fu, law12_MovesParts fu a0 a1 a2 = some true := by
  refine ⟨a0.fDims.length + a0.fF.length + a0.fI.length + a0.fB.length + a2.length + 20000, ?_⟩
  generalize hfu : a0.fDims.length + a0.fF.length + a0.fI.length + a0.fB.length + a2.length + 20000 = fu
  have ht := ten_of w0
  have hft : Fuel fu a0 := ⟨by omega, by omega, by omega, by omega⟩
  have w2l := w2.1
  have e : law12_MovesParts fu a0 a1 a2 = (moves_Do fu 48 (setA a1) ([a0, lt a2]) (a2.length : Int)).bind fun x5 => if x5.2 = 0 then ((moves_Do fu 47 (setA a1) x5.1 1).bind fun x6 => if x6.2 = 0 then (if (x5.1.length : Int) = (a2.length : Int) then (if (x6.1.length : Int) = 1 then ((at? x6.1 0).bind fun x7 => (ref05_Canon fu a0).bind fun x8 => (ref05_Same fu x7 x8).bind fun x9 => some x9) else some false) else some false) else some false) else law12_MovesParts.k1 fu x5 := rfl
  rw [e]
  by_cases hg : a0.fType ≠ 0 ∧ checkV a0 = 0 ∧ ∃ k : Nat, axisV (setA a1).fAxis a0.fDims.length = some (k : Int) ∧ SpOK a0.fDims a2 k
  · obtain ⟨h0, hc, k, hk, h⟩ := hg
    obtain ⟨n, hn⟩ := Int.eq_ofNat_of_zero_le (prod_nonneg h.gd.2.1)
    rw [Do_48 ht hft h0 hc hk h hn (by omega), ob_some, if_pos rfl, Do_47 ht h0 hc hk h hn (by omega), ob_some, if_pos rfl, if_pos (by rw [parts_len]), if_pos (by simp)]
    show (some (canonT a0)).bind _ = _
    rw [ob_some, refCanon_spec ht (by omega), ob_some, refSame_spec (canonT_small ht) (canonT_fuel hft), ob_some, sameT_self]
  · obtain ⟨er, he, hd⟩ := Do_48_bad (fu := fu) (s := setA a1) ht hft (by omega) (by omega) hg (by omega)
    rw [hd, ob_some, if_neg he]
    rfl
end Go.Av
