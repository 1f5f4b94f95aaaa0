/- ReduceBest: the law over the plain functions. Conditions: those that each names. -/
import Derived.Test.YtebfneaimafcoaaGreatVV
import Derived.Test.YtebfneaimafcoaaGreatQA
set_option linter.unusedVariables false
namespace Go.Av
theorem ten_of {t : T_Tensor} (h : Q_31 t) : Ten t := by
  obtain ⟨_, h1, h2, h3, h4, _⟩ := h
  have l1 := h1.1; have l2 := h2.1; have l3 := h3.1; have l4 := h4.1
  refine ⟨by omega, by omega, by omega, by omega, fun x hx => ?_⟩
  have := h2.2 x hx
  simp [Lit.wf, IntKind.min, IntKind.max, IntKind.signed, IntKind.bits] at this
  omega
theorem law_5 (a0 : T_Tensor) (a1 : Bool) (w0 : Q_31 a0) : ∃ fu, law13_ReduceBest fu a0 a1 = some true := by
  refine ⟨a0.fDims.length + a0.fF.length + a0.fI.length + a0.fB.length + 20000, ?_⟩
  generalize hfu : a0.fDims.length + a0.fF.length + a0.fI.length + a0.fB.length + 20000 = fu
  have ht := ten_of w0
  have hft : Fuel fu a0 := ⟨by omega, by omega, by omega, by omega⟩
  unfold law13_ReduceBest jn
  rw [refCheck_spec ht.small hft, ob_some]
  by_cases hc : checkV a0 = 0
  · rw [if_pos hc]
    obtain ⟨hkn, hg, l1, l2, l3⟩ := checkV_zero.1 hc
    by_cases h7 : a0.fType = 7
    · rw [if_pos h7]
      rw [h7] at l1 l2 l3
      rw [if_neg (by decide)] at l1 l3
      rw [if_pos rfl] at l2
      have hn : a0.fI.length ≤ 4096 := by have := hg.2.2; omega
      by_cases h0 : (a0.fI.length : Int) = 0
      · rw [if_pos h0]
      · rw [if_neg h0]
        have hne : a0.fI ≠ [] := fun h => h0 (by rw [h]; rfl)
        have hpos : 0 < a0.fI.length := List.length_pos_iff.2 hne
        have hF : a0.fF = [] := List.length_eq_zero_iff.1 (by omega)
        have hB : a0.fB = [] := List.length_eq_zero_iff.1 (by omega)
        unfold law13_ReduceBest.k1 jn
        have hcp : ref05_Copy fu a0 = some a0 := by
          obtain ⟨q1, q2, q3, q4, _⟩ := ht
          unfold ref05_Copy
          rw [chk_pos (by omega), chk_pos (by omega), chk_pos (by omega), chk_pos (by omega)]
        rw [hcp, ob_some, h7, hF, hB]
        have hD := Do_arg (fu := fu) (s := T_Setting.mk 0 ([]) false false false a1 false ([]) false 0 0 0 false false false 0 0 false false 0 ([]) ([]) ([]) ([]) 0 false false 0 0 0 false (T_Tensor.mk 0 ([]) ([]) ([]) ([]))) hne hn rfl rfl (by omega)
        obtain ⟨hb, hall⟩ := best_ok (last := a1) (I := a0.fI) a0.fI.length hpos
        show (reduce_Do fu 70 _ [rowT a0.fI]).bind _ = _
        rw [hD, ob_some]
        generalize bestN a1 a0.fI a0.fI.length = b at *
        rw [if_pos rfl, if_pos (by simp)]
        show (some (b : Int)).bind _ = _
        rw [ob_some, if_neg (by omega), if_neg (by omega)]
        unfold law13_ReduceBest.k2
        show (some (b : Int)).bind _ = _
        rw [ob_some, iG_get hb, ob_some]
        unfold law13_ReduceBest.W1
        refine cloop_up (body := fun next s1 => law13_ReduceBest.L1 fu a0 (b : Int) (iG a0.fI b) (fun x8 x9 => next (x8, x9)) s1.1 s1.2) a0.fI.length (fun _ => a1) _ ?_ ?_ (by omega)
        · intro k hk next hn2
          show law13_ReduceBest.L1 fu a0 (b : Int) (iG a0.fI b) _ a1 (k : Int) = _
          unfold law13_ReduceBest.L1
          obtain ⟨p1, p2⟩ := hall k hk
          rw [if_pos (by omega), iG_get hk, ob_some, if_neg (by omega), wk_succ (by omega)]
          by_cases he : iG a0.fI k = iG a0.fI b
          · rw [if_pos he]
            have := p2 he
            cases a1 with
            | true =>
              rw [if_pos rfl] at this
              rw [if_pos rfl, if_neg (by omega)]; exact hn2
            | false =>
              rw [if_neg (by decide)] at this
              rw [if_neg (by decide), if_neg (by omega)]; exact hn2
          · rw [if_neg he]; exact hn2
        · intro next
          show law13_ReduceBest.L1 fu a0 (b : Int) (iG a0.fI b) _ a1 (a0.fI.length : Int) = _
          unfold law13_ReduceBest.L1
          rw [if_neg (by omega)]
    · rw [if_neg h7]
  · rw [if_neg hc]
end Go.Av
