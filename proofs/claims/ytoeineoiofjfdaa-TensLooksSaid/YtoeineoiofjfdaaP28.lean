/- Layer 5: TensLooks: true. Conditions: those that each names. -/
import Derived.Test.YtoeineoiofjfdaaP27
set_option linter.unusedVariables false
namespace Go.Av
theorem softCanon_spec {fu : Nat} {x : Int} (h0 : 0 ≤ x) (h1 : x < 4294967296) : soft_Canon fu x = some (canonF x) := by
  unfold soft_Canon soft_NaN soft_Abs canonF
  rw [abs_u32 h0 h1, ob_some, ob_some]
  by_cases h : 2139095040 < x % 2147483648 <;> simp [h]
theorem refCanonF_spec {fu : Nat} {x : Int} (h0 : 0 ≤ x) : ref01_Canon fu x = some (canonF x) := by
  unfold ref01_Canon ref01_IsNone ref01_Abs canonF
  rw [Int.tmod_eq_emod_of_nonneg h0, ob_some, ob_some]
  by_cases h : 2139095040 < x % 2147483648 <;> simp [h]
theorem Copy_spec {fu : Nat} {t : T_Tensor} (h : Q_42 t) : tens_Copy fu t = some t := by
  obtain ⟨_, h1, h2, h3, h4, _⟩ := h
  have := h1.1; have := h2.1; have := h3.1; have := h4.1
  unfold tens_Copy tens_own_int tens_own_uint32 tens_own_int64 tens_own_bool
  rw [chk_pos (by omega), ob_some, chk_pos (by omega), ob_some, chk_pos (by omega), ob_some, chk_pos (by omega), ob_some]
theorem u32_of {t : T_Tensor} (h : Q_42 t) : ∀ x ∈ t.fF, 0 ≤ x ∧ x < 4294967296 := fun x hx => by
  have := h.2.2.1.2 x hx
  simp [Lit.wf, IntKind.min, IntKind.max, IntKind.signed, IntKind.bits] at this
  omega
theorem Canon_spec {fu : Nat} {t : T_Tensor} (h : Q_42 t) (hf : t.fF.length < fu) : tens_Canon fu t = some (canonT t) := by
  have hu := u32_of h
  have hl := h.2.2.1.1
  unfold tens_Canon
  rw [Copy_spec h, ob_some]
  unfold tens_Canon_W1
  refine map_loop (f := canonF) (c := fun m => some (T_Tensor.mk t.fType t.fDims m t.fI t.fB)) hf ?_ ?_
  · intro next k m hk hm hg
    unfold tens_Canon_L1
    simp only []
    obtain ⟨u1, u2⟩ := hu _ (List.getElem_mem hk)
    rw [if_pos (by omega), at?_nat, hg, ob_some, softCanon_spec u1 u2, ob_some, chk_pos (by omega), wk_succ (by omega)]
    rfl
  · intro next m hm
    unfold tens_Canon_L1
    rw [if_neg (by simp)]
theorem refCanon_spec {fu : Nat} {t : T_Tensor} (h : Q_42 t) (hf : t.fF.length < fu) : ref05_Canon fu t = some (canonT t) := by
  have hu := u32_of h
  have hl := h.2.2.1.1
  unfold ref05_Canon
  rw [refCopy_spec h, ob_some]
  unfold ref05_Canon_W1
  refine map_loop (f := canonF) (c := fun m => some (T_Tensor.mk t.fType t.fDims m t.fI t.fB)) hf ?_ ?_
  · intro next k m hk hm hg
    unfold ref05_Canon_L1
    simp only []
    obtain ⟨u1, u2⟩ := hu _ (List.getElem_mem hk)
    rw [if_pos (by omega), at?_nat, hg, ob_some, refCanonF_spec u1, ob_some, chk_pos (by omega), wk_succ (by omega)]
    rfl
  · intro next m hm
    unfold ref05_Canon_L1
    rw [if_neg (by simp only []; omega)]
theorem law_10 (a0 : T_Tensor) (a1 : T_Tensor) (w0 : Q_42 a0) (w1 : Q_42 a1) : ∃ fu, law05_TensLooks fu a0 a1 = some true := by
  refine ⟨a0.fDims.length + a0.fF.length + a0.fI.length + a0.fB.length + a1.fDims.length + a1.fF.length + a1.fI.length + a1.fB.length + 10, ?_⟩
  generalize hfu : a0.fDims.length + a0.fF.length + a0.fI.length + a0.fB.length + a1.fDims.length + a1.fF.length + a1.fI.length + a1.fB.length + 10 = fu
  have hs := small_of w0
  have hs1 := small_of w1
  have hf : Fuel fu a0 := ⟨by omega, by omega, by omega, by omega⟩
  have hf1 : Fuel fu a1 := ⟨by omega, by omega, by omega, by omega⟩
  obtain ⟨s1, s2, s3, s4⟩ := id hs
  obtain ⟨f1, f2, f3, f4⟩ := id hf
  have hcs : Small (canonT a0) := ⟨s1, by simp [canonT]; omega, s3, s4⟩
  have hcf : Fuel fu (canonT a0) := ⟨f1, by simpa [canonT] using f2, f3, f4⟩
  unfold law05_TensLooks
  rw [refCopy_spec w0, ob_some, Copy_spec w0, ob_some, Canon_spec w0 f2, ob_some, refSame_spec hs hf, ob_some, sameB_self, if_pos rfl, refCanon_spec w0 f2, ob_some, refSame_spec hcs hcf, ob_some, sameB_self]
  generalize hct : canonT a0 = ct at hcs hcf
  obtain ⟨c1, c2, c3, c4⟩ := id hcs
  obtain ⟨d1, d2, d3, d4⟩ := id hcf
  unfold law05_TensLooks_k1 law05_TensLooks_W8
  refine spoil_loop (n := a0.fDims.length) (fun x => bxor .i64 x 64) rfl (by omega) (by omega) (c := fun m => law05_TensLooks_k2 fu a0 a1 a0 a0 ct true m) (fun next s => rfl) fun m1 l1 => ?_
  unfold law05_TensLooks_k2 law05_TensLooks_W7
  refine spoil_loop (n := a0.fF.length) (fun x => bxor .u32 x 1) rfl (by omega) (by omega) (c := fun m => law05_TensLooks_k3 fu a0 a1 a0 a0 ct true m1 m) (fun next s => rfl) fun m2 l2 => ?_
  unfold law05_TensLooks_k3 law05_TensLooks_W6
  refine spoil_loop (n := a0.fI.length) (fun x => bxor .i64 x 1) rfl (by omega) (by omega) (c := fun m => law05_TensLooks_k4 fu a0 a1 a0 a0 ct true m1 m2 m) (fun next s => rfl) fun m3 l3 => ?_
  unfold law05_TensLooks_k4 law05_TensLooks_W1
  refine spoil_loop (n := a0.fB.length) (fun x => !x) rfl (by omega) (by omega) (c := fun m => chk (a0.fDims.length = m1.length) <| chk (a0.fF.length = m2.length) <| chk (a0.fI.length = m3.length) <| chk (a0.fB.length = m.length) <| law05_TensLooks_W5 fu a0 a1 a0 ct true ct.fDims 0) (fun next s => rfl) fun m4 l4 => ?_
  rw [chk_pos l1.symm, chk_pos l2.symm, chk_pos l3.symm, chk_pos l4.symm]
  unfold law05_TensLooks_W5
  refine spoil_loop (n := ct.fDims.length) (fun x => bxor .i64 x 64) rfl (by omega) (by omega) (c := fun m => law05_TensLooks_k5 fu a0 a1 a0 ct true m) (fun next s => rfl) fun m5 l5 => ?_
  unfold law05_TensLooks_k5 law05_TensLooks_W4
  refine spoil_loop (n := ct.fF.length) (fun x => bxor .u32 x 1) rfl (by omega) (by omega) (c := fun m => law05_TensLooks_k6 fu a0 a1 a0 ct true m5 m) (fun next s => rfl) fun m6 l6 => ?_
  unfold law05_TensLooks_k6 law05_TensLooks_W3
  refine spoil_loop (n := ct.fI.length) (fun x => bxor .i64 x 1) rfl (by omega) (by omega) (c := fun m => law05_TensLooks_k7 fu a0 a1 a0 ct true m5 m6 m) (fun next s => rfl) fun m7 l7 => ?_
  unfold law05_TensLooks_k7 law05_TensLooks_W2
  refine spoil_loop (n := ct.fB.length) (fun x => !x) rfl (by omega) (by omega) (R := some true) (c := fun m => chk (ct.fDims.length = m5.length) <| chk (ct.fF.length = m6.length) <| chk (ct.fI.length = m7.length) <| chk (ct.fB.length = m.length) <| (ref05_Same fu a0 a0).bind fun x23 => if true = true then (if x23 = true then ((tens_Check fu a0).bind fun x24 => (ref05_Check fu a0).bind fun x25 => if x24 = x25 then ((tens_Check fu a1).bind fun x26 => (ref05_Check fu a1).bind fun x27 => if x26 = x27 then ((tens_Same fu a0 a1).bind fun x28 => (ref05_Same fu a0 a1).bind fun x29 => if (x28 == x29) = true then ((tens_Same fu a0 a0).bind fun x30 => if x30 = true then ((ref05_Copy fu a1).bind fun x31 => (tens_Same fu a1 x31).bind fun x32 => some x32) else some false) else some false) else some false) else some false) else some false) else some false) (fun next s => rfl) fun m8 l8 => ?_
  rw [chk_pos l5.symm, chk_pos l6.symm, chk_pos l7.symm, chk_pos l8.symm, refSame_spec hs hf, ob_some, sameB_self, if_pos rfl, if_pos rfl, Check_spec hs hf, ob_some, refCheck_spec hs hf, ob_some, if_pos rfl, Check_spec hs1 hf1, ob_some, refCheck_spec hs1 hf1, ob_some, if_pos rfl,
    Same_spec hs hf, ob_some, refSame_spec hs hf, ob_some, if_pos (by simp), Same_spec hs hf, ob_some, sameB_self, if_pos rfl, refCopy_spec w1, ob_some, Same_spec hs1 hf1, ob_some, sameB_self]
end Go.Av
