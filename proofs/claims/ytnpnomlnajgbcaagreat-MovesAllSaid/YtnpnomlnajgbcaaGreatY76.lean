/- MovesAll: the law over the plain functions. Conditions: those that each names. -/
import Derived.Test.YtnpnomlnajgbcaaGreatVV
import Derived.Test.YtnpnomlnajgbcaaGreatQA
set_option linter.unusedVariables false
namespace Go.Av
theorem ten_of {t : T_Tensor} (h : Q_27 t) : Ten t := by
  obtain ⟨_, h1, h2, h3, h4, _⟩ := h
  have l1 := h1.1; have l2 := h2.1; have l3 := h3.1; have l4 := h4.1
  refine ⟨by omega, by omega, by omega, by omega, fun x hx => ?_⟩
  have := h2.2 x hx
  simp [Lit.wf, IntKind.min, IntKind.max, IntKind.signed, IntKind.bits] at this
  omega
theorem refAxis_spec {fu : Nat} {a : Int} {n : Nat} (hn : n ≤ 140737488351232) : ref04_Axis fu a (n : Int) = some (match axisV a n with | some k => (k, 0) | none => (0, 2)) := by
  unfold ref04_Axis jn ref04_Axis.k1 axisV
  rw [if_neg (by omega), wk_eq (x := 0 - (n : Int)) (by omega) (by omega)]
  by_cases h : 0 ≤ a
  · rw [if_neg (by omega), if_pos h, if_pos h]
    by_cases h1 : a < n
    · rw [if_pos h1, if_pos h1]
    · rw [if_neg h1, if_neg h1]
  · rw [if_pos (by omega), if_neg h, if_neg h]
    by_cases h1 : 0 - (n : Int) ≤ a
    · rw [if_pos h1, if_pos (show -(n : Int) ≤ a by omega), wk_eq (by omega) (by omega), Int.add_comm]
    · rw [if_neg h1, if_neg (show ¬ -(n : Int) ≤ a by omega)]
def setG (a : Int) : T_Setting := T_Setting.mk a ([]) false false false false false ([]) false 0 0 0 false false false 0 0 false false 0 ([]) ([]) ([]) ([]) 0 false false 0 0 0 false (T_Tensor.mk 0 ([]) ([]) ([]) ([]))
theorem all_loop {fu : Nat} {x : T_Tensor} {a : Int} {k n : Nat} (hd : x.fDims[k]? = some (n : Int)) (hn : n ≤ 4096) (hf : 5000 < fu) :
    law12_MovesAll.W1 fu x a ((k : Int), 0) [] 0 = law12_MovesAll.k2 fu x a (allL n) (allL n) := by
  unfold law12_MovesAll.W1
  have hz : (([] : List Int), (0 : Int)) = (fun j : Nat => (allL j, (j : Int))) 0 := rfl
  rw [hz]
  refine cloop_to n (fun j : Nat => (allL j, (j : Int))) _ ?_ ?_ (by omega)
  · intro j hj next hn2
    show law12_MovesAll.L1 fu x a ((k : Int), 0) (fun a b => next (a, b)) (allL j) (j : Int) = _
    unfold law12_MovesAll.L1
    show (at? x.fDims (k : Int)).bind _ = _
    rw [at?_nat, hd, ob_some, if_pos (by omega), chk_pos (by rw [allL_length]; omega), allL_succ, wk_succ (by omega)]
    exact hn2
  · intro next
    show law12_MovesAll.L1 fu x a ((k : Int), 0) (fun a b => next (a, b)) (allL n) (n : Int) = _
    unfold law12_MovesAll.L1
    show (at? x.fDims (k : Int)).bind _ = _
    rw [at?_nat, hd, ob_some, if_neg (by omega)]
theorem law_7 (a0 : T_Tensor) (a1 : Int) (w0 : Q_27 a0) (w1 : (Lit.int .i64 a1).wf = true) : ∃ fu, law12_MovesAll fu a0 a1 = some true := by
  refine ⟨a0.fDims.length + a0.fF.length + a0.fI.length + a0.fB.length + 20000, ?_⟩
  generalize hfu : a0.fDims.length + a0.fF.length + a0.fI.length + a0.fB.length + 20000 = fu
  have ht := ten_of w0
  have hft : Fuel fu a0 := ⟨by omega, by omega, by omega, by omega⟩
  have hd0 := ht.1
  have e : law12_MovesAll fu a0 a1 = (ref04_Axis fu a1 (a0.fDims.length : Int)).bind fun x3 => if x3.2 = 0 then ((ref05_Check fu a0).bind fun x16 => if x16 = 0 then (law12_MovesAll.W1 fu a0 a1 x3 ([] : List Int) 0) else some true) else some true := rfl
  rw [e, refAxis_spec (by omega), ob_some]
  cases hk : axisV a1 a0.fDims.length with
  | none => exact if_neg (by decide)
  | some k =>
    obtain ⟨k0, k1⟩ := axisV_rng hk
    obtain ⟨k, rfl⟩ := Int.eq_ofNat_of_zero_le k0
    show (ref05_Check fu a0).bind _ = _
    rw [refCheck_spec ht.small hft, ob_some]
    by_cases hc : checkV a0 = 0
    · rw [if_pos hc]
      obtain ⟨hkn, hg, hL⟩ := checkV_zero.1 hc
      have hkl : k < a0.fDims.length := by omega
      have hr := hg.2.1 _ (List.getElem_mem hkl)
      obtain ⟨n, hn⟩ := Int.eq_ofNat_of_zero_le hr.1
      have hd : a0.fDims[k]? = some (n : Int) := by rw [List.getElem?_eq_getElem hkl, hn]
      rw [hn] at hr
      rw [all_loop hd (by omega) (by omega)]
      unfold law12_MovesAll.k2
      have hl : law12_list fu (allL n) = some ⟨7, [(n : Int)], [], allL n, []⟩ := by
        unfold law12_list; rw [allL_length]
      rw [hl, ob_some]
      show (moves_Do fu 50 (setG a1) [a0, ⟨7, [(n : Int)], [], allL n, []⟩] 1).bind _ = _
      rw [Do_all (s := setG a1) ht hft hc hk hd (by omega), ob_some, if_pos rfl, if_pos (by simp)]
      show (some (canonT a0)).bind _ = _
      rw [ob_some, refCanon_spec ht (by omega), ob_some, refSame_spec (canonT_small ht) (canonT_fuel hft), ob_some, sameT_self]
    · rw [if_neg hc]
end Go.Av
