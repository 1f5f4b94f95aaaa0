/- MovesTurn: the law over the plain functions. Conditions: those that each names. -/
import Derived.Test.YtnpnomlnajgbcaaGreatVV
import Derived.Test.YtnpnomlnajgbcaaGreatQA
set_option linter.unusedVariables false
namespace Go.Av
theorem ten_of {t : T_Tensor} (h : Q_27 t) : Ten t := by
  obtain ⟨_, h1, h2, h3, h4, _⟩ := h
  have l1 := h1.1; have l2 := h2.1; have l3 := h3.1; have l4 := h4.1
  refine ⟨by omega, by omega, by omega, by omega, fun x hx => ?_⟩
  have := h2.2 x hx
  simp [Lit.wf, IntKind.min, IntKind.max, IntKind.signed, IntKind.bits] at this
  omega
def setP (p : List Int) : T_Setting := T_Setting.mk 0 ([]) false false false false false p true 0 0 0 false false false 0 0 false false 0 ([]) ([]) ([]) ([]) 0 false false 0 0 0 false (T_Tensor.mk 0 ([]) ([]) ([]) ([]))
theorem back_loop {fu : Nat} {x : T_Tensor} {p : List Int} {n : Nat} {x3 : List T_Tensor × Int} (hp : PermOK p n) (hn : n ≤ 8) (hf : 100 < fu) :
    law12_MovesTurn.W1 fu x p x3 (List.replicate p.length 0) 0 = law12_MovesTurn.k1 fu x x3 (backL p n) := by
  have hl := hp.len
  unfold law12_MovesTurn.W1
  have hz : (List.replicate p.length (0 : Int), (0 : Int)) = (fun k : Nat => (backL p k, (k : Int))) 0 := rfl
  rw [hz]
  refine cloop_to n (fun k : Nat => (backL p k, (k : Int))) _ ?_ ?_ (by omega)
  · intro k hk next hn2
    show law12_MovesTurn.L1 fu x p x3 (fun a b => next (a, b)) (backL p k) (k : Int) = _
    have hr := hp.get hk
    have hkp : k < p.length := by omega
    unfold law12_MovesTurn.L1
    rw [if_pos (by omega), at?_get hkp, ob_some, chk_pos (by rw [← gI_get hkp, backL_length]; omega), wk_succ (by omega), ← gI_get hkp]
    exact hn2
  · intro next
    show law12_MovesTurn.L1 fu x p x3 (fun a b => next (a, b)) (backL p n) (n : Int) = _
    unfold law12_MovesTurn.L1
    rw [if_neg (by omega)]
theorem law_3 (a0 : T_Tensor) (a1 : List Int) (w0 : Q_27 a0) (w1 : a1.length * 8 ≤ 140737488351232 ∧ ∀ z0 ∈ a1, ((Lit.int .i64 z0).wf = true)) : ∃ fu, law12_MovesTurn fu a0 a1 = some true := by
  refine ⟨a0.fDims.length + a0.fF.length + a0.fI.length + a0.fB.length + a1.length + 20000, ?_⟩
  generalize hfu : a0.fDims.length + a0.fF.length + a0.fI.length + a0.fB.length + a1.length + 20000 = fu
  have ht := ten_of w0
  have hft : Fuel fu a0 := ⟨by omega, by omega, by omega, by omega⟩
  have w1l := w1.1
  have e : law12_MovesTurn fu a0 a1 = (moves_Do fu 45 (setP a1) ([a0]) 1).bind fun x3 => if x3.2 = 0 then (chk (0 ≤ (a1.length : Int) ∧ (a1.length : Int) * 8 ≤ 140737488355328) <| law12_MovesTurn.W1 fu a0 a1 x3 (List.replicate (a1.length : Int).toNat (0 : Int)) 0) else law12_MovesTurn.k2 fu x3 := rfl
  rw [e]
  by_cases hg : a0.fType ≠ 0 ∧ checkV a0 = 0 ∧ PermOK (setP a1).fPerm a0.fDims.length
  · obtain ⟨h0, hc, hp⟩ := hg
    have hp1 : PermOK a1 a0.fDims.length := hp
    obtain ⟨s1, s2, s3, s4⟩ := len_small hc
    have hcc : checkV (canonT a0) = 0 := by rw [canonT_check]; exact hc
    have hpc : PermOK a1 (canonT a0).fDims.length := hp
    rw [Do_good ht hft h0 hc hp rfl (by show a1.length ≤ _; omega) (by show a1.length + 6000 < fu; omega), ob_some, if_pos rfl, chk_pos (by omega), Int.toNat_natCast, back_loop hp1 s1 (by omega)]
    unfold law12_MovesTurn.k1
    have hb := backL_is hp1
    have hbl := hb.len
    have t1 := turn_ten ht hcc hpc
    obtain ⟨y1, y2⟩ := turn_type hcc hpc
    have c1 := turn_check hcc hpc
    obtain ⟨r1, r2, r3, r4⟩ := len_small c1
    have hbp : PermOK (backL a1 a0.fDims.length) (turnT a1 (canonT a0)).fDims.length := by
      rw [y2, act_length, hp1.len]; exact hb.perm hp1
    have hd := Do_good (fu := fu) (s := setP (backL a1 a0.fDims.length)) (t := turnT a1 (canonT a0)) t1 ⟨by omega, by omega, by omega, by omega⟩ (by rw [y1]; exact h0) c1 hbp rfl (by show (backL a1 a0.fDims.length).length ≤ _; omega) (by show (backL a1 a0.fDims.length).length + 6000 < fu; omega)
    show (moves_Do fu 45 (setP (backL a1 a0.fDims.length)) [turnT a1 (canonT a0)] 1).bind _ = _
    rw [hd, ob_some, if_pos rfl, if_pos (by simp)]
    show (some (turnT (backL a1 a0.fDims.length) (canonT (turnT a1 (canonT a0))))).bind _ = _
    have hbc : IsBack a1 (backL a1 a0.fDims.length) (canonT a0).fDims.length := hb
    rw [ob_some, refCanon_spec ht (by omega), ob_some, turn_canon hcc hpc, turn_turn hcc hpc hbc, refSame_spec (canonT_small ht) (canonT_fuel hft), ob_some, sameT_self]
  · obtain ⟨er, he, hd⟩ := Do_bad (fu := fu) (s := setP a1) ht hft hg rfl (by show a1.length ≤ _; omega) (by show a1.length + 6000 < fu; omega)
    rw [hd, ob_some, if_neg he]
    rfl
end Go.Av
