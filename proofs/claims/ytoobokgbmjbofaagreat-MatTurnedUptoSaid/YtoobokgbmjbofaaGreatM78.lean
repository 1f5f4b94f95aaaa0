/- MatTurned: the law over the plain functions. Conditions: those that each names. -/
import Derived.Test.YtoobokgbmjbofaaGreatVV
import Derived.Test.YtoobokgbmjbofaaGreatQA
set_option linter.unusedVariables false
namespace Go.Av
theorem ten_of {t : T_Tensor} (h : Q_31 t) : Ten t ∧ t.fDims.length ≤ 1048576 ∧ t.fF.length ≤ 1048576 ∧ t.fI.length ≤ 1048576 ∧ t.fB.length ≤ 1048576 := by
  obtain ⟨_, h1, h2, h3, h4, _⟩ := h
  have l1 := h1.1; have l2 := h2.1; have l3 := h3.1; have l4 := h4.1
  refine ⟨⟨by omega, by omega, by omega, by omega, fun x hx => ?_⟩, l1, l2, l3, l4⟩
  have := h2.2 x hx
  simp [Lit.wf, IntKind.min, IntKind.max, IntKind.signed, IntKind.bits] at this
  omega
theorem tens_of {ts : List T_Tensor} {fu : Nat} (hf : 1200000 < fu) (h : ts.length ≤ 1048576 ∧ ∀ z0 ∈ ts, (Q_31 z0)) : Tens fu ts := by
  have hl := h.1
  refine ⟨hl, by omega, fun t ht => ?_⟩
  obtain ⟨a, b1, b2, b3, b4⟩ := ten_of (h.2 t ht)
  exact ⟨a, by omega, by omega, by omega, by omega⟩
theorem set0 {l : List T_Tensor} {z : T_Tensor} : l.set (0 : Int).toNat z = l.set 0 z := rfl
theorem set1 {l : List T_Tensor} {z : T_Tensor} : l.set (1 : Int).toNat z = l.set 1 z := rfl
theorem law_4 (a0 : T_Setting) (a1 : List T_Tensor) (w0 : Q_33 a0) (w1 : a1.length ≤ 1048576 ∧ ∀ z0 ∈ a1, (Q_31 z0)) : ∃ fu, law14_MatTurned fu a0 a1 = some true := by
  refine ⟨2000000 + 3, ?_⟩
  generalize hfu : (2000000 : Nat) = fu
  have hT : Tens (fu + 3) a1 := tens_of (by omega) w1
  have hl := hT.1
  have e : law14_MatTurned (fu + 3) a0 a1 = (mat_Do (fu + 3) 74 a0 a1).bind fun x3 => if x3.2 = 0 then (if (a1.length : Int) < 2 then (some (decide ((x3.1.fF.length : Int) = 0))) else law14_MatTurned.k1 (fu + 3) a0 a1 x3) else some (decide ((x3.1.fF.length : Int) = 0)) := rfl
  rw [e]
  rcases Do_tot (s := a0) hT (by omega) with ⟨er, he, hd⟩ | ⟨r, c, q, v, h⟩
  · rw [hd, ob_some, if_neg he]; rfl
  · obtain ⟨g1, g2⟩ := h.len
    rw [Do_ok hT h (by omega), ob_some, if_pos rfl, if_neg (by omega)]
    have x0 : at? a1 0 = some (gT a1 0) := by
      have h3 : at? a1 ((0 : Nat) : Int) = some a1[0] := at?_get (by omega)
      rw [show (0 : Int) = ((0 : Nat) : Int) from rfl, h3, ← gT_get]
    have x1 : at? a1 1 = some (gT a1 1) := by
      have h3 : at? a1 ((1 : Nat) : Int) = some a1[1] := at?_get (by omega)
      rw [show (1 : Int) = ((1 : Nat) : Int) from rfl, h3, ← gT_get]
    have t0 : Ten (gT a1 0) ∧ Fuel (fu + 3) (gT a1 0) := by rw [gT_get (show 0 < a1.length by omega)]; exact hT.2.2 _ (List.getElem_mem _)
    have t1 : Ten (gT a1 1) ∧ Fuel (fu + 3) (gT a1 1) := by rw [gT_get (show 1 < a1.length by omega)]; exact hT.2.2 _ (List.getElem_mem _)
    have u0 := turned_spec t0.1 t0.2 h.mx h.mx.g2.1 h.mx.g2.2 (by omega)
    have u1 := turned_spec t1.1 t1.2 h.my h.my.g2.1 h.my.g2.2 (by omega)
    have hT2 : Tens (fu + 3) (l2T a0 a1 r c q v) := by
      refine ⟨by rw [l2_len]; exact hl, by rw [l2_len]; omega, fun t ht => ?_⟩
      rcases l2_mem ht with h1 | h1 | h1
      · exact hT.2.2 t h1
      · subst h1; exact ⟨turn_ten t0.1 h.mx, turn_fuel h.mx (by omega)⟩
      · subst h1; exact ⟨turn_ten t1.1 h.my, turn_fuel h.my (by omega)⟩
    have K3 : law14_MatTurned.k3 (fu + 3) a0 (ansG a0 a1 r c q v, 0) (l2T a0 a1 r c q v) = some true := by
      have e3 : law14_MatTurned.k3 (fu + 3) a0 (ansG a0 a1 r c q v, 0) (l2T a0 a1 r c q v) = (mat_Do (fu + 3) 74 (sF a0) (l2T a0 a1 r c q v)).bind fun x7 => if x7.2 = 0 then ((ref05_Same (fu + 3) (ansG a0 a1 r c q v) x7.1).bind fun x8 => some x8) else some false := rfl
      obtain ⟨sm, sf⟩ := ans_small (fu := fu + 3) h (by omega)
      rw [e3, Do_ok hT2 (ok_turned h) (by omega), ob_some, if_pos rfl, ans_turned h, refSame_spec sm sf, ob_some, sameT_self]
    have K2 : ∀ b, law14_MatTurned.k2 (fu + 3) a0 a1 (ansG a0 a1 r c q v, 0) b (l1T a0 a1 r c) = some true := fun b => by
      have hl1 : (l1T a0 a1 r c).length = a1.length := l1_len
      rw [law14_MatTurned.k2, jn_at]
      unfold l2T at K3
      by_cases hB : a0.fTransB = true
      · rw [if_pos hB] at K3
        rw [if_pos hB, x1, ob_some, u1, ob_some, if_pos rfl, chk_pos (by omega), set1]
        exact K3
      · rw [if_neg hB] at K3
        rw [if_neg hB]
        exact K3
    rw [law14_MatTurned.k1, chk_pos (by omega), jn_at]
    unfold l1T at K2
    by_cases hA : a0.fTransA = true
    · rw [if_pos hA] at K2
      rw [if_pos hA, x0, ob_some, u0, ob_some, if_pos rfl, chk_pos (by omega), set0]
      exact K2 true
    · rw [if_neg hA] at K2
      rw [if_neg hA]
      exact K2 false
end Go.Av
