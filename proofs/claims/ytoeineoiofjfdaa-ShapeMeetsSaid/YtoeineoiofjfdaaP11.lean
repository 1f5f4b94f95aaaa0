/- ShapePlaces: true. Conditions: those that each names. -/
import Derived.Test.YtoeineoiofjfdaaP10
set_option linter.unusedVariables false
namespace Go.Av
def Lend (l : List Int) : Prop := l.length * 8 ≤ 140737488351232
theorem lend0 {l : List Int} (h : Lend l) : (l.length : Int) * 8 ≤ 140737488355328 := by unfold Lend at h; omega
theorem lend1 {l : List Int} (h : Lend l) : ((l.length : Int) + 2) * 8 ≤ 140737488355328 := by unfold Lend at h; omega
theorem lend2 {l : List Int} : 0 ≤ (l.length : Int) ∧ (l.length : Int) ≤ ((l.length + 2 : Nat) : Int) := by omega
theorem lendS {l : List Int} (h : Lend l) : Short l := by unfold Lend at h; unfold Short; omega
theorem lw2 {l : List Int} (h : Lend l) : wk .i64 ((l.length : Int) + 2) = ((l.length + 2 : Nat) : Int) := by unfold Lend at h; rw [wk_eq (by omega) (by omega)]; omega
theorem lw1 {l : List Int} (h : Lend l) : wk .i64 ((l.length : Int) + 1) = ((l.length + 1 : Nat) : Int) := by unfold Lend at h; rw [wk_eq (by omega) (by omega)]; omega
theorem tail0 (l : List Int) : at? (l ++ [991, 992]) (l.length : Int) = some 991 := by rw [at?_nat]; simp
theorem tail1 (l : List Int) : at? (l ++ [991, 992]) ((l.length + 1 : Nat) : Int) = some 992 := by rw [at?_nat]; simp
theorem dec_self {a : List Int} : decide (a = a) = true := by simp
theorem Places_law {fu : Nat} {l xs : List Int} {a : Int} (hl : Lend l) (hx : Lend xs) (hf : l.length < fu) (hf2 : xs.length < fu) : law04_ShapePlaces fu l a xs = some true := by
  have sl := lendS hl
  have sx := lendS hx
  have c1 : ∀ l : List Int, (if Good l then (strdW l, (0 : Int)) else ([], errS l)).1.length ≤ l.length := fun l => by
    split <;> simp [strdW_length]
  have c2 : (indexV l a).1.length ≤ l.length := by
    unfold indexV
    split
    · split <;> simp [idxV_length]
    · simp
  have g1 : (0 : Int) ≤ ((l.length + 2 : Nat) : Int) ∧ ((l.length + 2 : Nat) : Int) ≤ ((l.length + 2 : Nat) : Int) := by omega
  have g2 : (0 : Int) ≤ ((xs.length + 2 : Nat) : Int) ∧ ((xs.length + 2 : Nat) : Int) ≤ ((xs.length + 2 : Nat) : Int) := by omega
  have i1 : 0 ≤ (l.length : Int) ∧ (l.length : Int) < ((l.length + 2 : Nat) : Int) := by omega
  have i2 : 0 ≤ (xs.length : Int) ∧ (xs.length : Int) < ((xs.length + 2 : Nat) : Int) := by omega
  have j1 : 0 ≤ ((l.length + 1 : Nat) : Int) ∧ ((l.length + 1 : Nat) : Int) < ((l.length + 2 : Nat) : Int) := by omega
  have j2 : 0 ≤ ((xs.length + 1 : Nat) : Int) ∧ ((xs.length + 1 : Nat) : Int) < ((xs.length + 2 : Nat) : Int) := by omega
  have d1 := c1 l
  unfold Short at sl
  unfold law04_ShapePlaces
  rw [chk_pos (lend0 hl), chk_pos (lend1 hl), chk_pos lend2, chk_pos (lend0 hx), chk_pos (lend1 hx), chk_pos lend2]
  rw [Size_spec sl hf, ob_some, refSize_spec sl hf, ob_some, Strides_spec sl hf, ob_some, refStrides_spec sl hf, ob_some, Index_spec sl hf, ob_some, refIndex_spec sl hf, ob_some, Offset_spec sl hf, ob_some, refOffset_spec sl hf, ob_some]
  rw [if_pos rfl, if_pos rfl, SameInts_spec (by unfold Short; omega) (by omega), ob_some, if_pos dec_self, if_pos rfl, SameInts_spec (by unfold Short; omega) (by omega), ob_some, if_pos dec_self, if_pos rfl, if_pos rfl, if_pos rfl]
  rw [lw2 hl, lw2 hx, lw1 hl, lw1 hx, Int.toNat_natCast, Int.toNat_natCast, chk_pos g1, SameInts_spec sl hf, ob_some, if_pos dec_self, chk_pos i1, tail0, ob_some, if_pos rfl, chk_pos j1, tail1, ob_some, if_pos rfl]
  rw [chk_pos g2, SameInts_spec sx hf2, ob_some, if_pos dec_self, chk_pos i2, tail0, ob_some, if_pos rfl, chk_pos j2, tail1, ob_some]
  rfl
end Go.Av
