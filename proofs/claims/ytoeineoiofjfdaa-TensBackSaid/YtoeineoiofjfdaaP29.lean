/- Layer 5: TensBack: true. Conditions: those that each names. -/
import Derived.Test.YtoeineoiofjfdaaP27
import Derived.Test.YtoeineoiofjfdaaP25
set_option linter.unusedVariables false
namespace Go.Av
theorem flat_grp {α : Type} {f : α → List Int} {w : Nat} (hw : ∀ x, (f x).length = w) : ∀ (l : List α) (i : Nat) (h : i < l.length), grp w (l.flatMap f) i = f l[i]
  | [], i, h => by simp at h
  | x :: l, 0, h => by
    unfold grp
    rw [Nat.zero_mul, List.drop_zero, List.flatMap_cons, List.take_append_of_le_length (by rw [hw]; omega)]
    exact List.take_of_length_le (by rw [hw]; omega)
  | x :: l, i + 1, h => by
    have := flat_grp hw l i (by simpa using h)
    unfold grp at this ⊢
    rw [List.flatMap_cons, Nat.succ_mul, Nat.add_comm, ← List.drop_drop, List.drop_append_of_le_length (show w ≤ (f x).length by rw [hw]; omega), List.drop_of_length_le (show (f x).length ≤ w by rw [hw]; omega), List.nil_append, this]
    rfl
theorem back_list {α : Type} {f : α → List Int} {w : Nat} (hw : ∀ x, (f x).length = w) {l : List α} {β : Type} {g : Int → β} {h : α → β} (hg : ∀ x ∈ l, g (leN (f x)) = h x) {n : Nat} (hn : l.length = n) : (idx n).map (fun a => g (leN (grp w (l.flatMap f) a.toNat))) = l.map h := by
  subst hn
  refine List.ext_getElem (by simp [idx]) fun i h1 h2 => ?_
  have hi : i < l.length := by simpa [idx] using h1
  simp only [List.getElem_map, idx, List.getElem_range, Int.toNat_natCast]
  rw [flat_grp hw l i hi]
  exact hg _ (List.getElem_mem hi)
theorem byts_flat {α : Type} {f : α → List Int} (hf : ∀ x, Byts (f x)) (l : List α) : Byts (l.flatMap f) := fun b hb => by
  obtain ⟨x, _, h⟩ := List.mem_flatMap.1 hb
  exact hf x b h
theorem bytesL_byts (t : T_Tensor) : Byts (bytesL t) := by
  intro b hb
  unfold bytesL at hb
  rcases List.mem_append.1 hb with hb | hb
  · rcases List.mem_append.1 hb with hb | hb
    · exact byts_flat (fun x => leB_range _ _) _ b hb
    · exact byts_flat (fun x => leB_range _ _) _ b hb
  · exact byts_flat (fun x => leB_range _ _) _ b hb
theorem wk_i64_u64 {x : Int} (h1 : -9223372036854775808 ≤ x) (h2 : x < 9223372036854775808) : wk .i64 (wk .u64 x) = x := by rw [wk_u64, wk_val]; omega
theorem from_bytes {t : T_Tensor} (h : Q_42 t) (hc : checkV t = 0) : fromV t.fType t.fDims (bytesL t) = (t, 0) ∧ ((bytesL t).length : Int) = prod t.fDims * widthV t.fType := by
  obtain ⟨hk, hg, l1, l2, l3⟩ := checkV_zero.1 hc
  obtain ⟨_, q1, q2, q3, q4, _⟩ := h
  have hpn := prod_nonneg hg.2.1
  have hn : (newV t.fType t.fDims).2 = 0 := by
    unfold newV
    rw [if_pos (show t.fType = 1 ∨ t.fType = 7 ∨ t.fType = 9 from hk), if_pos hg]
    split
    · rfl
    · split <;> rfl
  obtain ⟨ty, d, F, I, B⟩ := t
  simp only at hk hg l1 l2 l3 q1 q2 q3 q4 hn hpn ⊢
  rcases hk with e | e | e
  · subst e
    simp only [if_true, show ¬ (1 : Int) = 7 by decide, show ¬ (1 : Int) = 9 by decide, if_false] at l1 l2 l3
    have hI : I = [] := List.eq_nil_of_length_eq_zero (by omega)
    have hB : B = [] := List.eq_nil_of_length_eq_zero (by omega)
    subst hI hB
    have hb : bytesL ⟨1, d, F, [], []⟩ = F.flatMap bF := by simp [bytesL]
    rw [hb]
    have hlen : ((F.flatMap bF).length : Int) = prod d * widthV 1 := by
      rw [flatMap_len bF_len]
      simp only [widthV, if_true]
      omega
    refine ⟨?_, hlen⟩
    unfold fromV
    rw [if_pos hn, if_pos hlen, if_pos rfl, back_list (f := bF) bF_len (g := wk .u32) (h := id) ?_ (by omega), List.map_id]
    intro x hx
    have := q2.2 x hx
    simp [Lit.wf, IntKind.min, IntKind.max, IntKind.signed, IntKind.bits] at this
    unfold bF
    rw [leN_leB, wk_u64, wk_u32, show (256 : Int) ^ 4 = 4294967296 by decide]
    simp only [id]
    omega
  · subst e
    simp only [if_true, show ¬ (7 : Int) = 1 by decide, show ¬ (7 : Int) = 9 by decide, if_false] at l1 l2 l3
    have hF : F = [] := List.eq_nil_of_length_eq_zero (by omega)
    have hB : B = [] := List.eq_nil_of_length_eq_zero (by omega)
    subst hF hB
    have hb : bytesL ⟨7, d, [], I, []⟩ = I.flatMap bI := by simp [bytesL]
    rw [hb]
    have hlen : ((I.flatMap bI).length : Int) = prod d * widthV 7 := by
      rw [flatMap_len bI_len]
      simp only [widthV, if_true, show ¬ (7 : Int) = 1 by decide, if_false]
      omega
    refine ⟨?_, hlen⟩
    unfold fromV
    rw [if_pos hn, if_pos hlen, if_neg (by decide), if_pos rfl, back_list (f := bI) bI_len (g := wk .i64) (h := id) ?_ (by omega), List.map_id]
    intro x hx
    have := q3.2 x hx
    simp [Lit.wf, IntKind.min, IntKind.max, IntKind.signed, IntKind.bits] at this
    unfold bI
    rw [leN_leB, show (256 : Int) ^ 8 = 18446744073709551616 by decide, Int.emod_eq_of_lt (u64_nonneg _) (by rw [wk_u64]; omega), wk_i64_u64 (by omega) (by omega)]
    rfl
  · subst e
    simp only [if_true, show ¬ (9 : Int) = 1 by decide, show ¬ (9 : Int) = 7 by decide, if_false] at l1 l2 l3
    have hF : F = [] := List.eq_nil_of_length_eq_zero (by omega)
    have hI : I = [] := List.eq_nil_of_length_eq_zero (by omega)
    subst hF hI
    have hb : bytesL ⟨9, d, [], [], B⟩ = B.flatMap bB := by simp [bytesL]
    rw [hb]
    have hlen : ((B.flatMap bB).length : Int) = prod d * widthV 9 := by
      rw [flatMap_len bB_len]
      simp only [widthV, if_true, show ¬ (9 : Int) = 1 by decide, show ¬ (9 : Int) = 7 by decide, if_false]
      omega
    refine ⟨?_, hlen⟩
    have hval : ∀ x : Bool, leN (bB x) = if x = true then 1 else 0 := fun x => by cases x <;> rfl
    unfold fromV
    rw [if_pos hn, if_pos hlen, if_neg (by decide), if_neg (by decide), if_neg ?_, back_list (f := bB) bB_len (g := fun z => decide (z = 1)) (h := id) ?_ (by omega), List.map_id]
    · intro x hx
      rw [hval]
      cases x <;> rfl
    · rw [Bool.not_eq_true, List.any_eq_false]
      intro a ha
      obtain ⟨i, hi, rfl⟩ := List.mem_map.1 ha
      have hi' : i < B.length := by have := List.mem_range.1 hi; omega
      rw [Int.toNat_natCast, flat_grp bB_len B i hi', hval]
      cases B[i] <;> decide
theorem law_11 (a0 : T_Tensor) (w0 : Q_42 a0) : ∃ fu, law05_TensBack fu a0 = some true := by
  refine ⟨a0.fDims.length + a0.fF.length + a0.fI.length + a0.fB.length + 5000, ?_⟩
  generalize hfu : a0.fDims.length + a0.fF.length + a0.fI.length + a0.fB.length + 5000 = fu
  have hs := small_of w0
  have hf : Fuel fu a0 := ⟨by omega, by omega, by omega, by omega⟩
  have sd : Short a0.fDims := by have := hs.1; unfold Short; omega
  unfold law05_TensBack
  rw [Bytes_spec hs hf (by omega), ob_some]
  by_cases hc : checkV a0 = 0
  · obtain ⟨b1, b2⟩ := from_bytes w0 hc
    obtain ⟨hk, hg, _⟩ := checkV_zero.1 hc
    have hv := valid_lens hc
    have hbl : (bytesL a0).length ≤ 65536 := by
      simp only [bytesL, List.length_append, flatMap_len bF_len, flatMap_len bI_len, flatMap_len bB_len]
      omega
    have hb : bytesV a0 = (bytesL a0, 0) := by unfold bytesV; rw [if_pos hc]
    rw [hb]
    simp only [if_true]
    rw [FromBytes_spec sd (by omega) (bytesL_byts a0) (by omega) (by omega), ob_some, refSize_spec sd (by omega), ob_some, b1]
    simp only [sizeV, if_pos hg, if_true]
    rw [Same_spec hs hf, ob_some, sameB_self, if_pos rfl, Width_eq, ob_some]
    rw [wk_eq (by omega) (by omega), b2]
    simp
  · have hb : bytesV a0 = ([], checkV a0) := by unfold bytesV; rw [if_neg hc]
    rw [hb]
    simp only []
    rw [if_neg hc, Check_spec hs hf, ob_some, if_pos rfl]
    simp [law05_TensBack_k1]
end Go.Av
