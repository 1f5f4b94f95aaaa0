/- Layer 4, shapes: what the plain functions come to. Strides, indices, offsets. Copies. Layer 5: sameness, whether a tensor may be, copies whose no numbers are one. Lists of numbers alike. Sameness of two tensors. Any tensors: as constant values; whether each may be. New tensors, elements picked. Orders of axes: sums and products in another order, places there and back. All indices of dims in row order; elements picked by a place of each. Sums of indices by strides; axes; copies. Axes. Picks of elements, or of nothing, and those that lead back. Loops that find, copy and make; what infer tells of Pad. The shape that infer tells of Pad. What infer tells of Slice by starts and ends. The places of Pad and of Slice. What Pad and Slice make of a tensor. Slice of a tensor by starts and ends. What Pad and Slice answer. Conditions: those that each names. -/
import Derived.Test.YtnpnomlnajgbcaaGreatQS
import Derived.Test.YtnpnomlnajgbcaaGreatPl
set_option linter.unusedVariables false
namespace Go.Av
def fstAt (p : Int → Bool) : Nat → List Int → Int
  | _, [] => -1
  | i, x :: l => if p x = true then i else fstAt p (i + 1) l
theorem fstAt_any (p : Int → Bool) : ∀ (l : List Int) (i : Nat), decide (0 ≤ fstAt p i l) = l.any p
  | [], i => rfl
  | x :: l, i => by
    simp only [fstAt, List.any_cons]
    by_cases h : p x = true
    · simp [h]
    · simp [h, ← fstAt_any p l (i + 1)]
def Short (l : List Int) : Prop := l.length ≤ 140737488355328
theorem wk_succ {k : Nat} (h : k ≤ 140737488355328) : wk .i64 ((k : Int) + 1) = ((k + 1 : Nat) : Int) := by rw [wk_eq (by omega) (by omega)]; omega
theorem IndexFunc_spec {fu : Nat} {l : List Int} {p : Int → Option Bool} {q : Int → Bool} (hp : ∀ x, p x = some (q x)) (hl : Short l) (hf : l.length < fu) : slices_IndexFunc_int fu l p = some (fstAt q 0 l) := by
  unfold slices_IndexFunc_int slices_IndexFunc_int.W1
  refine cloop_ind (fun (i : Int) => some (fstAt q i.toNat (l.drop i.toNat))) (fun i => 0 ≤ i ∧ i ≤ l.length) (fun i => l.length - i.toNat) ?_ fu 0 (by omega) (by simp; omega)
  rintro i ⟨h0, h1⟩ next hn
  obtain ⟨k, rfl⟩ := Int.eq_ofNat_of_zero_le h0
  unfold slices_IndexFunc_int.L1
  simp only [Int.toNat_natCast]
  by_cases hk : k < l.length
  · rw [if_pos (by omega), at?_get hk, ob_some, hp, ob_some, List.drop_eq_getElem_cons hk]
    simp only [fstAt]
    by_cases hq : q l[k] = true
    · rw [if_pos hq, if_pos hq]
    · rw [if_neg hq, if_neg hq, wk_succ (by unfold Short at hl; omega), hn _ (by omega) (by simp; omega)]
      simp
  · rw [if_neg (by omega), List.drop_of_length_le (by omega)]; rfl
theorem ContainsFunc_spec {fu : Nat} {l : List Int} {p : Int → Option Bool} {q : Int → Bool} (hp : ∀ x, p x = some (q x)) (hl : Short l) (hf : l.length < fu) : slices_ContainsFunc_int fu l p = some (l.any q) := by
  unfold slices_ContainsFunc_int
  rw [IndexFunc_spec hp hl hf, ob_some, fstAt_any]
theorem IndexI_spec {fu : Nat} {l : List Int} {x : Int} (hl : Short l) (hf : l.length < fu) : slices_Index_int fu l x = some (fstAt (fun y => decide (x = y)) 0 l) := by
  unfold slices_Index_int slices_Index_int.W1
  refine cloop_ind (fun (i : Int) => some (fstAt (fun y => decide (x = y)) i.toNat (l.drop i.toNat))) (fun i => 0 ≤ i ∧ i ≤ l.length) (fun i => l.length - i.toNat) ?_ fu 0 (by omega) (by simp; omega)
  rintro i ⟨h0, h1⟩ next hn
  obtain ⟨k, rfl⟩ := Int.eq_ofNat_of_zero_le h0
  unfold slices_Index_int.L1
  simp only [Int.toNat_natCast]
  by_cases hk : k < l.length
  · rw [if_pos (by omega), at?_get hk, ob_some, List.drop_eq_getElem_cons hk]
    simp only [fstAt]
    by_cases hq : x = l[k]
    · rw [if_pos hq, if_pos (by simpa using hq)]
    · rw [if_neg hq, if_neg (by simpa using hq), wk_succ (by unfold Short at hl; omega), hn _ (by omega) (by simp; omega)]
      simp
  · rw [if_neg (by omega), List.drop_of_length_le (by omega)]; rfl
theorem Contains_spec {fu : Nat} {l : List Int} {x : Int} (hl : Short l) (hf : l.length < fu) : slices_Contains_int fu l x = some (l.any fun y => decide (x = y)) := by
  unfold slices_Contains_int
  rw [IndexI_spec hl hf, ob_some, fstAt_any]
def prod : List Int → Int
  | [] => 1
  | x :: l => x * prod l
def Rng (l : List Int) : Prop := ∀ x ∈ l, 0 ≤ x ∧ x ≤ 4096
def Good (l : List Int) : Prop := l.length ≤ 8 ∧ Rng l ∧ prod l ≤ 4096
instance (l : List Int) : Decidable (Rng l) := by unfold Rng; infer_instance
instance (l : List Int) : Decidable (Good l) := by unfold Good; infer_instance
def errS (l : List Int) : Int := if l.any (fun x => decide (x < 0)) = true then 1 else 4
def sizeV (l : List Int) : Int × Int := if Good l then (prod l, 0) else (0, errS l)
theorem errS_ne (l : List Int) : errS l ≠ 0 := by unfold errS; split <;> decide
theorem prod_nonneg : ∀ {l : List Int}, Rng l → 0 ≤ prod l
  | [], _ => by decide
  | x :: l, h => Int.mul_nonneg (h x (by simp)).1 (prod_nonneg fun y hy => h y (by simp [hy]))
theorem prod_pos : ∀ {l : List Int}, (∀ x ∈ l, 1 ≤ x) → 1 ≤ prod l
  | [], _ => by decide
  | x :: l, h => by
    have h1 := h x (by simp)
    have h2 := prod_pos (l := l) fun y hy => h y (by simp [hy])
    have := Int.mul_le_mul h1 h2 (by decide) (by omega)
    simpa [prod] using this
theorem prod_zero : ∀ {l : List Int}, 0 ∈ l → prod l = 0
  | x :: l, h => by
    rcases List.mem_cons.1 h with rfl | h
    · simp [prod]
    · simp [prod, prod_zero h]
theorem div_lt_iff {m d : Int} (hm : 1 ≤ m) (hd : 0 ≤ d) : (Int.tdiv 4096 m < d) ↔ 4096 < m * d := by
  rw [Int.tdiv_eq_ediv_of_nonneg (by decide)]
  constructor
  · intro h
    have := Int.lt_mul_of_ediv_lt (by omega : 0 < m) h
    rwa [Int.mul_comm] at this
  · intro h
    exact Int.ediv_lt_of_lt_mul (by omega) (by rwa [Int.mul_comm])
theorem SizeW_spec {fu : Nat} {l : List Int} (hp : ∀ x ∈ l, 1 ≤ x ∧ x ≤ 4096) (hl : l.length ≤ 8) (hf : l.length < fu) : shape_Size.W1 fu l 1 0 = some (if prod l ≤ 4096 then (prod l, 0) else (0, 4)) := by
  unfold shape_Size.W1
  refine (cloop_ind (fun (s : Int × Int) => some (if s.1 * prod (l.drop s.2.toNat) ≤ 4096 then (s.1 * prod (l.drop s.2.toNat), 0) else (0, 4))) (fun s => 0 ≤ s.2 ∧ s.2 ≤ l.length ∧ 1 ≤ s.1 ∧ s.1 ≤ 4096) (fun s => l.length - s.2.toNat) ?_ fu (1, 0) (by simp) (by simp; omega)).trans (by simp)
  rintro ⟨m, i⟩ ⟨h0, h1, h2, h3⟩ next hn
  simp only at h0 h1 h2 h3 hn ⊢
  obtain ⟨k, rfl⟩ := Int.eq_ofNat_of_zero_le h0
  unfold shape_Size.L1
  simp only [Int.toNat_natCast]
  by_cases hk : k < l.length
  · obtain ⟨q1, q2⟩ := hp _ (List.getElem_mem hk)
    have t0 : 0 ≤ Int.tdiv 4096 m ∧ Int.tdiv 4096 m ≤ 4096 := by
      rw [Int.tdiv_eq_ediv_of_nonneg (by decide)]
      exact ⟨Int.ediv_nonneg (by decide) (by omega), Int.ediv_le_self _ (by decide)⟩
    rw [if_pos (by omega), at?_get hk, ob_some, chk_pos (by omega), wk_eq (by omega) (by omega), List.drop_eq_getElem_cons hk]
    have hpos : 1 ≤ prod (l.drop (k + 1)) := prod_pos fun x hx => (hp x (List.mem_of_mem_drop hx)).1
    have hge : 1 ≤ m * l[k] := by have := Int.mul_le_mul h2 q1 (by decide) (by omega); simpa using this
    simp only [prod, ← Int.mul_assoc]
    by_cases hd : Int.tdiv 4096 m < l[k]
    · rw [if_pos hd]
      rw [div_lt_iff h2 (by omega)] at hd
      have : m * l[k] * 1 ≤ m * l[k] * prod (l.drop (k + 1)) := Int.mul_le_mul_of_nonneg_left hpos (by omega)
      rw [if_neg (by omega)]
    · rw [if_neg hd]
      rw [div_lt_iff h2 (by omega)] at hd
      rw [wk_eq (by omega) (by omega), wk_succ (by omega), hn (m * l[k], ((k + 1 : Nat) : Int)) ⟨by simp only []; omega, by simp only []; omega, hge, by simp only []; omega⟩ (by simp; omega)]
      simp
  · rw [if_neg (by omega), List.drop_of_length_le (by omega)]
    simp only [prod, Int.mul_one]
    rw [if_pos h3]
theorem Size_spec {fu : Nat} {l : List Int} (hl : Short l) (hf : l.length < fu) : shape_Size fu l = some (sizeV l) := by
  unfold shape_Size; try unfold jn
  rw [ContainsFunc_spec (p := fun y0 => shape_Size_1 fu y0) (q := fun x => decide (x < 0)) (fun x => rfl) hl hf, ob_some]
  by_cases h1 : l.any (fun x => decide (x < 0)) = true
  · rw [if_pos h1]
    have hg : ¬ Good l := fun hg => by
      obtain ⟨x, hx, hx2⟩ := List.any_eq_true.1 h1
      have := (hg.2.1 x hx).1
      simp at hx2; omega
    simp only [sizeV, if_neg hg, errS, if_pos h1]
  rw [if_neg h1]
  have he : errS l = 4 := by simp only [errS, if_neg h1]
  by_cases h2 : 8 < (l.length : Int)
  · rw [if_pos h2]
    have hg : ¬ Good l := fun hg => by have := hg.1; omega
    simp only [sizeV, if_neg hg, he]
  rw [if_neg h2, ContainsFunc_spec (p := fun y0 => shape_Size_2 fu y0) (q := fun x => decide (4096 < x)) (fun x => rfl) hl hf, ob_some]
  by_cases h3 : l.any (fun x => decide (4096 < x)) = true
  · rw [if_pos h3]
    have hg : ¬ Good l := fun hg => by
      obtain ⟨x, hx, hx2⟩ := List.any_eq_true.1 h3
      have := (hg.2.1 x hx).2
      simp at hx2; omega
    simp only [sizeV, if_neg hg, he]
  rw [if_neg h3]
  have hr : Rng l := fun x hx => by
    simp only [List.any_eq_true, decide_eq_true_eq, not_exists, not_and] at h1 h3
    have := h1 x hx; have := h3 x hx; omega
  unfold shape_Size.k1
  rw [Contains_spec hl hf, ob_some]
  by_cases h4 : (l.any fun y => decide ((0 : Int) = y)) = true
  · rw [if_pos h4]
    have hz : (0 : Int) ∈ l := by
      obtain ⟨x, hx, hx2⟩ := List.any_eq_true.1 h4
      simp at hx2; subst hx2; exact hx
    have hg : Good l := ⟨by omega, hr, by rw [prod_zero hz]; decide⟩
    simp only [sizeV, if_pos hg, prod_zero hz]
  rw [if_neg h4]
  have hp : ∀ x ∈ l, 1 ≤ x ∧ x ≤ 4096 := fun x hx => by
    have := hr x hx
    simp only [List.any_eq_true, decide_eq_true_eq, not_exists, not_and] at h4
    have := h4 x hx; omega
  rw [SizeW_spec hp (by omega) hf]
  by_cases h5 : prod l ≤ 4096
  · have hg : Good l := ⟨by omega, hr, h5⟩
    simp only [sizeV, if_pos hg, if_pos h5]
  · have hg : ¬ Good l := fun hg => h5 hg.2.2
    simp only [sizeV, if_neg hg, if_neg h5, he]
end Go.Av
set_option linter.unusedVariables false
namespace Go.Av
def strdW : List Int → List Int
  | [] => []
  | _ :: l => wk .i64 (prod l) :: strdW l
theorem strdW_length : ∀ l, (strdW l).length = l.length
  | [] => rfl
  | _ :: l => by simp [strdW, strdW_length l]
theorem rep_set (i : Nat) (x : Int) (s : List Int) : (List.replicate (i + 1) 0 ++ s).set i x = List.replicate i 0 ++ x :: s := by
  rw [List.replicate_succ', List.append_assoc, List.set_append_right _ _ (by simp)]
  simp
theorem strides_spec {fu : Nat} {l : List Int} (hl : l.length * 8 ≤ 140737488355328) (hf : l.length < fu) : shape_strides fu l = some (strdW l) := by
  unfold shape_strides shape_strides.W1
  rw [chk_pos (by omega)]
  have hw : wk .i64 ((l.length : Int) - 1) = ((l.length : Int) - 1) := wk_eq (by omega) (by omega)
  rw [hw, Int.toNat_natCast]
  refine (cloop_ind (fun _ => some (strdW l)) (fun (s : List Int × Int × Int) => ∃ k : Nat, k ≤ l.length ∧ s = (List.replicate k 0 ++ strdW (l.drop k), wk .i64 (prod (l.drop k)), (k : Int) - 1)) (fun s => (s.2.2 + 1).toNat) ?_ fu _ ⟨l.length, Nat.le_refl _, by simp [strdW, prod]; decide⟩ (by simp; omega))
  rintro _ ⟨k, hk, rfl⟩ next hn
  unfold shape_strides.L1
  simp only
  match k, hk with
  | 0, _ => rw [if_neg (by decide)]; simp
  | k + 1, hk =>
    have e1 : (((k + 1 : Nat) : Int) - 1) = (k : Int) := by omega
    have hlen : (List.replicate (k + 1) (0 : Int) ++ strdW (l.drop (k + 1))).length = l.length := by simp [strdW_length]; omega
    rw [e1, if_pos (by omega), hlen, chk_pos (by omega), at?_get (by omega), ob_some, Int.toNat_natCast, rep_set, wk_mul_l, wk_eq (x := (k : Int) - 1) (by omega) (by omega)]
    refine hn _ ⟨k, by omega, ?_⟩ (by simp)
    rw [List.drop_eq_getElem_cons (by omega : k < l.length)]
    simp only [strdW, prod]
    rw [Int.mul_comm]
theorem pos_of_good {l : List Int} (hg : Good l) (h0 : prod l ≠ 0) : ∀ x ∈ l, 1 ≤ x := fun x hx => by
  have := (hg.2.1 x hx).1
  by_cases h : x = 0
  · subst h; exact absurd (prod_zero hx) h0
  · omega
def idxV : List Int → Int → List Int
  | [], _ => []
  | _ :: l, a => a / prod l :: idxV l (a % prod l)
theorem idxV_length : ∀ l a, (idxV l a).length = l.length
  | [], _ => rfl
  | _ :: l, a => by simp [idxV, idxV_length l]
def okIx : List Int → List Int → Bool
  | d :: l, x :: xs => decide (0 ≤ x) && decide (x < d) && okIx l xs
  | _, _ => true
def offV : List Int → List Int → Int
  | _ :: l, x :: xs => x * prod l + offV l xs
  | _, _ => 0
theorem okIx_idx : ∀ {l : List Int} {a : Int}, (∀ x ∈ l, 1 ≤ x) → 0 ≤ a → a < prod l → okIx l (idxV l a) = true
  | [], _, _, _, _ => rfl
  | d :: l, a, hp, h0, h1 => by
    have hq : 1 ≤ prod l := prod_pos fun x hx => hp x (by simp [hx])
    have h2 : 0 ≤ a / prod l := Int.ediv_nonneg h0 (by omega)
    have h3 : a / prod l < d := Int.ediv_lt_of_lt_mul (by omega) h1
    have h4 := okIx_idx (l := l) (a := a % prod l) (fun x hx => hp x (by simp [hx])) (Int.emod_nonneg _ (by omega)) (Int.emod_lt_of_pos _ (by omega))
    simp [idxV, okIx, h2, h3, h4]
theorem offV_idx : ∀ {l : List Int} {a : Int}, (∀ x ∈ l, 1 ≤ x) → 0 ≤ a → a < prod l → offV l (idxV l a) = a
  | [], a, _, h0, h1 => by simp [prod] at h1; simp [offV]; omega
  | d :: l, a, hp, h0, h1 => by
    have hq : 1 ≤ prod l := prod_pos fun x hx => hp x (by simp [hx])
    have h4 := offV_idx (l := l) (a := a % prod l) (fun x hx => hp x (by simp [hx])) (Int.emod_nonneg _ (by omega)) (Int.emod_lt_of_pos _ (by omega))
    simp only [idxV, offV, h4]
    rw [Int.mul_comm]
    exact Int.mul_ediv_add_emod a (prod l)
end Go.Av
set_option linter.unusedVariables false
namespace Go.Av
theorem Clone_spec {fu : Nat} {l : List Int} (h : l.length * 8 ≤ 140737488355328) : slices_Clone_int fu l = some l := by
  unfold slices_Clone_int
  rw [chk_pos (by omega)]
end Go.Av
set_option linter.unusedVariables false
namespace Go.Av
def sameT (a b : T_Tensor) : Bool := decide (a.fType = b.fType) && decide (a.fDims = b.fDims) && decide (a.fF = b.fF) && decide (a.fI = b.fI) && decide (a.fB = b.fB)
def Small (t : T_Tensor) : Prop := t.fDims.length * 8 ≤ 140737488351232 ∧ t.fF.length ≤ 140737488351232 ∧ t.fI.length ≤ 140737488351232 ∧ t.fB.length ≤ 140737488351232
def Fuel (fu : Nat) (t : T_Tensor) : Prop := t.fDims.length < fu ∧ t.fF.length < fu ∧ t.fI.length < fu ∧ t.fB.length < fu
theorem sameT_self (a : T_Tensor) : sameT a a = true := by simp [sameT]
def noT : T_Tensor := ⟨0, [], [], [], []⟩
theorem known_spec {fu : Nat} {k : Int} : tens_known fu k = some (decide (k = 1 ∨ k = 7 ∨ k = 9)) := by
  unfold tens_known tens_Width
  by_cases h1 : k = 1
  · simp [h1]
  · by_cases h2 : k = 7
    · simp [h2]
    · by_cases h3 : k = 9 <;> simp [h1, h2, h3]
def Known (k : Int) : Prop := k = 1 ∨ k = 7 ∨ k = 9
instance (k : Int) : Decidable (Known k) := by unfold Known; infer_instance
def LensOK (t : T_Tensor) : Prop := (t.fF.length : Int) = (if t.fType = 1 then prod t.fDims else 0) ∧ (t.fI.length : Int) = (if t.fType = 7 then prod t.fDims else 0) ∧ (t.fB.length : Int) = (if t.fType = 9 then prod t.fDims else 0)
instance (t : T_Tensor) : Decidable (LensOK t) := by unfold LensOK; infer_instance
def checkV (t : T_Tensor) : Int := if Known t.fType then (if Good t.fDims then (if LensOK t then 0 else 3) else errS t.fDims) else 5
theorem Check_spec {fu : Nat} {t : T_Tensor} (hs : Small t) (hf : Fuel fu t) : tens_Check fu t = some (checkV t) := by
  obtain ⟨s1, s2, s3, s4⟩ := hs
  unfold tens_Check checkV; try unfold jn
  rw [known_spec, ob_some, Size_spec (by unfold Short; omega) hf.1]
  by_cases hk : Known t.fType
  · rw [if_pos (by simpa [Known] using hk), ob_some, if_pos hk]
    simp only [sizeV]
    by_cases hg : Good t.fDims
    · simp only [if_pos hg, if_true]
      have hp := prod_nonneg hg.2.1
      have hsum : wk .i64 ((wk .i64 ((t.fF.length : Int) + (t.fI.length : Int))) + (t.fB.length : Int)) = t.fF.length + t.fI.length + t.fB.length := by
        rw [wk_add_l, wk_eq (by omega) (by omega)]
      unfold tens_Check.k1 LensOK
      simp only [hsum]
      rcases hk with e | e | e
      · simp only [e, show ¬ (1 : Int) = 7 by decide, show ¬ (1 : Int) = 9 by decide, if_false, if_true]
        by_cases h1 : (t.fF.length : Int) = prod t.fDims
        · by_cases h2 : (t.fF.length : Int) + t.fI.length + t.fB.length = prod t.fDims
          · rw [if_pos h1, if_pos h2, if_pos ⟨h1, by omega, by omega⟩]
          · rw [if_pos h1, if_neg h2, if_neg (fun h => h2 (by omega))]
        · rw [if_neg h1, if_neg (fun h => h1 h.1)]
      · simp only [e, show ¬ (7 : Int) = 1 by decide, show ¬ (7 : Int) = 9 by decide, if_false, if_true]
        by_cases h1 : (t.fI.length : Int) = prod t.fDims
        · by_cases h2 : (t.fF.length : Int) + t.fI.length + t.fB.length = prod t.fDims
          · rw [if_pos h1, if_pos h2, if_pos ⟨by omega, h1, by omega⟩]
          · rw [if_pos h1, if_neg h2, if_neg (fun h => h2 (by omega))]
        · rw [if_neg h1, if_neg (fun h => h1 h.2.1)]
      · simp only [e, show ¬ (9 : Int) = 1 by decide, show ¬ (9 : Int) = 7 by decide, if_false, if_true]
        by_cases h1 : (t.fB.length : Int) = prod t.fDims
        · by_cases h2 : (t.fF.length : Int) + t.fI.length + t.fB.length = prod t.fDims
          · rw [if_pos h1, if_pos h2, if_pos ⟨by omega, by omega, h1⟩]
          · rw [if_pos h1, if_neg h2, if_neg (fun h => h2 (by omega))]
        · rw [if_neg h1, if_neg (fun h => h1 h.2.2)]
    · simp only [if_neg hg]
      rw [if_neg (errS_ne _)]
  · rw [if_neg (by simpa [Known] using hk), if_neg hk]
theorem checkV_zero {t : T_Tensor} : checkV t = 0 ↔ Known t.fType ∧ Good t.fDims ∧ LensOK t := by
  unfold checkV
  by_cases hk : Known t.fType <;> by_cases hg : Good t.fDims <;> by_cases hl : LensOK t <;> simp [hk, hg, hl, errS_ne]
theorem map_loop {β : Type} {l : List Int} {f : Int → Int} {B : ((List Int × Int) → Option β) → (List Int × Int) → Option β} {c : List Int → Option β} {fu : Nat} (hf : l.length < fu)
    (hB : ∀ (next : List Int × Int → Option β) (k : Nat) (m : List Int) (hk : k < l.length), m.length = l.length → (hm : m[k]? = some l[k]) → B next (m, (k : Int)) = next (m.set k (f l[k]), ((k + 1 : Nat) : Int)))
    (hE : ∀ next (m : List Int), m.length = l.length → B next (m, (l.length : Int)) = c m) : cloop B fu (l, 0) = c (l.map f) := by
  have := cloop_up (body := B) (n := fu) l.length (fun k => (l.take k).map f ++ l.drop k) (c (l.map f)) ?_ ?_ hf
  · simpa using this
  · intro k hk next hn
    have hlk : ((l.take k).map f).length = k := by simp; omega
    rw [hB next k _ hk (by simp; omega) (by rw [List.getElem?_append_right (by omega), hlk, Nat.sub_self, List.getElem?_drop]; simp [hk])]
    have e : ((l.take k).map f ++ l.drop k).set k (f l[k]) = (l.take (k + 1)).map f ++ l.drop (k + 1) := by
      rw [List.set_append_right _ _ (by omega), hlk, Nat.sub_self, List.drop_eq_getElem_cons hk, List.set_cons_zero, List.take_add_one, List.getElem?_eq_getElem hk, List.map_append, List.append_assoc]
      rfl
    rw [e]
    exact hn
  · intro next
    rw [hE _ _ (by simp)]
    simp
def canonF (x : Int) : Int := if 2139095040 < x % 2147483648 then 2143289344 else x
def canonT (t : T_Tensor) : T_Tensor := ⟨t.fType, t.fDims, t.fF.map canonF, t.fI, t.fB⟩
theorem wk_eq32 {x : Int} (h0 : 0 ≤ x) (h1 : x < 4294967296) : wk .u32 x = x := by
  have : wk .u32 x = x % 4294967296 := by simp [wk, IntKind.wrap, IntKind.signed, IntKind.bits]
  rw [this, Int.emod_eq_of_lt h0 h1]
theorem abs_u32 {x : Int} (h0 : 0 ≤ x) (h1 : x < 4294967296) : bandn .u32 x 2147483648 = x % 2147483648 := by
  unfold bandn
  rw [show IntKind.u32.bits = 32 from rfl, show ~~~(BitVec.ofInt 32 2147483648) = BitVec.ofNat 32 (2 ^ 31 - 1) by decide, BitVec.toNat_and, BitVec.toNat_ofNat, BitVec.toNat_ofInt]
  have : (2 ^ 31 - 1) % 2 ^ 32 = 2 ^ 31 - 1 := by decide
  rw [this, Nat.and_two_pow_sub_one_eq_mod]
  have hw := wk_eq32 (x := (((x % ((2 ^ 32 : Nat) : Int)).toNat % 2 ^ 31 : Nat) : Int)) (by omega) (by omega)
  unfold wk at hw
  rw [hw]
  omega
theorem softCanon_spec {fu : Nat} {x : Int} (h0 : 0 ≤ x) (h1 : x < 4294967296) : soft_Canon fu x = some (canonF x) := by
  unfold soft_Canon soft_NaN soft_Abs canonF
  rw [abs_u32 h0 h1, ob_some, ob_some]
  by_cases h : 2139095040 < x % 2147483648 <;> simp [h]
def Ten (t : T_Tensor) : Prop := t.fDims.length * 8 ≤ 140737488351232 ∧ t.fF.length * 4 ≤ 140737488351232 ∧ t.fI.length * 8 ≤ 140737488351232 ∧ t.fB.length ≤ 140737488351232 ∧ ∀ x ∈ t.fF, 0 ≤ x ∧ x < 4294967296
theorem Ten.small {t : T_Tensor} (h : Ten t) : Small t := by obtain ⟨a, b, c, d, _⟩ := h; exact ⟨a, by omega, by omega, by omega⟩
theorem Copy_spec {fu : Nat} {t : T_Tensor} (h : Ten t) : tens_Copy fu t = some t := by
  obtain ⟨h1, h2, h3, h4, _⟩ := h
  unfold tens_Copy tens_own_int tens_own_uint32 tens_own_int64 tens_own_bool
  rw [chk_pos (by omega), ob_some, chk_pos (by omega), ob_some, chk_pos (by omega), ob_some, chk_pos (by omega), ob_some]
theorem Canon_spec {fu : Nat} {t : T_Tensor} (h : Ten t) (hf : t.fF.length < fu) : tens_Canon fu t = some (canonT t) := by
  have hu := h.2.2.2.2
  have hl := h.2.1
  unfold tens_Canon
  rw [Copy_spec h, ob_some]
  unfold tens_Canon.W1
  refine map_loop (f := canonF) (c := fun m => some (T_Tensor.mk t.fType t.fDims m t.fI t.fB)) hf ?_ ?_
  · intro next k m hk hm hg
    unfold tens_Canon.L1
    simp only []
    obtain ⟨u1, u2⟩ := hu _ (List.getElem_mem hk)
    rw [if_pos (by omega), at?_nat, hg, ob_some, softCanon_spec u1 u2, ob_some, chk_pos (by omega), wk_succ (by omega)]
    rfl
  · intro next m hm
    unfold tens_Canon.L1
    rw [if_neg (by simp)]
end Go.Av
set_option linter.unusedVariables false
namespace Go.Av
theorem drop_same {a b : List Int} {i : Nat} (ha : i < a.length) (hb : i < b.length) : a.drop i = b.drop i ↔ a[i] = b[i] ∧ a.drop (i + 1) = b.drop (i + 1) := by
  rw [List.drop_eq_getElem_cons ha, List.drop_eq_getElem_cons hb]
  exact List.cons_eq_cons
theorem SameInts_spec {fu : Nat} {a b : List Int} (hl : Short a) (hf : a.length < fu) : ref04_SameInts fu a b = some (decide (a = b)) := by
  unfold ref04_SameInts ref04_SameInts.W1
  by_cases hlen : a.length = b.length
  · rw [if_pos (by omega)]
    refine (cloop_ind (fun (i : Int) => some (decide (a.drop i.toNat = b.drop i.toNat))) (fun i => 0 ≤ i ∧ i ≤ a.length) (fun i => a.length - i.toNat) ?_ fu 0 (by simp) (by simp; omega)).trans (by simp)
    rintro i ⟨h0, h1⟩ next hn
    obtain ⟨k, rfl⟩ := Int.eq_ofNat_of_zero_le h0
    unfold ref04_SameInts.L1
    simp only [Int.toNat_natCast]
    by_cases hk : k < a.length
    · rw [if_pos (by omega), at?_get hk, ob_some, at?_get (by omega : k < b.length), ob_some, wk_succ (by unfold Short at hl; omega)]
      have hd := drop_same hk (by omega : k < b.length)
      by_cases he : a[k] = b[k]
      · rw [if_pos he, hn _ (by omega) (by simp; omega)]
        simp [hd, he]
      · rw [if_neg he]
        simp [hd, he]
    · rw [if_neg (by omega)]
      have e1 : a.drop k = b.drop k := by rw [List.drop_of_length_le (by omega), List.drop_of_length_le (by omega)]
      simp [e1]
  · rw [if_neg (by omega)]
    have : ¬ a = b := fun h => hlen (by rw [h])
    simp [this]
end Go.Av
set_option linter.unusedVariables false
namespace Go.Av
theorem same_loop {α : Type} [DecidableEq α] {a b : List α} (hl : a.length = b.length) {fu : Nat} (hf : a.length < fu) (hs : a.length ≤ 140737488355328) {L : (Int → Option Bool) → Int → Option Bool} {c : Option Bool}
    (hL : ∀ nx i, L nx i = if i < (a.length : Int) then ((at? a i).bind fun x => (at? b i).bind fun y => if x = y then (nx (wk .i64 (i + 1))) else some false) else c) : cloop L fu 0 = if a = b then c else some false := by
  refine (cloop_ind (fun (i : Int) => if a.drop i.toNat = b.drop i.toNat then c else some false) (fun i => 0 ≤ i ∧ i ≤ a.length) (fun i => a.length - i.toNat) ?_ fu 0 (by simp) (by simp; omega)).trans (by simp)
  rintro i ⟨h0, h1⟩ next hn
  obtain ⟨k, rfl⟩ := Int.eq_ofNat_of_zero_le h0
  rw [hL]
  simp only [Int.toNat_natCast]
  by_cases hk : k < a.length
  · have hkb : k < b.length := by omega
    have hd : a.drop k = b.drop k ↔ a[k] = b[k] ∧ a.drop (k + 1) = b.drop (k + 1) := by
      rw [List.drop_eq_getElem_cons hk, List.drop_eq_getElem_cons hkb]; exact List.cons_eq_cons
    rw [if_pos (by omega), at?_get hk, ob_some, at?_get hkb, ob_some, wk_succ (by omega)]
    by_cases he : a[k] = b[k]
    · rw [if_pos he, hn _ (by omega) (by simp; omega)]
      by_cases h2 : a.drop (k + 1) = b.drop (k + 1)
      · rw [if_pos (by simpa using h2), if_pos (hd.2 ⟨he, h2⟩)]
      · rw [if_neg (by simpa using h2), if_neg (fun h => h2 (hd.1 h).2)]
    · rw [if_neg he, if_neg (fun h => he (hd.1 h).1)]
  · rw [if_neg (by omega), if_pos (by rw [List.drop_of_length_le (by omega), List.drop_of_length_le (by omega)])]
theorem refSame_spec {fu : Nat} {a b : T_Tensor} (hs : Small a) (hf : Fuel fu a) : ref05_Same fu a b = some (sameT a b) := by
  obtain ⟨s1, s2, s3, s4⟩ := hs
  obtain ⟨f1, f2, f3, f4⟩ := hf
  unfold ref05_Same sameT; try unfold jn
  by_cases h1 : a.fType = b.fType
  · rw [if_pos h1, SameInts_spec (by unfold Short; omega) f1, ob_some]
    by_cases h2 : a.fDims = b.fDims
    · rw [if_pos (by simpa using h2)]
      by_cases l3 : a.fF.length = b.fF.length
      · rw [if_pos (by omega)]
        by_cases l4 : a.fI.length = b.fI.length
        · rw [if_pos (by omega)]
          by_cases l5 : a.fB.length = b.fB.length
          · rw [if_pos (by omega)]
            unfold ref05_Same.k1 ref05_Same.W3; try unfold jn
            rw [same_loop (L := fun next s => ref05_Same.L3 fu a b next s) (a := a.fF) (b := b.fF) l3 f2 (by omega) (c := ref05_Same.k2 fu a b) (fun nx i => rfl)]
            unfold ref05_Same.k2 ref05_Same.W2; try unfold jn
            rw [same_loop (L := fun next s => ref05_Same.L2 fu a b next s) (a := a.fI) (b := b.fI) l4 f3 (by omega) (c := ref05_Same.k3 fu a b) (fun nx i => rfl)]
            unfold ref05_Same.k3 ref05_Same.W1
            rw [same_loop (L := fun next s => ref05_Same.L1 fu a b next s) (a := a.fB) (b := b.fB) l5 f4 (by omega) (c := some true) (fun nx i => by unfold ref05_Same.L1; simp only [beq_iff_eq])]
            by_cases e3 : a.fF = b.fF <;> by_cases e4 : a.fI = b.fI <;> by_cases e5 : a.fB = b.fB <;> simp [h1, h2, e3, e4, e5]
          · rw [if_neg (by omega)]
            have : ¬ a.fB = b.fB := fun h => l5 (by rw [h])
            simp [this]
        · rw [if_neg (by omega)]
          have : ¬ a.fI = b.fI := fun h => l4 (by rw [h])
          simp [this]
      · rw [if_neg (by omega)]
        have : ¬ a.fF = b.fF := fun h => l3 (by rw [h])
        simp [this]
    · rw [if_neg (by simpa using h2)]
      simp [h2]
  · rw [if_neg h1]
    simp [h1]
end Go.Av
set_option linter.unusedVariables false
namespace Go.Av
theorem cloop_succ {σ β : Type} {body : (σ → Option β) → σ → Option β} {n : Nat} {s : σ} : cloop body (n + 1) s = body (cloop body n) s := rfl
def zeroVal : T_Val := ⟨0, [], false, ⟨0, [], [], [], []⟩⟩
def valOf (t : T_Tensor) : T_Val := if t.fType = 0 then zeroVal else ⟨t.fType, t.fDims, true, t⟩
def Tens (fu : Nat) (l : List T_Tensor) : Prop := l.length ≤ 1048576 ∧ l.length < fu ∧ ∀ t ∈ l, Ten t ∧ Fuel fu t
theorem CloneI_spec {fu : Nat} {l : List Int} (h : l.length * 8 ≤ 140737488351232) : slices_Clone_int fu l = some l := by
  unfold slices_Clone_int; rw [chk_pos (by omega)]
theorem take_next {α β : Type} {f : α → β} {l : List α} {k : Nat} (hk : k < l.length) : (l.take (k + 1)).map f = (l.take k).map f ++ [f l[k]] := by
  rw [List.take_add_one, List.getElem?_eq_getElem hk, List.map_append]; rfl
theorem Vals_all {fu : Nat} {l : List T_Tensor} (h : Tens fu l) : ewise_Vals fu l = some (l.map valOf) := by
  unfold ewise_Vals ewise_Vals.W1
  have hl0 := h.1
  refine cloop_up l.length (fun k => (l.take k).map valOf) _ ?_ ?_ h.2.1
  · intro k hk next hn
    have ht := (h.2.2 _ (List.getElem_mem hk)).1
    show ewise_Vals.L1 fu l _ _ (k : Int) = _
    have hl : ((l.take k).map valOf).length = k := by simp; omega
    rw [take_next hk] at hn
    rw [ewise_Vals.L1, if_pos (by omega), at?_get hk, ob_some, wk_succ (by omega)]
    by_cases h0 : l[k].fType = 0
    · rw [if_pos h0, chk_pos (by rw [hl]; omega)]
      rw [valOf, if_pos h0] at hn
      exact hn
    · rw [if_neg h0, CloneI_spec ht.1, ob_some, Copy_spec ht, ob_some, chk_pos (by rw [hl]; omega)]
      rw [valOf, if_neg h0] at hn
      exact hn
  · intro next
    show ewise_Vals.L1 fu l _ _ (l.length : Int) = _
    rw [ewise_Vals.L1, if_neg (by omega), List.take_length]
def badV : List T_Tensor → Option Int
  | [] => none
  | t :: l => if t.fType = 0 ∨ checkV t = 0 then badV l else some (checkV t)
theorem badV_none {l : List T_Tensor} (h : badV l = none) : ∀ t ∈ l, t.fType = 0 ∨ checkV t = 0 := by
  induction l with
  | nil => intro t ht; cases ht
  | cons x l ih =>
    unfold badV at h
    split at h
    · rename_i hx
      intro t ht
      rcases List.mem_cons.1 ht with rfl | ht
      · exact hx
      · exact ih h t ht
    · cases h
theorem badV_some {l : List T_Tensor} {e : Int} (h : badV l = some e) : e ≠ 0 := by
  induction l with
  | nil => cases h
  | cons x l ih =>
    unfold badV at h
    split at h
    · exact ih h
    · rename_i hx
      injection h with h
      subst h
      exact fun h0 => hx (.inr h0)
theorem head_loop {β : Type} {fu : Nat} {l : List T_Tensor} (h : Tens fu l) {k1 : List T_Tensor → Option β} {er : Int → Option β} {L : (List T_Tensor → Int → Option β) → List T_Tensor → Int → Option β}
    (hL : ∀ nx acc i, L nx acc i = if i < (l.length : Int) then ((at? l i).bind fun x => if x.fType = 0 then ((tens_Canon fu x).bind fun y => chk ((acc.length + 1 : Int) * 104 ≤ 140737488355328) <| nx (acc ++ ([y])) (wk .i64 (i + 1))) else
      (tens_Check fu x).bind fun c => if c = 0 then ((tens_Canon fu x).bind fun y => chk ((acc.length + 1 : Int) * 104 ≤ 140737488355328) <| nx (acc ++ ([y])) (wk .i64 (i + 1))) else er c) else k1 acc) :
    cloop (fun next s => L (fun a b => next (a, b)) s.1 s.2) fu (([] : List T_Tensor), (0 : Int)) = match badV l with | some e => er e | none => k1 (l.map canonT) := by
  have hl0 := h.1
  have key : ∀ m q k : Nat, l.length - k = m → k ≤ l.length → m < q → cloop (fun next s => L (fun a b => next (a, b)) s.1 s.2) q ((l.take k).map canonT, (k : Int)) = match badV (l.drop k) with | some e => er e | none => k1 (l.map canonT) := by
    intro m
    induction m with
    | zero =>
      intro q k h1 h2 h3
      cases q with
      | zero => omega
      | succ q =>
        have : k = l.length := by omega
        subst this
        rw [cloop_succ]
        show L _ _ (l.length : Int) = _
        rw [hL, if_neg (by omega), List.take_length, List.drop_length]
        rfl
    | succ m ih =>
      intro q k h1 h2 h3
      cases q with
      | zero => omega
      | succ q =>
        have hk : k < l.length := by omega
        obtain ⟨ht, hf⟩ := h.2.2 _ (List.getElem_mem hk)
        have hl : ((l.take k).map canonT).length = k := by simp; omega
        have hn := ih q (k + 1) (by omega) (by omega) (by omega)
        rw [take_next hk] at hn
        rw [cloop_succ]
        show L _ _ (k : Int) = _
        rw [hL, if_pos (by omega), at?_get hk, ob_some, wk_succ (by omega), List.drop_eq_getElem_cons hk]
        unfold badV
        by_cases h0 : l[k].fType = 0
        · rw [if_pos h0, Canon_spec ht hf.2.1, ob_some, chk_pos (by rw [hl]; omega), if_pos (.inl h0)]
          exact hn
        · rw [if_neg h0, Check_spec ht.small hf, ob_some]
          by_cases hc : checkV l[k] = 0
          · rw [if_pos hc, Canon_spec ht hf.2.1, ob_some, chk_pos (by rw [hl]; omega), if_pos (.inr hc)]
            exact hn
          · rw [if_neg hc, if_neg (fun hh => hh.elim h0 hc)]
  exact key l.length fu 0 (by omega) (by omega) h.2.1
end Go.Av
set_option linter.unusedVariables false
namespace Go.Av
def newV (k : Int) (d : List Int) : T_Tensor × Int :=
  if k = 1 ∨ k = 7 ∨ k = 9 then (if Good d then (if k = 1 then (⟨k, d, List.replicate (prod d).toNat 0, [], []⟩, 0) else if k = 7 then (⟨k, d, [], List.replicate (prod d).toNat 0, []⟩, 0) else (⟨k, d, [], [], List.replicate (prod d).toNat false⟩, 0)) else (noT, errS d)) else (noT, 5)
theorem New_spec {fu : Nat} {k : Int} {d : List Int} (hd : Short d) (hf : d.length < fu) : tens_New fu k d = some (newV k d) := by
  unfold tens_New newV
  rw [known_spec, ob_some, Size_spec hd hf, ob_some]
  by_cases hk : k = 1 ∨ k = 7 ∨ k = 9
  · rw [if_pos (by simpa using hk), if_pos hk]
    simp only [sizeV]
    by_cases hg : Good d
    · simp only [if_pos hg, if_true]
      have h1 := prod_nonneg hg.2.1
      have h2 := hg.2.2
      have h3 := hg.1
      unfold slices_Clone_int
      rw [chk_pos (by omega), ob_some, chk_pos (by omega), chk_pos (by omega), chk_pos (by omega)]
      by_cases e1 : k = 1
      · rw [if_pos e1, if_pos e1]
      · rw [if_neg e1, if_neg e1]
        by_cases e2 : k = 7
        · rw [if_pos e2, if_pos e2]
        · rw [if_neg e2, if_neg e2]
    · simp only [if_neg hg]
      rw [if_neg (errS_ne d)]
      rfl
  · rw [if_neg (by simpa using hk), if_neg hk]
    rfl
theorem pick_loop {σ α β : Type} (st : List α → Nat → σ) {B : (σ → Option β) → σ → Option β} {at_ : List Int} (bad : Int → Bool) (pk : Int → α) (z : α) {e : Option β} {c : List α → Option β}
    (hB : ∀ (next : σ → Option β) (k : Nat) (m : List α) (hk : k < at_.length), m.length = at_.length → B next (st m k) = if bad at_[k] = true then e else next (st (if 0 ≤ at_[k] then m.set k (pk at_[k]) else m) (k + 1)))
    (hE : ∀ (next : σ → Option β) (m : List α), m.length = at_.length → B next (st m at_.length) = c m) (hz : ∀ a, ¬ 0 ≤ a → pk a = z) {fu : Nat} (hf : at_.length < fu) :
    cloop B fu (st (List.replicate at_.length z) 0) = if at_.any bad = true then e else c (at_.map pk) := by
  have key : ∀ (f k : Nat), k ≤ at_.length → at_.length - k < f → cloop B f (st ((at_.take k).map pk ++ List.replicate (at_.length - k) z) k) = if (at_.drop k).any bad = true then e else c (at_.map pk) := by
    intro f
    induction f with
    | zero => intro k _ h; omega
    | succ f ih =>
      intro k hk hf
      by_cases hkn : k = at_.length
      · subst hkn
        show B _ _ = _
        have := hE (cloop B f) ((at_.take at_.length).map pk ++ List.replicate (at_.length - at_.length) z) (by simp)
        rw [this]
        simp
      · have hk' : k < at_.length := by omega
        show B _ _ = _
        rw [hB _ _ _ hk' (by simp; omega), List.drop_eq_getElem_cons hk', List.any_cons]
        by_cases hb : bad at_[k] = true
        · simp [hb]
        · rw [if_neg hb]
          have hm : (if 0 ≤ at_[k] then ((at_.take k).map pk ++ List.replicate (at_.length - k) z).set k (pk at_[k]) else (at_.take k).map pk ++ List.replicate (at_.length - k) z) = (at_.take (k + 1)).map pk ++ List.replicate (at_.length - (k + 1)) z := by
            have hr : List.replicate (at_.length - k) z = z :: List.replicate (at_.length - (k + 1)) z := by rw [show at_.length - k = at_.length - (k + 1) + 1 by omega, List.replicate_succ]
            have ht : at_.take (k + 1) = at_.take k ++ [at_[k]] := by rw [List.take_add_one, List.getElem?_eq_getElem hk']; rfl
            have hlen : ((at_.take k).map pk).length = k := by simp; omega
            rw [hr, ht, List.map_append, List.append_assoc]
            split
            · rw [List.set_append_right _ _ (by omega), hlen, Nat.sub_self]
              rfl
            · rename_i h0
              rw [List.map_singleton, hz _ h0]
              rfl
          rw [hm, ih (k + 1) (by omega) (by omega)]
          simp [hb]
  have := key fu 0 (by omega) (by omega)
  simpa using this
def badP (N : Int) (x : Int) : Bool := decide (x < -1) || decide (N ≤ x)
def pkOf {α : Type} (src : List α) (z : α) (a : Int) : α := if 0 ≤ a then src.getD a.toNat z else z
def pickV (t : T_Tensor) (d l : List Int) : T_Tensor × Int :=
  if checkV t = 0 then (if (newV t.fType d).2 = 0 then (if (l.length : Int) = prod d then (if l.any (badP (t.fF.length + t.fI.length + t.fB.length)) = true then (noT, 2) else
    (if t.fType = 1 then ⟨t.fType, d, l.map (pkOf t.fF 0), [], []⟩ else if t.fType = 7 then ⟨t.fType, d, [], l.map (pkOf t.fI 0), []⟩ else ⟨t.fType, d, [], [], l.map (pkOf t.fB false)⟩, 0)) else (noT, 3)) else (noT, (newV t.fType d).2)) else (noT, checkV t)
theorem at?_pk {α : Type} {src : List α} {z : α} {a : Int} (h0 : 0 ≤ a) (h : a < src.length) : at? src a = some (pkOf src z a) := by
  obtain ⟨k, rfl⟩ := Int.eq_ofNat_of_zero_le h0
  rw [at?_get (by omega), pkOf, if_pos h0, List.getD_eq_getElem?_getD, Int.toNat_natCast, List.getElem?_eq_getElem (by omega)]
  rfl
theorem pkOf_neg {α : Type} {src : List α} {z : α} {a : Int} (h : ¬ 0 ≤ a) : pkOf src z a = z := if_neg h
theorem newV_ok {k : Int} {d : List Int} (h : (newV k d).2 = 0) : Known k ∧ Good d ∧ newV k d = (if k = 1 then (⟨k, d, List.replicate (prod d).toNat 0, [], []⟩, 0) else if k = 7 then (⟨k, d, [], List.replicate (prod d).toNat 0, []⟩, 0) else (⟨k, d, [], [], List.replicate (prod d).toNat false⟩, 0)) := by
  unfold newV at h ⊢
  by_cases hk : k = 1 ∨ k = 7 ∨ k = 9
  · rw [if_pos hk] at h ⊢
    by_cases hg : Good d
    · rw [if_pos hg]
      exact ⟨hk, hg, rfl⟩
    · rw [if_neg hg] at h
      exact absurd h (errS_ne d)
  · rw [if_neg hk] at h
    cases h
theorem pred_spec {fu : Nat} {N x : Int} : tens_Pick_1 fu x N = some (badP N x) := by
  unfold tens_Pick_1 badP
  by_cases h : x < -1
  · rw [if_pos h]; simp [h]
  · rw [if_neg h]; simp [h]
theorem sumW {a b c : Nat} (h1 : a ≤ 140737488355328) (h2 : b ≤ 140737488355328) (h3 : c ≤ 140737488355328) : wk .i64 ((wk .i64 ((a : Int) + (b : Int))) + (c : Int)) = (a : Int) + b + c := by
  rw [wk_add_l, wk_eq (by omega) (by omega)]
theorem notbad {N : Int} {l : List Int} (h : ¬ l.any (badP N) = true) {k : Nat} (hk : k < l.length) : -1 ≤ l[k] ∧ l[k] < N := by
  have := h
  simp only [List.any_eq_true, not_exists, not_and, badP, Bool.or_eq_true, decide_eq_true_eq] at this
  have := this _ (List.getElem_mem hk)
  omega
theorem Pick_spec {fu : Nat} {t : T_Tensor} {d l : List Int} (hs : Small t) (hf : Fuel fu t) (hd : Short d) (hfd : d.length < fu) (hl : Short l) (hfl : l.length < fu) : tens_Pick fu t d l = some (pickV t d l) := by
  unfold tens_Pick pickV jc
  rw [Check_spec hs hf, ob_some]
  by_cases hc : checkV t = 0
  · rw [if_pos hc, if_pos hc, New_spec hd hfd, ob_some]
    obtain ⟨_, hg0, hlen⟩ := checkV_zero.1 hc
    obtain ⟨s1, s2, s3, s4⟩ := hs
    by_cases hn : (newV t.fType d).2 = 0
    · obtain ⟨hk, hg, e⟩ := newV_ok hn
      rw [if_pos hn, if_pos hn]
      rw [sumW (a := t.fF.length) (by omega) (by omega) (by omega)]
      have hpn := prod_nonneg hg.2.1
      have hp4 := hg.2.2
      have hcf : slices_ContainsFunc_int fu l (fun y0 => tens_Pick_1 fu y0 ((t.fF.length : Int) + t.fI.length + t.fB.length)) = some (l.any (badP (t.fF.length + t.fI.length + t.fB.length))) := ContainsFunc_spec (fun x => pred_spec) hl hfl
      unfold Short at hl
      rw [hcf]
      rcases hk with e1 | e1 | e1
      · obtain ⟨l1, l2, l3⟩ := hlen
        rw [e1] at e
        simp only [if_true] at e
        simp only [e1, e, if_true, List.length_replicate, List.length_nil] at l1 l2 l3 ⊢
        simp only [show ¬ (1 : Int) = 7 by decide, show ¬ (1 : Int) = 9 by decide, if_false] at l2 l3
        rw [sumW (by omega) (by omega) (by omega)]
        by_cases hll : (l.length : Int) = prod d
        · rw [if_pos (by omega), if_pos hll, ob_some]
          by_cases hb : l.any (badP (t.fF.length + t.fI.length + t.fB.length)) = true
          · rw [if_pos hb, if_pos hb]; rfl
          · rw [if_neg hb, if_neg hb]
            have hnl : (prod d).toNat = l.length := by omega
            rw [hnl]
            have fin : ∀ m : List Int, m.length = l.length → tens_Pick.c1 fu t l (⟨1, d, List.replicate l.length 0, [], []⟩, 0) m = some (⟨1, d, m, [], []⟩, 0) := fun m hm => by
              simp [tens_Pick.c1, tens_Pick.c2, tens_Pick.c3, chk, jc, hm]
            by_cases h0 : l = []
            · subst h0
              exact (if_pos rfl).trans (fin [] rfl)
            · have hpos : 0 < l.length := List.length_pos_iff.2 h0
              rw [if_neg (by omega)]
              unfold tens_Pick.W3
              refine (pick_loop (fun (m : List Int) (k : Nat) => (m, (k : Int))) (fun _ => false) (pkOf t.fF 0) 0 (e := none) (c := fun m => some (⟨1, d, m, [], []⟩, 0)) ?_ ?_ (fun a => pkOf_neg) hfl).trans (by simp)
              · intro next k m hk hm
                have hnb := notbad hb hk
                unfold tens_Pick.L3
                simp only [Int.toNat_natCast, List.length_replicate]
                rw [if_pos (by omega), at?_get hk, ob_some, wk_succ (by omega), if_neg (show ¬ (false = true) by decide)]
                by_cases ha : 0 ≤ l[k]
                · rw [if_pos ha, if_pos ha, at?_pk (z := 0) ha (by omega), ob_some, chk_pos (by omega), chk_pos (by omega)]
                · rw [if_neg ha, if_neg ha]
              · intro next m hm
                unfold tens_Pick.L3
                rw [if_neg (by simp)]
                exact fin m hm
        · rw [if_neg (by omega), if_neg hll]; rfl
      · obtain ⟨l1, l2, l3⟩ := hlen
        rw [e1] at e
        simp only [show ¬ (7 : Int) = 1 by decide, if_false, if_true] at e
        simp only [e1, e, if_true, List.length_replicate, List.length_nil, show ¬ (7 : Int) = 1 by decide, show ¬ (7 : Int) = 9 by decide, if_false] at l1 l2 l3 ⊢
        rw [sumW (by omega) (by omega) (by omega)]
        by_cases hll : (l.length : Int) = prod d
        · rw [if_pos (by omega), if_pos hll, ob_some]
          by_cases hb : l.any (badP (t.fF.length + t.fI.length + t.fB.length)) = true
          · rw [if_pos hb, if_pos hb]; rfl
          · rw [if_neg hb, if_neg hb]
            have hnl : (prod d).toNat = l.length := by omega
            rw [hnl]
            have fin : ∀ m : List Int, m.length = l.length → tens_Pick.c2 fu t l (⟨7, d, [], List.replicate l.length 0, []⟩, 0) [] m = some (⟨7, d, [], m, []⟩, 0) := fun m hm => by
              simp [tens_Pick.c2, tens_Pick.c3, chk, jc, hm]
            rw [if_pos (by simp)]
            unfold tens_Pick.c1; try unfold jc
            rw [chk_pos (by simp)]
            simp only [List.length_replicate]
            by_cases h0 : l = []
            · subst h0
              exact (if_pos rfl).trans (fin [] rfl)
            · have hpos : 0 < l.length := List.length_pos_iff.2 h0
              rw [if_neg (by omega)]
              unfold tens_Pick.W2
              refine (pick_loop (fun (m : List Int) (k : Nat) => (m, (k : Int))) (fun _ => false) (pkOf t.fI 0) 0 (e := none) (c := fun m => some (⟨7, d, [], m, []⟩, 0)) ?_ ?_ (fun a => pkOf_neg) hfl).trans (by simp)
              · intro next k m hk hm
                have hnb := notbad hb hk
                unfold tens_Pick.L2
                simp only [Int.toNat_natCast, List.length_replicate]
                rw [if_pos (by omega), at?_get hk, ob_some, wk_succ (by omega), if_neg (show ¬ (false = true) by decide)]
                by_cases ha : 0 ≤ l[k]
                · rw [if_pos ha, if_pos ha, at?_pk (z := 0) ha (by omega), ob_some, chk_pos (by omega), chk_pos (by omega)]
                · rw [if_neg ha, if_neg ha]
              · intro next m hm
                unfold tens_Pick.L2
                rw [if_neg (by simp)]
                exact fin m hm
        · rw [if_neg (by omega), if_neg hll]; rfl
      · obtain ⟨l1, l2, l3⟩ := hlen
        rw [e1] at e
        simp only [show ¬ (9 : Int) = 1 by decide, show ¬ (9 : Int) = 7 by decide, if_false] at e
        simp only [e1, e, if_true, List.length_replicate, List.length_nil, show ¬ (9 : Int) = 1 by decide, show ¬ (9 : Int) = 7 by decide, if_false] at l1 l2 l3 ⊢
        rw [sumW (by omega) (by omega) (by omega)]
        by_cases hll : (l.length : Int) = prod d
        · rw [if_pos (by omega), if_pos hll, ob_some]
          by_cases hb : l.any (badP (t.fF.length + t.fI.length + t.fB.length)) = true
          · rw [if_pos hb, if_pos hb]; rfl
          · rw [if_neg hb, if_neg hb]
            have hnl : (prod d).toNat = l.length := by omega
            rw [hnl]
            have fin : ∀ m : List Bool, m.length = l.length → tens_Pick.c3 fu (⟨9, d, [], [], List.replicate l.length false⟩, 0) [] [] m = some (⟨9, d, [], [], m⟩, 0) := fun m hm => by
              simp [tens_Pick.c3, chk, hm]
            rw [if_pos (by simp)]
            unfold tens_Pick.c1; try unfold jc
            rw [chk_pos (by simp), if_pos (by simp)]
            unfold tens_Pick.c2; try unfold jc
            rw [chk_pos (by simp)]
            simp only [List.length_replicate]
            by_cases h0 : l = []
            · subst h0
              exact (if_pos rfl).trans (fin [] rfl)
            · have hpos : 0 < l.length := List.length_pos_iff.2 h0
              rw [if_neg (by omega)]
              unfold tens_Pick.W1
              refine (pick_loop (fun (m : List Bool) (k : Nat) => (m, (k : Int))) (fun _ => false) (pkOf t.fB false) false (e := none) (c := fun m => some (⟨9, d, [], [], m⟩, 0)) ?_ ?_ (fun a => pkOf_neg) hfl).trans (by simp)
              · intro next k m hk hm
                have hnb := notbad hb hk
                unfold tens_Pick.L1
                simp only [Int.toNat_natCast, List.length_replicate]
                rw [if_pos (by omega), at?_get hk, ob_some, wk_succ (by omega), if_neg (show ¬ (false = true) by decide)]
                by_cases ha : 0 ≤ l[k]
                · rw [if_pos ha, if_pos ha, at?_pk (z := false) ha (by omega), ob_some, chk_pos (by omega), chk_pos (by omega)]
                · rw [if_neg ha, if_neg ha]
              · intro next m hm
                unfold tens_Pick.L1
                rw [if_neg (by simp)]
                exact fin m hm
        · rw [if_neg (by omega), if_neg hll]; rfl
    · rw [if_neg hn, if_neg hn]; rfl
  · rw [if_neg hc, if_neg hc]; rfl
end Go.Av
set_option linter.unusedVariables false
namespace Go.Av
theorem nodup_len : ∀ (n : Nat) (l : List Nat), l.Nodup → (∀ x ∈ l, x < n) → l.length ≤ n
  | 0, [], _, _ => Nat.le_refl _
  | 0, x :: l, _, h => by have := h x (by simp); omega
  | n + 1, l, hn, h => by
    by_cases hm : n ∈ l
    · have h1 := nodup_len n (l.erase n) (hn.erase n) fun x hx => by
        have h2 := (hn.mem_erase_iff).1 hx
        have := h x h2.2
        have := h2.1
        omega
      have := List.length_erase_of_mem hm
      omega
    · have := nodup_len n l hn fun x hx => by
        have := h x hx
        have : x ≠ n := fun e => hm (e ▸ hx)
        omega
      omega
theorem perm_range : ∀ (n : Nat) (l : List Nat), l.Nodup → (∀ x ∈ l, x < n) → l.length = n → l.Perm (List.range n)
  | 0, [], _, _, _ => .refl _
  | 0, x :: l, _, h, _ => by have := h x (by simp); omega
  | n + 1, l, hn, h, hl => by
    by_cases hm : n ∈ l
    · have h1 := perm_range n (l.erase n) (hn.erase n) (fun x hx => by
        have h2 := (hn.mem_erase_iff).1 hx
        have := h x h2.2
        have := h2.1
        omega) (by have := List.length_erase_of_mem hm; omega)
      rw [List.range_succ]
      exact ((List.perm_cons_erase hm).trans (h1.cons n)).trans (List.perm_append_singleton n _).symm
    · have := nodup_len n l hn fun x hx => by
        have := h x hx
        have : x ≠ n := fun e => hm (e ▸ hx)
        omega
      omega
def dotV : List Int → List Int → Int
  | x :: xs, y :: ys => x * y + dotV xs ys
  | _, _ => 0
def gI (l : List Int) (k : Nat) : Int := l.getD k 0
theorem gI_get {l : List Int} {k : Nat} (h : k < l.length) : gI l k = l[k] := by
  unfold gI; rw [List.getD_eq_getElem?_getD, List.getElem?_eq_getElem h]; rfl
theorem ext_gI {l m : List Int} (h : l.length = m.length) (hg : ∀ k, k < l.length → gI l k = gI m k) : l = m := by
  refine List.ext_getElem h fun k h1 h2 => ?_
  have := hg k h1
  rwa [gI_get h1, gI_get h2] at this
theorem range_gI {l : List Int} : (List.range l.length).map (gI l) = l := by
  refine List.ext_getElem (by simp) fun k h1 h2 => ?_
  simp only [List.getElem_map, List.getElem_range]
  exact gI_get h2
structure PermOK (p : List Int) (n : Nat) : Prop where
  len : p.length = n
  rng : ∀ x ∈ p, 0 ≤ x ∧ x < n
  nod : p.Nodup
theorem PermOK.nat {p : List Int} {n : Nat} (h : PermOK p n) : (p.map Int.toNat).Perm (List.range n) := by
  refine perm_range n _ ?_ (fun x hx => ?_) (by simp [h.len])
  · have : ∀ (l : List Int), l.Nodup → (∀ x ∈ l, 0 ≤ x) → (l.map Int.toNat).Nodup := by
      intro l
      induction l with
      | nil => intro _ _; simp
      | cons x l ih =>
        intro hn hr
        rw [List.nodup_cons] at hn
        rw [List.map_cons, List.nodup_cons]
        refine ⟨fun hm => ?_, ih hn.2 fun y hy => hr y (by simp [hy])⟩
        obtain ⟨y, hy, he⟩ := List.mem_map.1 hm
        have h1 := hr x (by simp)
        have h2 := hr y (by simp [hy])
        have : y = x := by omega
        exact hn.1 (this ▸ hy)
    exact this p h.nod fun x hx => (h.rng x hx).1
  · obtain ⟨y, hy, rfl⟩ := List.mem_map.1 hx
    have := h.rng y hy
    omega
structure IsBack (p b : List Int) (n : Nat) : Prop where
  len : b.length = n
  at_ : ∀ i, i < n → gI b (gI p i).toNat = i
theorem PermOK.get {p : List Int} {n : Nat} (h : PermOK p n) {i : Nat} (hi : i < n) : 0 ≤ gI p i ∧ gI p i < n := by
  have hl := h.len
  rw [gI_get (by omega)]; exact h.rng _ (List.getElem_mem _)
theorem PermOK.onto {p : List Int} {n : Nat} (h : PermOK p n) {j : Nat} (hj : j < n) : ∃ i, i < n ∧ gI p i = j := by
  have hl := h.len
  have : j ∈ p.map Int.toNat := h.nat.mem_iff.2 (List.mem_range.2 hj)
  obtain ⟨x, hx, he⟩ := List.mem_map.1 this
  obtain ⟨i, hi, rfl⟩ := List.getElem_of_mem hx
  have := h.rng _ hx
  exact ⟨i, by omega, by rw [gI_get hi]; omega⟩
theorem IsBack.inv {p b : List Int} {n : Nat} (hp : PermOK p n) (h : IsBack p b n) {j : Nat} (hj : j < n) : 0 ≤ gI b j ∧ gI b j < n ∧ gI p (gI b j).toNat = j := by
  obtain ⟨i, hi, he⟩ := hp.onto hj
  have h1 := h.at_ i hi
  rw [he, Int.toNat_natCast] at h1
  rw [h1]
  refine ⟨by omega, by omega, ?_⟩
  rw [Int.toNat_natCast]; exact he
theorem okIx_of : ∀ {l xs : List Int}, xs.length = l.length → (∀ j, j < l.length → 0 ≤ gI xs j ∧ gI xs j < gI l j) → okIx l xs = true
  | [], [], _, _ => rfl
  | d :: l, x :: xs, hl, h => by
    have h0 := h 0 (by simp)
    have h1 := okIx_of (l := l) (xs := xs) (by simpa using hl) fun j hj => by
      have := h (j + 1) (by simp; omega)
      simpa [gI] using this
    simp [gI] at h0
    simp [okIx, h0, h1]
theorem okIx_at : ∀ {l xs : List Int}, xs.length = l.length → okIx l xs = true → ∀ j, j < l.length → 0 ≤ gI xs j ∧ gI xs j < gI l j
  | [], [], _, _, j, hj => by simp at hj
  | d :: l, x :: xs, hl, h, j, hj => by
    simp only [okIx, Bool.and_eq_true, decide_eq_true_eq] at h
    cases j with
    | zero => simpa [gI] using h.1
    | succ j =>
      have := okIx_at (l := l) (xs := xs) (by simpa using hl) h.2 j (by simpa using hj)
      simpa [gI] using this
theorem offV_lt : ∀ {l xs : List Int}, (∀ x ∈ l, 0 ≤ x) → xs.length = l.length → okIx l xs = true → 0 ≤ offV l xs ∧ offV l xs < prod l
  | [], [], _, _, _ => by simp [offV, prod]
  | d :: l, x :: xs, hp, hl, h => by
    simp only [okIx, Bool.and_eq_true, decide_eq_true_eq] at h
    obtain ⟨h1, h2⟩ := offV_lt (l := l) (xs := xs) (fun y hy => hp y (by simp [hy])) (by simpa using hl) h.2
    simp only [offV, prod]
    have m1 : (x + 1) * prod l ≤ d * prod l := Int.mul_le_mul_of_nonneg_right (by omega) (by omega)
    rw [Int.add_mul, Int.one_mul] at m1
    have m2 : 0 ≤ x * prod l := Int.mul_nonneg h.1.1 (by omega)
    omega
theorem idxV_off : ∀ {l xs : List Int}, (∀ x ∈ l, 0 ≤ x) → xs.length = l.length → okIx l xs = true → idxV l (offV l xs) = xs
  | [], [], _, _, _ => rfl
  | d :: l, x :: xs, hp, hl, h => by
    simp only [okIx, Bool.and_eq_true, decide_eq_true_eq] at h
    have hp' := fun y (hy : y ∈ l) => hp y (by simp [hy])
    have hl' : xs.length = l.length := by simpa using hl
    obtain ⟨h1, h2⟩ := offV_lt hp' hl' h.2
    have ih := idxV_off hp' hl' h.2
    simp only [offV, idxV]
    have e1 : (x * prod l + offV l xs) / prod l = x := by
      rw [Int.add_comm, Int.add_mul_ediv_right _ _ (by omega), Int.ediv_eq_zero_of_lt h1 h2]; omega
    have e2 : (x * prod l + offV l xs) % prod l = offV l xs := by
      rw [Int.add_comm, Int.add_mul_emod_self_right, Int.emod_eq_of_lt h1 h2]
    rw [e1, e2, ih]
def strV : List Int → List Int
  | [] => []
  | _ :: l => prod l :: strV l
theorem strV_length : ∀ l, (strV l).length = l.length
  | [] => rfl
  | _ :: l => by simp [strV, strV_length l]
theorem dot_strV : ∀ {l xs : List Int}, dotV xs (strV l) = offV l xs
  | [], [] => rfl
  | [], x :: xs => rfl
  | d :: l, [] => rfl
  | d :: l, x :: xs => by simp only [strV, dotV, offV, dot_strV]
end Go.Av
set_option linter.unusedVariables false
namespace Go.Av
theorem cloop_suc {σ β : Type} {body : (σ → Option β) → σ → Option β} {n : Nat} {s : σ} : cloop body (n + 1) s = body (cloop body n) s := rfl
theorem cloop_to {τ β : Type} {body : (τ → Option β) → τ → Option β} (N : Nat) (st : Nat → τ) (r : Option β) (h : ∀ k, k < N → ∀ next, next (st (k + 1)) = r → body next (st k) = r)
    (he : ∀ next, body next (st N) = r) {n : Nat} (hn : N < n) : cloop body n (st 0) = r := by
  have : ∀ m k, k ≤ N → N - k < m → cloop body m (st k) = r := by
    intro m
    induction m with
    | zero => intro k _ h; omega
    | succ m ih =>
      intro k hk hm
      by_cases hkN : k = N
      · subst hkN; exact he _
      · exact h k (by omega) _ (ih (k + 1) (by omega) (by omega))
  exact this n 0 (by omega) (by omega)
def incV (d i : List Int) : Nat → Option (List Int)
  | 0 => none
  | m + 1 => if gI i m + 1 < gI d m then some (i.take m ++ (gI i m + 1) :: List.replicate (d.length - (m + 1)) 0) else incV d i m
theorem incV_cons {d x : Int} {l xs : List Int} : ∀ m, incV (d :: l) (x :: xs) (m + 1) = match incV l xs m with | some ys => some (x :: ys) | none => if x + 1 < d then some ((x + 1) :: List.replicate l.length 0) else none
  | 0 => by simp [incV, gI]
  | m + 1 => by
    have ih := incV_cons (d := d) (x := x) (l := l) (xs := xs) m
    rw [incV]
    have e1 : gI (x :: xs) (m + 1) = gI xs m := by simp [gI]
    have e2 : gI (d :: l) (m + 1) = gI l m := by simp [gI]
    rw [e1, e2]
    conv => rhs; rw [incV]
    by_cases h : gI xs m + 1 < gI l m
    · rw [if_pos h, if_pos h]
      simp
    · rw [if_neg h, if_neg h, ih]
theorem idxV_zero : ∀ {l : List Int}, idxV l 0 = List.replicate l.length 0
  | [] => rfl
  | d :: l => by simp [idxV, idxV_zero, List.replicate_succ]
theorem incV_idx : ∀ {l : List Int} {k : Int}, (∀ x ∈ l, 1 ≤ x) → 0 ≤ k → k < prod l → incV l (idxV l k) l.length = if k + 1 < prod l then some (idxV l (k + 1)) else none
  | [], k, _, h0, h1 => by
    have h1' : k < 1 := h1
    rw [if_neg (show ¬ k + 1 < prod [] from fun h => by have h' : k + 1 < 1 := h; omega)]; rfl
  | d :: l, k, hp, h0, h1 => by
    have hp' : ∀ x ∈ l, 1 ≤ x := fun x hx => hp x (by simp [hx])
    have hq : 1 ≤ prod l := prod_pos hp'
    have hr0 := Int.emod_nonneg k (b := prod l) (by omega)
    have hr1 := Int.emod_lt_of_pos k (b := prod l) (by omega)
    have hq0 : 0 ≤ k / prod l := Int.ediv_nonneg h0 (by omega)
    have hq1 : k / prod l < d := Int.ediv_lt_of_lt_mul (by omega) h1
    have hk := Int.mul_ediv_add_emod k (prod l)
    have ih := incV_idx hp' hr0 hr1
    rw [List.length_cons]
    show incV (d :: l) (k / prod l :: idxV l (k % prod l)) (l.length + 1) = _
    rw [incV_cons, ih]
    have hpd : prod (d :: l) = d * prod l := rfl
    rw [hpd] at h1 ⊢
    clear hpd ih hp'
    generalize hqq : k / prod l = q at *
    generalize hrr : k % prod l = r at *
    generalize hP : prod l = P at *
    by_cases hc : r + 1 < P
    · rw [if_pos hc]
      have e : k + 1 = P * q + (r + 1) := by omega
      have e1 : (k + 1) / P = q := by rw [e, Int.add_comm, Int.add_mul_ediv_left _ _ (by omega), Int.ediv_eq_zero_of_lt (by omega) hc]; omega
      have e2 : (k + 1) % P = r + 1 := by rw [e, Int.add_comm, Int.add_mul_emod_self_left, Int.emod_eq_of_lt (by omega) hc]
      have m1 : (q + 1) * P ≤ d * P := Int.mul_le_mul_of_nonneg_right (by omega) (by omega)
      rw [Int.add_mul, Int.one_mul, Int.mul_comm q P] at m1
      rw [if_pos (show k + 1 < d * P by omega)]
      simp only [idxV, hP, e1, e2]
    · rw [if_neg hc]
      have e : k + 1 = P * (q + 1) := by rw [Int.mul_add, Int.mul_one]; omega
      have e1 : (k + 1) / P = q + 1 := by rw [e, Int.mul_ediv_cancel_left _ (by omega)]
      have e2 : (k + 1) % P = 0 := by rw [e, Int.mul_emod_right]
      simp only
      by_cases hd : q + 1 < d
      · have m1 : (q + 1 + 1) * P ≤ d * P := Int.mul_le_mul_of_nonneg_right (by omega) (by omega)
        rw [Int.add_mul, Int.one_mul, Int.mul_comm (q + 1) P] at m1
        rw [if_pos hd, if_pos (show k + 1 < d * P by omega)]
        simp only [idxV, hP, e1, e2, idxV_zero]
      · have m1 : d * P ≤ (q + 1) * P := Int.mul_le_mul_of_nonneg_right (by omega) (by omega)
        rw [Int.mul_comm (q + 1) P] at m1
        rw [if_neg hd, if_neg (show ¬ k + 1 < d * P by omega)]
theorem take_get {i : List Int} {m : Nat} (h : m < i.length) : i.take (m + 1) = i.take m ++ [gI i m] := by
  rw [List.take_add_one, List.getElem?_eq_getElem h, gI_get h]; rfl
theorem set_mid {a b : List Int} {x y : Int} {m : Nat} (h : a.length = m) : (a ++ x :: b).set m y = a ++ y :: b := by
  subst h
  rw [List.set_append_right _ _ (Nat.le_refl _)]
  simp
theorem get_mid {a b : List Int} {x : Int} {m : Nat} (h : a.length = m) : at? (a ++ x :: b) (m : Int) = some x := by
  subst h
  rw [at?_get (by simp)]
  simp
theorem inner_spec {fu : Nat} {t : T_Tensor} {d i l0 : List Int} {v : Int} {nx1 : List Int → List Int → Option T_Tensor} (hl : i.length = d.length) (hd : d.length ≤ 8) (hi : ∀ j, j < d.length → 0 ≤ gI i j ∧ gI i j ≤ 4096) :
    ∀ (m q : Nat), m ≤ d.length → m < q → cloop (fun next s => moves_picked.L2 fu nx1 t d l0 v (fun a b => next (a, b)) s.1 s.2) q (i.take m ++ List.replicate (d.length - m) 0, (m : Int) - 1) =
      match incV d i m with | some ys => nx1 (l0 ++ [v]) ys | none => (tens_Pick fu t d (l0 ++ [v])).bind fun x => some x.1
  | 0, q, hm, hq => by
    obtain ⟨q, rfl⟩ : ∃ q', q = q' + 1 := ⟨q - 1, by omega⟩
    rw [cloop_suc]
    simp only [moves_picked.L2]
    rw [if_neg (by omega)]
    rfl
  | m + 1, q, hm, hq => by
    obtain ⟨q, rfl⟩ : ∃ q', q = q' + 1 := ⟨q - 1, by omega⟩
    obtain ⟨i0, i1⟩ := hi m (by omega)
    have htl : (i.take m).length = m := by simp; omega
    rw [cloop_suc]
    simp only [moves_picked.L2]
    rw [show ((m + 1 : Nat) : Int) - 1 = (m : Int) by omega, if_pos (by omega), take_get (by omega), List.append_assoc]
    show (at? (i.take m ++ gI i m :: List.replicate (d.length - (m + 1)) 0) (m : Int)).bind _ = _
    have hlen : (i.take m ++ gI i m :: List.replicate (d.length - (m + 1)) 0).length = d.length := by simp; omega
    rw [get_mid htl, ob_some, chk_pos (by simp; omega), Int.toNat_natCast, wk_eq (x := gI i m + 1) (by omega) (by omega)]
    show (at? ((i.take m ++ gI i m :: List.replicate (d.length - (m + 1)) 0).set m (gI i m + 1)) (m : Int)).bind _ = _
    rw [set_mid htl, get_mid htl, ob_some, at?_get (by omega), ob_some]
    conv => rhs; rw [incV]
    rw [← gI_get (l := d) (by omega)]
    by_cases hc : gI i m + 1 < gI d m
    · rw [if_pos hc, if_pos hc]
      show nx1 (l0 ++ [v]) ((i.take m ++ gI i m :: List.replicate (d.length - (m + 1)) 0).set m (gI i m + 1)) = _
      rw [set_mid htl]
    · rw [if_neg hc, if_neg hc]
      show chk (0 ≤ (m : Int) ∧ (m : Int) < (((i.take m ++ gI i m :: List.replicate (d.length - (m + 1)) 0).set m (gI i m + 1)).length : Int)) (cloop _ q (((i.take m ++ gI i m :: List.replicate (d.length - (m + 1)) 0).set m (gI i m + 1)).set m 0, wk .i64 ((m : Int) - 1))) = _
      rw [chk_pos (by rw [List.length_set, hlen]; omega), set_mid htl, set_mid htl, wk_eq (by omega) (by omega)]
      have := inner_spec (nx1 := nx1) (t := t) (fu := fu) (l0 := l0) (v := v) hl hd hi m q (by omega) (by omega)
      rw [← this]
      congr 2
      rw [show d.length - m = (d.length - (m + 1)) + 1 by omega, List.replicate_succ]
theorem idx_small {l : List Int} {k : Int} (hg : Good l) (hp : ∀ x ∈ l, 1 ≤ x) (h0 : 0 ≤ k) (h1 : k < prod l) : ∀ j, j < l.length → 0 ≤ gI (idxV l k) j ∧ gI (idxV l k) j ≤ 4096 := fun j hj => by
  have h2 := okIx_at (idxV_length l k) (okIx_idx hp h0 h1) j hj
  have h3 := hg.2.1 _ (List.getElem_mem hj)
  rw [← gI_get hj] at h3
  omega
theorem picked_spec {fu : Nat} {t : T_Tensor} {d : List Int} {N : Nat} {p2 : List Int → Option Int} {f : Nat → Int} (hs : Small t) (hft : Fuel fu t) (hg : Good d) (hN : prod d = (N : Int)) (hf : 5000 < fu)
    (hp : ∀ k : Nat, k < N → p2 (idxV d (k : Int)) = some (f k)) : moves_picked fu t d p2 = some (pickV t d ((List.range N).map f)).1 := by
  have h8 := hg.1
  have h4 := hg.2.2
  unfold moves_picked
  rw [Contains_spec (by unfold Short; omega) (by omega), ob_some]
  by_cases hz : (d.any fun y => decide ((0 : Int) = y)) = true
  · have hz' : (0 : Int) ∈ d := by
      obtain ⟨x, hx, hx2⟩ := List.any_eq_true.1 hz
      simp at hx2; subst hx2; exact hx
    have : N = 0 := by have := prod_zero hz'; omega
    subst this
    rw [if_pos hz, Pick_spec hs hft (by unfold Short; omega) (by omega) (by simp [Short]) (by simp; omega)]
    rfl
  · rw [if_neg hz]
    have hpos : ∀ x ∈ d, 1 ≤ x := fun x hx => by
      have := (hg.2.1 x hx).1
      simp only [List.any_eq_true, decide_eq_true_eq, not_exists, not_and] at hz
      have := hz x hx; omega
    have h1 := prod_pos hpos
    rw [chk_pos (by omega), Int.toNat_natCast]
    unfold moves_picked.W1
    have hz0 : (([] : List Int), List.replicate d.length (0 : Int)) = ((fun k : Nat => ((List.range k).map f, idxV d (k : Int))) 0) := by simp [idxV_zero]
    rw [hz0]
    have step : ∀ (k : Nat), k < N → ∀ (next : List Int × List Int → Option T_Tensor), moves_picked.L1 fu p2 t d (fun a b => next (a, b)) ((List.range k).map f) (idxV d (k : Int)) = if k + 1 < N then next ((List.range (k + 1)).map f, idxV d ((k + 1 : Nat) : Int)) else (tens_Pick fu t d ((List.range (k + 1)).map f)).bind fun x => some x.1 := fun k hk next => by
      have hlk : ((List.range k).map f).length = k := by simp
      unfold moves_picked.L1 moves_picked.W2
      rw [hp k hk, ob_some, chk_pos (by rw [hlk]; omega), wk_eq (by omega) (by omega)]
      have hil : (idxV d (k : Int)).length = d.length := idxV_length _ _
      have := inner_spec (fu := fu) (t := t) (l0 := (List.range k).map f) (v := f k) (nx1 := fun a b => next (a, b)) hil h8 (idx_small hg hpos (by omega) (by omega)) d.length fu (Nat.le_refl _) (by omega)
      rw [Nat.sub_self, List.replicate_zero, List.append_nil, List.take_of_length_le (by omega), incV_idx hpos (by omega) (by omega)] at this
      rw [this]
      have e : (List.range k).map f ++ [f k] = (List.range (k + 1)).map f := by rw [List.range_succ, List.map_append]; rfl
      by_cases hc : k + 1 < N
      · rw [if_pos hc, if_pos (by omega), e]
        show next (_, _) = _
        rw [show ((k : Int) + 1) = ((k + 1 : Nat) : Int) by omega]
      · rw [if_neg hc, if_neg (by omega), e]
    refine cloop_to (N - 1) (fun k : Nat => ((List.range k).map f, idxV d (k : Int))) _ ?_ ?_ (by omega)
    · intro k hk next hn
      show moves_picked.L1 fu p2 t d (fun a b => next (a, b)) ((List.range k).map f) (idxV d (k : Int)) = _
      rw [step k (by omega), if_pos (by omega)]
      exact hn
    · intro next
      show moves_picked.L1 fu p2 t d (fun a b => next (a, b)) ((List.range (N - 1)).map f) (idxV d ((N - 1 : Nat) : Int)) = _
      rw [step (N - 1) (by omega), if_neg (by omega), show N - 1 + 1 = N by omega, Pick_spec hs hft (by unfold Short; omega) (by omega) (by simp [Short]; omega) (by simp; omega)]
      rfl
end Go.Av
set_option linter.unusedVariables false
namespace Go.Av
def axisV (a : Int) (n : Nat) : Option Int := if 0 ≤ a then (if a < n then some a else none) else if -(n : Int) ≤ a then some (n + a) else none
theorem Axis_spec {fu : Nat} {a : Int} {n : Nat} (hn : n ≤ 100) : shape_Axis fu a (n : Int) = some (match axisV a n with | some k => (k, 0) | none => (0, 2)) := by
  unfold shape_Axis axisV
  rw [if_neg (by omega), wk_eq (x := 0 - (n : Int)) (by omega) (by omega)]
  by_cases h : 0 ≤ a
  · rw [if_pos h, if_pos h]
    by_cases h1 : a < n
    · rw [if_pos h1, if_pos h1]
    · rw [if_neg h1, if_neg h1]
  · rw [if_neg h, if_neg h]
    by_cases h1 : 0 - (n : Int) ≤ a
    · rw [if_pos h1, if_pos (show -(n : Int) ≤ a by omega), wk_eq (by omega) (by omega)]
    · rw [if_neg h1, if_neg (show ¬ -(n : Int) ≤ a by omega)]
theorem axisV_rng {a : Int} {n : Nat} {k : Int} (h : axisV a n = some k) : 0 ≤ k ∧ k < n := by
  unfold axisV at h
  split at h
  · split at h
    · injection h with h; omega
    · cases h
  · split at h
    · injection h with h; omega
    · cases h
section
variable {fu : Nat}
theorem width_s {k : Int} (h : Known k) : ∃ w, tens_Width fu k = some w ∧ 0 < w := by
  unfold tens_Width
  rcases h with rfl | rfl | rfl
  · exact ⟨4, rfl, by decide⟩
  · exact ⟨8, rfl, by decide⟩
  · exact ⟨1, rfl, by decide⟩
end
theorem dotV_nonneg : ∀ {xs ys : List Int}, (∀ x ∈ xs, 0 ≤ x) → (∀ y ∈ ys, 0 ≤ y) → 0 ≤ dotV xs ys
  | [], _, _, _ => by simp [dotV]
  | _ :: _, [], _, _ => by simp [dotV]
  | x :: xs, y :: ys, hx, hy => by
    have h1 := dotV_nonneg (xs := xs) (ys := ys) (fun z hz => hx z (by simp [hz])) (fun z hz => hy z (by simp [hz]))
    have h2 : 0 ≤ x * y := Int.mul_nonneg (hx x (by simp)) (hy y (by simp))
    simp only [dotV]; omega
theorem dot_spec {fu : Nat} {xs ys : List Int} (hl : xs.length = ys.length) (hx : ∀ x ∈ xs, 0 ≤ x) (hy : ∀ y ∈ ys, 0 ≤ y) (hb : dotV xs ys ≤ 1000000) (hn : ys.length ≤ 100) (hf : 200 < fu) : moves_dot fu xs ys = some (dotV xs ys) := by
  unfold moves_dot moves_dot.W1
  refine (cloop_ind (fun (s : Int × Int) => some (s.1 + dotV (xs.drop s.2.toNat) (ys.drop s.2.toNat))) (fun s => 0 ≤ s.2 ∧ s.2 ≤ ys.length ∧ 0 ≤ s.1 ∧ s.1 + dotV (xs.drop s.2.toNat) (ys.drop s.2.toNat) ≤ 1000000) (fun s => ys.length - s.2.toNat) ?_ fu _ (by simp; omega) (by simp; omega)).trans (by simp)
  rintro ⟨a, i⟩ ⟨h0, h1, h2, h3⟩ next hn2
  simp only at h0 h1 h2 h3 hn2 ⊢
  obtain ⟨k, rfl⟩ := Int.eq_ofNat_of_zero_le h0
  unfold moves_dot.L1
  simp only [Int.toNat_natCast] at h3 ⊢
  by_cases hk : k < ys.length
  · have hk2 : k < xs.length := by omega
    rw [List.drop_eq_getElem_cons hk, List.drop_eq_getElem_cons hk2] at h3 ⊢
    simp only [dotV] at h3 ⊢
    have p1 : 0 ≤ xs[k] * ys[k] := Int.mul_nonneg (hx _ (List.getElem_mem hk2)) (hy _ (List.getElem_mem hk))
    have p2 : 0 ≤ dotV (xs.drop (k + 1)) (ys.drop (k + 1)) := dotV_nonneg (fun z hz => hx z (List.mem_of_mem_drop hz)) (fun z hz => hy z (List.mem_of_mem_drop hz))
    rw [if_pos (by omega), at?_get hk, ob_some, at?_get hk2, ob_some, wk_eq (x := xs[k] * ys[k]) (by omega) (by omega), wk_eq (x := a + xs[k] * ys[k]) (by omega) (by omega), wk_succ (by omega)]
    rw [hn2 (_, ((k + 1 : Nat) : Int)) ⟨by simp only []; omega, by simp only []; omega, by simp only []; omega, by simp only [Int.toNat_natCast]; omega⟩ (by simp; omega)]
    simp only [Int.toNat_natCast]
    congr 1
    omega
  · rw [if_neg (by omega), List.drop_of_length_le (by omega), List.drop_of_length_le (by omega)]
    simp [dotV]
theorem strdW_pos : ∀ {l : List Int}, (∀ x ∈ l, 1 ≤ x) → prod l ≤ 1000000 → strdW l = strV l
  | [], _, _ => rfl
  | d :: l, h, hb => by
    have h' : ∀ x ∈ l, 1 ≤ x := fun x hx => h x (by simp [hx])
    have h1 := prod_pos h'
    have h2 : 1 * prod l ≤ d * prod l := Int.mul_le_mul_of_nonneg_right (h d (by simp)) (by omega)
    simp only [prod] at hb
    have h3 : prod l ≤ 1000000 := by omega
    simp only [strdW, strV]
    rw [strdW_pos h' h3, wk_eq (by omega) (by omega)]
theorem strV_nonneg : ∀ {l : List Int}, (∀ x ∈ l, 1 ≤ x) → ∀ y ∈ strV l, 0 ≤ y
  | [], _, y, hy => by simp [strV] at hy
  | d :: l, h, y, hy => by
    have h' : ∀ x ∈ l, 1 ≤ x := fun x hx => h x (by simp [hx])
    simp only [strV, List.mem_cons] at hy
    rcases hy with rfl | hy
    · have := prod_pos h'; omega
    · exact strV_nonneg h' y hy
section
variable {fu : Nat}
theorem strides_m {l : List Int} (hg : Good l) (hf : 20 < fu) : moves_strides fu l = some (strdW l) := by
  have h8 := hg.1
  unfold moves_strides shape_Strides
  rw [Size_spec (by unfold Short; omega) (by omega), ob_some, sizeV, if_pos hg, if_pos rfl, strides_spec (by omega) (by omega), ob_some, ob_some]
theorem canonT_check {t : T_Tensor} : checkV (canonT t) = checkV t := by
  unfold checkV LensOK canonT
  simp only [List.length_map]
theorem canonT_small {t : T_Tensor} (h : Ten t) : Small (canonT t) := by
  have := h.small
  unfold Small canonT at *
  simpa using this
theorem canonT_fuel {t : T_Tensor} (h : Fuel fu t) : Fuel fu (canonT t) := by
  unfold Fuel canonT at *
  simpa using h
end
theorem pk_get {α : Type} {L : List α} {z : α} {a : Int} (h0 : 0 ≤ a) (h1 : a < L.length) : pkOf L z a = L[a.toNat]'(by omega) := by
  unfold pkOf
  rw [if_pos h0, List.getD_eq_getElem?_getD, List.getElem?_eq_getElem (by omega)]
  rfl
theorem len_small {t : T_Tensor} (hc : checkV t = 0) : t.fDims.length ≤ 8 ∧ t.fF.length ≤ 4096 ∧ t.fI.length ≤ 4096 ∧ t.fB.length ≤ 4096 := by
  obtain ⟨hk, hg, l1, l2, l3⟩ := checkV_zero.1 hc
  have h8 := hg.1
  have h4 := hg.2.2
  refine ⟨h8, ?_, ?_, ?_⟩
  · split at l1 <;> omega
  · split at l2 <;> omega
  · split at l3 <;> omega
theorem refCanonF_spec {fu : Nat} {x : Int} (h0 : 0 ≤ x) : ref01_Canon fu x = some (canonF x) := by
  unfold ref01_Canon ref01_IsNone ref01_Abs canonF
  rw [Int.tmod_eq_emod_of_nonneg h0, ob_some, ob_some]
  by_cases h : 2139095040 < x % 2147483648 <;> simp [h]
theorem refCopy_spec {fu : Nat} {t : T_Tensor} (h : Ten t) : ref05_Copy fu t = some t := by
  obtain ⟨h1, h2, h3, h4, _⟩ := h
  unfold ref05_Copy
  rw [chk_pos (by omega), chk_pos (by omega), chk_pos (by omega), chk_pos (by omega)]
theorem refCanon_spec {fu : Nat} {t : T_Tensor} (h : Ten t) (hf : t.fF.length < fu) : ref05_Canon fu t = some (canonT t) := by
  have hu := h.2.2.2.2
  have hl := h.2.1
  unfold ref05_Canon
  rw [refCopy_spec h, ob_some]
  unfold ref05_Canon.W1
  refine map_loop (f := canonF) (c := fun m => some (T_Tensor.mk t.fType t.fDims m t.fI t.fB)) hf ?_ ?_
  · intro next k m hk hm hg
    unfold ref05_Canon.L1
    simp only []
    obtain ⟨u1, u2⟩ := hu _ (List.getElem_mem hk)
    rw [if_pos (by omega), at?_nat, hg, ob_some, refCanonF_spec u1, ob_some, chk_pos (by omega), wk_succ (by omega)]
    rfl
  · intro next m hm
    unfold ref05_Canon.L1
    rw [if_neg (by simp only []; omega)]
end Go.Av
set_option linter.unusedVariables false
namespace Go.Av
def axesV (n : Nat) : List Int → List Bool → Bool → List Bool × Int
  | [], m, tw => if tw = true then ([], 1) else (m, 0)
  | a :: l, m, tw => match axisV a n with
    | some k => axesV n l (m.set k.toNat true) (tw || m.getD k.toNat false)
    | none => ([], 2)
theorem getD_setB {m : List Bool} {a x : Nat} (ha : a < m.length) : (m.set a true).getD x false = if a = x then true else m.getD x false := by
  rw [List.getD_eq_getElem?_getD, List.getElem?_set, List.getD_eq_getElem?_getD]
  by_cases h : a = x
  · subst h; simp [ha]
  · simp [h]
theorem axes_ok {n : Nat} : ∀ (l : List Int) (m : List Bool) (tw : Bool), m.length = n → (∀ x ∈ l, 0 ≤ x) →
    ((axesV n l m tw).2 = 0 ↔ tw = false ∧ (∀ x ∈ l, x < n) ∧ l.Nodup ∧ ∀ x ∈ l, m.getD x.toNat false = false) ∧ ((axesV n l m tw).2 = 0 → (axesV n l m tw).1.length = n)
  | [], m, tw, hm, _ => by
    unfold axesV
    cases tw <;> simp [hm]
  | a :: l, m, tw, hm, hp => by
    have ha := hp a (by simp)
    unfold axesV
    have hv : axisV a n = if a < n then some a else none := by unfold axisV; rw [if_pos ha]
    rw [hv]
    by_cases hlt : a < n
    · rw [if_pos hlt]
      simp only
      have hp' : ∀ x ∈ l, 0 ≤ x := fun x hx => hp x (by simp [hx])
      have hax : ∀ x ∈ l, a ∉ l → ¬ a.toNat = x.toNat := fun x hx hna e => hna (by
        have := hp' x hx
        have e2 : a = x := by omega
        rw [e2]; exact hx)
      obtain ⟨i1, i2⟩ := axes_ok (n := n) l (m.set a.toNat true) (tw || m.getD a.toNat false) (by simp [hm]) hp'
      refine ⟨i1.trans ⟨fun ⟨h1, h2, h3, h4⟩ => ?_, fun ⟨h1, h2, h3, h4⟩ => ?_⟩, i2⟩
      · rw [Bool.or_eq_false_iff] at h1
        have hna : a ∉ l := fun hm2 => by
          have := h4 a hm2
          rw [getD_setB (by omega), if_pos rfl] at this; cases this
        refine ⟨h1.1, fun x hx => ?_, List.nodup_cons.2 ⟨hna, h3⟩, fun x hx => ?_⟩
        · rcases List.mem_cons.1 hx with rfl | hx
          · exact hlt
          · exact h2 x hx
        · rcases List.mem_cons.1 hx with rfl | hx
          · exact h1.2
          · have := h4 x hx
            rw [getD_setB (by omega), if_neg (hax x hx hna)] at this
            exact this
      · rw [List.nodup_cons] at h3
        refine ⟨by rw [h1, h4 a (by simp)]; rfl, fun x hx => h2 x (by simp [hx]), h3.2, fun x hx => ?_⟩
        rw [getD_setB (by omega), if_neg (hax x hx h3.1)]
        exact h4 x (by simp [hx])
    · rw [if_neg hlt]
      simp only
      refine ⟨⟨fun h => absurd h (by decide), fun h => absurd (h.2.1 a (by simp)) hlt⟩, fun h => absurd h (by decide)⟩
theorem Axes_spec {fu : Nat} {p : List Int} {n : Nat} (hn : n ≤ 8) (hl : p.length ≤ 140737488351232) (hf : p.length < fu) : shape_Axes fu p (n : Int) = some (axesV n p (List.replicate n false) false) := by
  unfold shape_Axes jn
  rw [if_neg (by omega), if_neg (by omega)]
  unfold shape_Axes.k1 jn
  rw [chk_pos (by omega), Int.toNat_natCast]
  unfold shape_Axes.W1
  refine (cloop_ind (fun (s : List Bool × Bool × Int) => some (axesV n (p.drop s.2.2.toNat) s.1 s.2.1)) (fun s => 0 ≤ s.2.2 ∧ s.2.2 ≤ p.length ∧ s.1.length = n) (fun s => p.length - s.2.2.toNat) ?_ fu _ (by simp) (by simp; omega)).trans (by simp)
  rintro ⟨m, tw, i⟩ ⟨h0, h1, h2⟩ next hn2
  simp only at h0 h1 h2 hn2 ⊢
  obtain ⟨k, rfl⟩ := Int.eq_ofNat_of_zero_le h0
  unfold shape_Axes.L1
  simp only [Int.toNat_natCast]
  by_cases hk : k < p.length
  · rw [if_pos (by omega), at?_get hk, ob_some, Axis_spec (by omega), ob_some, List.drop_eq_getElem_cons hk, wk_succ (by omega)]
    conv => rhs; unfold axesV
    cases hv : axisV p[k] n with
    | none => simp only; rw [if_neg (by decide)]
    | some a =>
      obtain ⟨a0, a1⟩ := axisV_rng hv
      simp only
      rw [if_pos trivial]
      have hn3 := fun b => hn2 (m.set a.toNat true, b, ((k + 1 : Nat) : Int)) ⟨by simp only []; omega, by simp only []; omega, by simp [h2]⟩ (by simp; omega)
      simp only [Int.toNat_natCast] at hn3
      obtain ⟨j, rfl⟩ := Int.eq_ofNat_of_zero_le a0
      cases tw with
      | true => rw [if_pos rfl, chk_pos (by omega), hn3, Bool.true_or]
      | false =>
        rw [if_neg (by decide), at?_get (by omega), ob_some, chk_pos (by omega), hn3, Bool.false_or, Int.toNat_natCast, List.getD_eq_getElem?_getD, List.getElem?_eq_getElem (by omega)]
        rfl
  · rw [if_neg (by omega), List.drop_of_length_le (by omega)]
    unfold shape_Axes.k2 axesV
    cases tw <;> rfl
end Go.Av
set_option linter.unusedVariables false
namespace Go.Av
def pl {α : Type} (n : Nat) (f : Nat → Int) (L : List α) (z : α) : List α := ((List.range n).map f).map (pkOf L z)
theorem pl_length {α : Type} {n : Nat} {f : Nat → Int} {L : List α} {z : α} : (pl n f L z).length = n := by simp [pl]
theorem pl_back {α : Type} {m n : Nat} {f g : Nat → Int} {L : List α} {z : α} (hL : L.length = n) (hg : ∀ k, k < n → 0 ≤ g k ∧ g k < m ∧ f (g k).toNat = k) : pl n g (pl m f L z) z = L := by
  refine List.ext_getElem (by rw [pl_length, hL]) fun k h1 h2 => ?_
  obtain ⟨q1, q2, q3⟩ := hg k (by omega)
  have a1 : (pl n g (pl m f L z) z)[k] = pkOf (pl m f L z) z (g k) := by simp [pl]
  rw [a1, pk_get q1 (by rw [pl_length]; omega)]
  have a2 : (pl m f L z)[(g k).toNat]'(by rw [pl_length]; omega) = pkOf L z (f (g k).toNat) := by simp [pl]
  rw [a2, q3, pk_get (by omega) (by omega)]
  simp
def pT (e : List Int) (n : Nat) (f : Nat → Int) (t : T_Tensor) : T_Tensor := (pickV t e ((List.range n).map f)).1
structure PickOK (e : List Int) (m n : Nat) (f : Nat → Int) (t : T_Tensor) : Prop where
  chk : checkV t = 0
  good : Good e
  he : prod e = (m : Int)
  hd : prod t.fDims = (n : Int)
  hf : ∀ k, k < m → -1 ≤ f k ∧ f k < n
section
variable {e : List Int} {m n : Nat} {f : Nat → Int} {t : T_Tensor}
theorem pT_eq (h : PickOK e m n f t) : pT e m f t = if t.fType = 1 then ⟨t.fType, e, pl m f t.fF 0, [], []⟩ else if t.fType = 7 then ⟨t.fType, e, [], pl m f t.fI 0, []⟩ else ⟨t.fType, e, [], [], pl m f t.fB false⟩ := by
  obtain ⟨hc, hge, he, hd, hf⟩ := h
  obtain ⟨hk, hg, hL⟩ := checkV_zero.1 hc
  have hnew : (newV t.fType e).2 = 0 := by
    unfold newV
    rw [if_pos (show t.fType = 1 ∨ t.fType = 7 ∨ t.fType = 9 from hk), if_pos hge]
    split
    · rfl
    · split <;> rfl
  have hlen : ((((List.range m).map f).length : Nat) : Int) = prod e := by simp; omega
  have hsum : (t.fF.length : Int) + t.fI.length + t.fB.length = prod t.fDims := by
    obtain ⟨l1, l2, l3⟩ := hL
    rcases hk with e | e | e <;> simp [e] at l1 l2 l3 <;> simp [l1, l2, l3]
  have hbad : ¬ (((List.range m).map f).any (badP (t.fF.length + t.fI.length + t.fB.length)) = true) := by
    rw [hsum]
    intro h
    obtain ⟨x, hx, hx2⟩ := List.any_eq_true.1 h
    obtain ⟨k, hk, rfl⟩ := List.mem_map.1 hx
    have := hf k (List.mem_range.1 hk)
    simp [badP] at hx2
    omega
  unfold pT pickV
  rw [if_pos hc, if_pos hnew, if_pos hlen, if_neg hbad]
  rfl
theorem pT_type (h : PickOK e m n f t) : (pT e m f t).fType = t.fType ∧ (pT e m f t).fDims = e := by
  rw [pT_eq h]
  split
  · exact ⟨rfl, rfl⟩
  · split <;> exact ⟨rfl, rfl⟩
theorem pT_check (h : PickOK e m n f t) : checkV (pT e m f t) = 0 := by
  obtain ⟨e1, e2⟩ := pT_type h
  obtain ⟨hk, hg, hL⟩ := checkV_zero.1 h.chk
  refine checkV_zero.2 ⟨by rw [e1]; exact hk, by rw [e2]; exact h.good, ?_⟩
  rw [pT_eq h]
  have := h.he
  rcases hk with e | e | e <;> simp [e, LensOK, pl_length] <;> omega
theorem pk_mem {α : Type} {L : List α} {z : α} {a : Int} : pkOf L z a = z ∨ pkOf L z a ∈ L := by
  unfold pkOf
  split
  · rw [List.getD_eq_getElem?_getD]
    by_cases h : a.toNat < L.length
    · rw [List.getElem?_eq_getElem h]; exact .inr (List.getElem_mem h)
    · rw [List.getElem?_eq_none (by omega)]; exact .inl rfl
  · exact .inl rfl
theorem pl_mem {α : Type} {L : List α} {z x : α} (h : x ∈ pl m f L z) : x = z ∨ x ∈ L := by
  unfold pl at h
  obtain ⟨a, _, rfl⟩ := List.mem_map.1 h
  exact pk_mem
theorem pT_F (h : PickOK e m n f t) {x : Int} (hx : x ∈ (pT e m f t).fF) : x = 0 ∨ x ∈ t.fF := by
  rw [pT_eq h] at hx
  split at hx
  · exact pl_mem hx
  · split at hx <;> simp at hx
theorem canonF_canonF (x : Int) : canonF (canonF x) = canonF x := by
  unfold canonF
  by_cases h : 2139095040 < x % 2147483648
  · rw [if_pos h]; decide
  · rw [if_neg h, if_neg h]
theorem canonF_rng {x : Int} (h : 0 ≤ x ∧ x < 4294967296) : 0 ≤ canonF x ∧ canonF x < 4294967296 := by
  unfold canonF
  split
  · omega
  · exact h
theorem pT_canon (h : PickOK e m n f (canonT t)) : canonT (pT e m f (canonT t)) = pT e m f (canonT t) := by
  have : (pT e m f (canonT t)).fF.map canonF = (pT e m f (canonT t)).fF := by
    conv => rhs; rw [← List.map_id (pT e m f (canonT t)).fF]
    refine List.map_congr_left fun x hx => ?_
    rcases pT_F h hx with rfl | hm
    · decide
    · obtain ⟨y, _, rfl⟩ := List.mem_map.1 (show x ∈ t.fF.map canonF from hm)
      exact canonF_canonF y
  unfold canonT at this ⊢
  rw [this]
theorem pT_ten (ht : Ten t) (h : PickOK e m n f (canonT t)) : Ten (pT e m f (canonT t)) := by
  obtain ⟨h1, h2, h3, h4⟩ := len_small (pT_check h)
  refine ⟨by omega, by omega, by omega, by omega, fun x hx => ?_⟩
  rcases pT_F h hx with rfl | hm
  · decide
  · obtain ⟨y, hy, rfl⟩ := List.mem_map.1 (show x ∈ t.fF.map canonF from hm)
    exact canonF_rng (ht.2.2.2.2 y hy)
theorem pT_back {g : Nat → Int} (h : PickOK e m n f t) (hg : ∀ k, k < n → 0 ≤ g k ∧ g k < m ∧ f (g k).toNat = k) : pT t.fDims n g (pT e m f t) = t := by
  obtain ⟨hk, hgd, l1, l2, l3⟩ := checkV_zero.1 h.chk
  obtain ⟨e1, e2⟩ := pT_type h
  have hd := h.hd
  have h2 : PickOK t.fDims n m g (pT e m f t) := ⟨pT_check h, hgd, hd, by rw [e2]; exact h.he, fun k hk => ⟨by have := (hg k hk).1; omega, (hg k hk).2.1⟩⟩
  rw [pT_eq h2, e1, pT_eq h]
  obtain ⟨ty, d, F, I, B⟩ := t
  simp only at *
  rcases hk with rfl | rfl | rfl
  · simp at l1 l2 l3
    subst l2 l3
    simp only [if_true]
    rw [pl_back (by omega) hg]
  · simp at l1 l2 l3
    subst l1 l3
    simp only [show ¬ (7 : Int) = 1 by decide, if_false, if_true]
    rw [pl_back (by omega) hg]
  · simp at l1 l2 l3
    subst l1 l2
    simp only [show ¬ (9 : Int) = 1 by decide, show ¬ (9 : Int) = 7 by decide, if_false]
    rw [pl_back (by omega) hg]
end
def outV (k : Int) (d : List Int) : T_Val := ⟨k, d, false, ⟨0, [], [], [], []⟩⟩
end Go.Av
set_option linter.unusedVariables false
namespace Go.Av
def fI {α : Type} (q : α → Bool) : List α → Int → Int
  | [], _ => -1
  | x :: l, i => if q x = true then i else fI q l (i + 1)
theorem fI_any {α : Type} {q : α → Bool} : ∀ {l : List α} {i : Int}, 0 ≤ i → decide (0 ≤ fI q l i) = l.any q
  | [], i, h => by simp [fI]
  | x :: l, i, h => by
    unfold fI
    by_cases hx : q x = true
    · rw [if_pos hx]; simp [hx, h]
    · rw [if_neg hx, fI_any (by omega)]; simp [hx]
theorem find_loop {α : Type} {fu : Nat} {l : List α} {p : α → Option Bool} {q : α → Bool} (hp : ∀ x ∈ l, p x = some (q x)) (hl : l.length ≤ 1000000) (hf : l.length < fu) {L : (Int → Option Int) → Int → Option Int}
    (hL : ∀ nx i, L nx i = if i < (l.length : Int) then ((at? l i).bind fun x7 => (p x7).bind fun x8 => if x8 = true then (some i) else nx (wk .i64 (i + 1))) else some (-1)) : (cloop (fun next s => L next s) fu 0).bind (fun x2 => some (decide (0 ≤ x2))) = some (l.any q) := by
  rw [cloop_ind (fun (s : Int) => some (fI q (l.drop s.toNat) s)) (fun s => 0 ≤ s ∧ s ≤ l.length) (fun s => l.length - s.toNat) ?_ fu 0 (by simp) (by simp; omega)]
  · rw [ob_some, fI_any (by omega)]; simp
  · rintro s ⟨h0, h1⟩ next hn
    obtain ⟨k, rfl⟩ := Int.eq_ofNat_of_zero_le h0
    rw [hL, Int.toNat_natCast]
    by_cases hk : k < l.length
    · rw [if_pos (by omega), at?_get hk, ob_some, hp _ (List.getElem_mem hk), ob_some, List.drop_eq_getElem_cons hk, fI]
      by_cases hx : q l[k] = true
      · rw [if_pos hx, if_pos hx]
      · rw [if_neg hx, if_neg hx, wk_succ (by omega), hn _ ⟨by omega, by omega⟩ (by simp; omega), Int.toNat_natCast]
        rfl
    · rw [if_neg (by omega), List.drop_of_length_le (by omega), fI]
theorem mk_loop {β : Type} {fu N : Nat} (hl : N ≤ 1000000) (hf : N < fu) {E : Int → Option Int} {e : Nat → Int} (hE : ∀ k, k < N → E (k : Int) = some (e k)) {c : List Int → Option β} {L : (List Int → Int → Option β) → List Int → Int → Option β}
    (hL : ∀ nx m i, L nx m i = if i < (N : Int) then ((E i).bind fun x9 => chk ((m.length + 1 : Int) * 8 ≤ 140737488355328) <| nx (m ++ [x9]) (wk .i64 (i + 1))) else c m) : cloop (fun next s => L (fun a b => next (a, b)) s.1 s.2) fu (([] : List Int), (0 : Int)) = c ((List.range N).map e) := by
  have hz : (([] : List Int), (0 : Int)) = (fun k : Nat => ((List.range k).map e, (k : Int))) 0 := rfl
  rw [hz]
  refine cloop_to N (fun k : Nat => ((List.range k).map e, (k : Int))) _ ?_ ?_ hf
  · intro k hk next hn
    show L (fun a b => next (a, b)) ((List.range k).map e) (k : Int) = _
    rw [hL, if_pos (by omega), hE k hk, ob_some, chk_pos (by simp; omega), wk_succ (by omega), ← hn, List.range_succ, List.map_append]
    rfl
  · intro next
    show L (fun a b => next (a, b)) ((List.range N).map e) (N : Int) = _
    rw [hL, if_neg (by omega)]
theorem at_gI {l : List Int} {k : Nat} (h : k < l.length) : at? l (k : Int) = some (gI l k) := by rw [at?_get h, gI_get h]
def lt (l : List Int) : T_Tensor := ⟨7, [(l.length : Int)], [], l, []⟩
def lv (l : List Int) : T_Val := ⟨7, [(l.length : Int)], true, lt l⟩
theorem lt_check {l : List Int} (h : l.length ≤ 4096) : checkV (lt l) = 0 := by
  refine checkV_zero.2 ⟨.inr (.inl rfl), ⟨by simp [lt], fun x hx => by simp [lt] at hx; omega, by simp [lt, prod]; omega⟩, ?_⟩
  simp [LensOK, lt, prod]
theorem lt_good {l : List Int} (h : l.length ≤ 4096) : Good [(l.length : Int)] := (checkV_zero.1 (lt_check h)).2.1
theorem lt_bad {l : List Int} (h : 4096 < l.length) : checkV (lt l) ≠ 0 := fun e => by
  have := (checkV_zero.1 e).2.1.2.2
  simp [lt, prod] at this
  omega
section
variable {fu : Nat} {s : T_Setting} {v : T_Val} {l : List Int}
theorem has_p0 : infer_ask_has fu ⟨53, s, [v, lv l], 1⟩ 0 = some (!(decide (v.fType = 0))) := rfl
theorem has_p1 : infer_ask_has fu ⟨53, s, [v, lv l], 1⟩ 1 = some true := rfl
theorem val_p0 : infer_ask_val fu ⟨53, s, [v, lv l], 1⟩ 0 = some v := rfl
theorem val_p1 : infer_ask_val fu ⟨53, s, [v, lv l], 1⟩ 1 = some (lv l) := rfl
theorem complete_p (h0 : v.fType ≠ 0) : infer_ask_complete (fu + 3) ⟨53, s, [v, lv l], 1⟩ = some true := by
  have h : infer_ask_complete (fu + 3) ⟨53, s, [v, lv l], 1⟩ = infer_ask_complete.W1 (fu + 3) ⟨53, s, [v, lv l], 1⟩ (2, 3, 1, 1) 0 := rfl
  rw [h]
  unfold infer_ask_complete.W1
  rw [cloop_suc, infer_ask_complete.L1, if_pos (by decide)]
  show (infer_ask_has (fu + 3) ⟨53, s, [v, lv l], 1⟩ 0).bind _ = _
  rw [has_p0, ob_some, if_pos (by simp [h0]), cloop_suc, show wk .i64 (0 + 1) = 1 from rfl, infer_ask_complete.L1, if_pos (by decide)]
  show (infer_ask_has (fu + 3) ⟨53, s, [v, lv l], 1⟩ 1).bind _ = _
  rw [has_p1, ob_some, if_pos rfl, cloop_suc, show wk .i64 (1 + 1) = 2 from rfl, infer_ask_complete.L1, if_neg (by decide)]
theorem none_p (h0 : v.fType = 0) : infer_ask_complete (fu + 3) ⟨53, s, [v, lv l], 1⟩ = some false := by
  have h : infer_ask_complete (fu + 3) ⟨53, s, [v, lv l], 1⟩ = infer_ask_complete.W1 (fu + 3) ⟨53, s, [v, lv l], 1⟩ (2, 3, 1, 1) 0 := rfl
  rw [h]
  unfold infer_ask_complete.W1
  rw [cloop_suc, infer_ask_complete.L1, if_pos (by decide)]
  show (infer_ask_has (fu + 3) ⟨53, s, [v, lv l], 1⟩ 0).bind _ = _
  rw [has_p0, ob_some, if_neg (by simp [h0])]
theorem typed_p (h0 : v.fType ≠ 0) (hk : Known v.fType) : infer_ask_typed (fu + 3) ⟨53, s, [v, lv l], 1⟩ = some true := by
  obtain ⟨z, hw, hw0⟩ := width_s (fu := fu + 3) hk
  have h : infer_ask_typed (fu + 3) ⟨53, s, [v, lv l], 1⟩ = infer_ask_typed.W1 (fu + 3) ⟨53, s, [v, lv l], 1⟩ ⟨#[97, 105, 61]⟩ 0 := rfl
  rw [h]
  unfold infer_ask_typed.W1
  rw [cloop_suc, infer_ask_typed.L1, if_pos (by simp)]
  show (infer_ask_has (fu + 3) ⟨53, s, [v, lv l], 1⟩ 0).bind _ = _
  rw [has_p0, ob_some, if_pos (by simp [h0])]
  show (infer_ask_val (fu + 3) ⟨53, s, [v, lv l], 1⟩ 0).bind _ = _
  rw [val_p0, ob_some, hw, ob_some, if_neg (by omega)]
  show (some 97 : Option Int).bind _ = _
  rw [ob_some]
  have hf : infer_ask_fits (fu + 3) ⟨53, s, [v, lv l], 1⟩ 0 97 = (tens_Width (fu + 3) v.fType).bind fun x8 => some (decide (0 < x8)) := rfl
  show (infer_ask_fits (fu + 3) ⟨53, s, [v, lv l], 1⟩ 0 97).bind _ = _
  rw [hf, hw, ob_some, ob_some, if_pos (by simpa using hw0), cloop_suc, show wk .i64 (0 + 1) = 1 from rfl, infer_ask_typed.L1, if_pos (by simp)]
  show (infer_ask_has (fu + 3) ⟨53, s, [v, lv l], 1⟩ 1).bind _ = _
  rw [has_p1, ob_some, if_pos rfl]
  show (infer_ask_val (fu + 3) ⟨53, s, [v, lv l], 1⟩ 1).bind _ = _
  rw [val_p1, ob_some]
  show (some 8 : Option Int).bind _ = _
  rw [ob_some, if_neg (by decide)]
  show (some 105 : Option Int).bind _ = _
  rw [ob_some]
  have hf1 : infer_ask_fits (fu + 3) ⟨53, s, [v, lv l], 1⟩ 1 105 = some true := rfl
  show (infer_ask_fits (fu + 3) ⟨53, s, [v, lv l], 1⟩ 1 105).bind _ = _
  rw [hf1, ob_some, if_pos rfl, cloop_suc, show wk .i64 (1 + 1) = 2 from rfl, infer_ask_typed.L1, if_neg (by simp)]
  rfl
theorem attr_p : infer_ask_attributes fu ⟨53, s, [v, lv l], 1⟩ = some true := rfl
theorem lists_p : infer_ask_lists (fu + 3) ⟨53, s, [v, lv l], 1⟩ = some [lv l] := by
  have h : infer_ask_lists (fu + 3) ⟨53, s, [v, lv l], 1⟩ = infer_ask_lists.W1 (fu + 3) ⟨53, s, [v, lv l], 1⟩ [] 1 := rfl
  rw [h]
  unfold infer_ask_lists.W1
  rw [cloop_suc]
  show infer_ask_lists.L1 (fu + 3) ⟨53, s, [v, lv l], 1⟩ _ [] 1 = _
  rw [infer_ask_lists.L1, if_pos (by decide)]
  show (infer_ask_has (fu + 3) ⟨53, s, [v, lv l], 1⟩ 1).bind _ = _
  rw [has_p1, ob_some, if_pos rfl]
  show (infer_ask_val (fu + 3) ⟨53, s, [v, lv l], 1⟩ 1).bind _ = _
  rw [val_p1, ob_some, chk_pos (by simp), show wk .i64 (1 + 1) = 2 from rfl, cloop_suc]
  show infer_ask_lists.L1 (fu + 3) ⟨53, s, [v, lv l], 1⟩ _ [lv l] 2 = _
  rw [infer_ask_lists.L1, if_neg (by decide)]
theorem Equal_spec {fu : Nat} {a b : List Int} (hl : Short a) (hf : a.length < fu) : slices_Equal_int fu a b = some (decide (a = b)) := by
  have h := SameInts_spec (fu := fu) (a := a) (b := b) hl hf
  exact h
def manyV (l : List Int) (n : Nat) : Prop := l.length = 0 ∨ l.length = n
instance (l : List Int) (n : Nat) : Decidable (manyV l n) := by unfold manyV; infer_instance
structure AttrOK (s : T_Setting) : Prop where
  g0 : 1 ≤ s.fGroup
  g1 : s.fGroup ≤ 4096
  ker : manyV s.fKernel 2
  str : manyV s.fStrides 2
  dil : manyV s.fDilations 2
  pad : manyV s.fPads 4
theorem cfV {p : T_Val → Option Bool} {q : T_Val → Bool} {k : List T_Val} (hp : ∀ x ∈ k, p x = some (q x)) (hl : k.length ≤ 1000000) (hf : k.length < fu) : slices_ContainsFunc_api_Val_api_Val fu k p = some (k.any q) := by
  unfold slices_ContainsFunc_api_Val_api_Val slices_IndexFunc_api_Val_api_Val slices_IndexFunc_api_Val_api_Val.W1
  exact find_loop hp hl hf (fun nx i => rfl)
theorem cf64 {p : Int → Option Bool} {q : Int → Bool} {k : List Int} (hp : ∀ x ∈ k, p x = some (q x)) (hl : k.length ≤ 1000000) (hf : k.length < fu) : slices_ContainsFunc_int64 fu k p = some (k.any q) := by
  unfold slices_ContainsFunc_int64 slices_IndexFunc_int64 slices_IndexFunc_int64.W1
  exact find_loop hp hl hf (fun nx i => rfl)
theorem cfI {p : Int → Option Bool} {q : Int → Bool} {k : List Int} (hp : ∀ x ∈ k, p x = some (q x)) (hl : k.length ≤ 1000000) (hf : k.length < fu) : slices_ContainsFunc_int fu k p = some (k.any q) := by
  unfold slices_ContainsFunc_int slices_IndexFunc_int slices_IndexFunc_int.W1
  exact find_loop hp hl hf (fun nx i => rfl)
theorem held_l (hl : l.length ≤ 4096) (hf : 5000 < fu) : infer_held fu (lv l) = some true := by
  unfold infer_held
  have hs : Small (lt l) := by unfold Small lt; simp; omega
  have hft : Fuel fu (lt l) := by unfold Fuel lt; simp; omega
  rw [if_pos (show (lv l).fConst = true from rfl), show (lv l).fT = lt l from rfl, Check_spec hs hft, ob_some, lt_check hl, if_pos rfl, if_pos (show (lt l).fType = (lv l).fType from rfl)]
  show (slices_Equal_int fu [(l.length : Int)] [(l.length : Int)]).bind _ = _
  rw [Equal_spec (by unfold Short; simp) (by simp; omega), ob_some]
  simp
theorem told_p (hl : l.length ≤ 4096) (hf : 5000 < fu) : infer_ask_told (fu + 3) ⟨53, s, [v, lv l], 1⟩ = some (if l.any (fun n => decide (4096 < n)) = true then 4 else 0) := by
  have h : infer_ask_told (fu + 3) ⟨53, s, [v, lv l], 1⟩ = (infer_ask_lists (fu + 3) ⟨53, s, [v, lv l], 1⟩).bind fun x2 => (slices_ContainsFunc_api_Val_api_Val (fu + 3) x2 (fun y0 => infer_ask_told_1 (fu + 3) y0)).bind fun x3 => if x3 = true then (some 15) else (slices_ContainsFunc_api_Val_api_Val (fu + 3) x2 (fun y0 => infer_ask_told_2 (fu + 3) y0)).bind fun x4 => if x4 = true then (some 3) else (slices_ContainsFunc_api_Val_api_Val (fu + 3) x2 (fun y0 => infer_ask_told_3 (fu + 3) y0)).bind fun x5 => if x5 = true then (some 4) else some 0 := rfl
  rw [h, lists_p, ob_some, cfV (q := fun _ => false) ?_ (by simp) (by simp), ob_some, if_neg (by simp), cfV (q := fun _ => false) ?_ (by simp) (by simp), ob_some, if_neg (by simp), cfV (q := fun x => x.fT.fI.any fun n => decide (4096 < n)) ?_ (by simp) (by simp), ob_some]
  · simp only [List.any_cons, List.any_nil, Bool.or_false]
    show (if l.any (fun n => decide (4096 < n)) = true then some 4 else some 0) = _
    split <;> rfl
  · intro x hx
    simp only [List.mem_singleton] at hx
    subst hx
    unfold infer_ask_told_3
    rw [cf64 (p := fun y0 => infer_ask_told_3_1 (fu + 3) y0) (q := fun n => decide (4096 < n)) (fun n _ => rfl) (by show l.length ≤ _; omega) (by show l.length < _; omega), ob_some]
  · intro x hx
    simp only [List.mem_singleton] at hx
    subst hx
    rfl
  · intro x hx
    simp only [List.mem_singleton] at hx
    subst hx
    unfold infer_ask_told_1
    rw [held_l hl (by omega), ob_some]; rfl
theorem wrong_p (h0 : v.fType ≠ 0) (hkn : Known v.fType) (hg : Good v.fDims) (hl : l.length ≤ 4096) (hf : 5000 < fu) :
    infer_ask_wrong (fu + 3) ⟨53, s, [v, lv l], 1⟩ = some (if l.any (fun n => decide (4096 < n)) = true then 4 else 0) := by
  have h8 := hg.1
  have h : infer_ask_wrong (fu + 3) ⟨53, s, [v, lv l], 1⟩ = infer_ask_wrong.W1 (fu + 3) ⟨53, s, [v, lv l], 1⟩ 0 := rfl
  rw [h]
  unfold infer_ask_wrong.W1
  rw [cloop_suc, infer_ask_wrong.L1, if_pos (by simp)]
  show (some v).bind _ = _
  rw [ob_some, Size_spec (by unfold Short; omega) (by omega), ob_some]
  show (infer_ask_has (fu + 3) ⟨53, s, [v, lv l], 1⟩ 0).bind _ = _
  rw [has_p0, ob_some, if_pos (by simp [h0]), sizeV, if_pos hg, if_pos rfl, cloop_suc, show wk .i64 (0 + 1) = 1 from rfl, infer_ask_wrong.L1, if_pos (by simp)]
  show (some (lv l)).bind _ = _
  rw [ob_some]
  show (shape_Size (fu + 3) [(l.length : Int)]).bind _ = _
  rw [Size_spec (by unfold Short; simp) (by simp), ob_some]
  show (infer_ask_has (fu + 3) ⟨53, s, [v, lv l], 1⟩ 1).bind _ = _
  rw [has_p1, ob_some, if_pos rfl, sizeV, if_pos (lt_good hl), if_pos rfl, cloop_suc, show wk .i64 (1 + 1) = 2 from rfl, infer_ask_wrong.L1, if_neg (by simp)]
  have e : infer_ask_wrong.k1 (fu + 3) ⟨53, s, [v, lv l], 1⟩ = (infer_ask_typed (fu + 3) ⟨53, s, [v, lv l], 1⟩).bind fun x2 => if x2 = true then ((infer_ask_attributes (fu + 3) ⟨53, s, [v, lv l], 1⟩).bind fun x3 => if x3 = true then ((infer_ask_told (fu + 3) ⟨53, s, [v, lv l], 1⟩).bind fun x4 => some x4) else some 14) else some 5 := rfl
  rw [e, typed_p h0 hkn, ob_some, if_pos rfl, attr_p, ob_some, if_pos rfl, told_p hl hf, ob_some]
end
end Go.Av
set_option linter.unusedVariables false
namespace Go.Av
theorem first_of {P : Nat → Prop} (n : Nat) (h : P n) : ∃ j, j ≤ n ∧ P j ∧ ∀ i, i < j → ¬ P i := by
  induction n using Nat.strongRecOn with
  | _ n ih =>
    by_cases hc : ∃ i, i < n ∧ P i
    · obtain ⟨i, hi, hp⟩ := hc
      obtain ⟨j, h1, h2, h3⟩ := ih i hi hp
      exact ⟨j, by omega, h2, h3⟩
    · exact ⟨n, Nat.le_refl _, h, fun i hi hp => hc ⟨i, hi, hp⟩⟩
theorem gI_set {L : List Int} {c a : Nat} {x : Int} (hc : c < L.length) : gI (L.set c x) a = if c = a then x else gI L a := by
  unfold gI
  rw [List.getD_eq_getElem?_getD, List.getElem?_set, List.getD_eq_getElem?_getD]
  by_cases h1 : c = a
  · subst h1; simp [hc]
  · simp [h1]
theorem set_gI {L : List Int} {c : Nat} (hc : c < L.length) : L.set c (gI L c) = L := by
  refine ext_gI (by simp) fun k hk => ?_
  rw [gI_set hc]
  split
  · rename_i h; rw [h]
  · rfl
def outP (d l : List Int) : Nat → List Int
  | 0 => d
  | k + 1 => (outP d l k).set (k % d.length) (gI (outP d l k) (k % d.length) + gI l k)
theorem outP_len {d l : List Int} : ∀ k, (outP d l k).length = d.length
  | 0 => rfl
  | k + 1 => by simp [outP, outP_len k]
theorem outP_at {d l : List Int} : ∀ k, k ≤ 2 * d.length → ∀ a, a < d.length → gI (outP d l k) a = gI d a + (if a < k then gI l a else 0) + (if d.length + a < k then gI l (d.length + a) else 0)
  | 0, _, a, ha => by simp [outP]
  | k + 1, hk, a, ha => by
    have ih := outP_at (d := d) (l := l) k (by omega)
    have hi : k % d.length < d.length := Nat.mod_lt _ (by omega)
    unfold outP
    rw [gI_set (by rw [outP_len]; exact hi), ih _ hi, ih a ha]
    by_cases hr : k < d.length
    · rw [Nat.mod_eq_of_lt hr, if_neg (show ¬ k < k by omega), if_neg (show ¬ d.length + k < k by omega), if_neg (show ¬ d.length + a < k by omega), if_neg (show ¬ d.length + a < k + 1 by omega)]
      by_cases e : k = a
      · subst e; rw [if_pos rfl, if_pos (by omega)]; omega
      · rw [if_neg e]
        by_cases h : a < k
        · rw [if_pos h, if_pos (by omega)]
        · rw [if_neg h, if_neg (by omega)]
    · have hm : k % d.length = k - d.length := by rw [Nat.mod_eq_sub_mod (by omega), Nat.mod_eq_of_lt (by omega)]
      rw [hm, if_pos (show k - d.length < k by omega), if_neg (show ¬ d.length + (k - d.length) < k by omega), if_pos (show a < k by omega), if_pos (show a < k + 1 by omega)]
      by_cases e : k - d.length = a
      · rw [if_pos e, e, if_pos (by omega)]
        have : k = d.length + a := by omega
        rw [this]; omega
      · rw [if_neg e]
        by_cases h : d.length + a < k
        · rw [if_pos h, if_pos (by omega)]
        · rw [if_neg h, if_neg (by omega)]
def eP (d l : List Int) : List Int := (List.range d.length).map fun a => gI d a + gI l a + gI l (d.length + a)
theorem eP_length {d l : List Int} : (eP d l).length = d.length := by simp [eP]
theorem eP_at {d l : List Int} {a : Nat} (h : a < d.length) : gI (eP d l) a = gI d a + gI l a + gI l (d.length + a) := by
  rw [gI_get (by rw [eP_length]; exact h)]
  simp [eP]
theorem outP_eP {d l : List Int} : outP d l (2 * d.length) = eP d l := ext_gI (by rw [outP_len, eP_length]) fun a ha => by
  rw [outP_len] at ha
  rw [outP_at _ (Nat.le_refl _) a ha, eP_at ha, if_pos (by omega), if_pos (by omega)]
def BadP (m : Int) (d l : List Int) (k : Nat) : Prop := gI l k ≠ 0 ∧ (m = 2 ∧ gI d (k % d.length) ≤ gI l k ∨ m = 3 ∧ gI d (k % d.length) = 0)
structure PadOK (m : Int) (d l : List Int) : Prop where
  len : l.length = 2 * d.length
  rng : ∀ x ∈ l, 0 ≤ x ∧ x ≤ 4096
  ok : ∀ k, k < l.length → ¬ BadP m d l k
theorem gI_rng {l : List Int} {lo hi : Int} (h : ∀ x ∈ l, lo ≤ x ∧ x ≤ hi) {k : Nat} (hk : k < l.length) : lo ≤ gI l k ∧ gI l k ≤ hi := by
  rw [gI_get hk]; exact h _ (List.getElem_mem hk)
section
variable {fu : Nat} {s : T_Setting} {v : T_Val} {l : List Int}
theorem numbers_p (hl : l.length ≤ 4096) (hf : 5000 < fu) : infer_ask_numbers fu ⟨53, s, [v, lv l], 1⟩ 1 = some l := by
  have h : infer_ask_numbers fu ⟨53, s, [v, lv l], 1⟩ 1 = infer_ask_numbers.W1 fu (lv l) [] 0 := rfl
  rw [h]; unfold infer_ask_numbers.W1
  refine (mk_loop (N := l.length) (by omega) (by omega) (E := fun i => at? l i) (e := gI l) (fun k hk => at_gI hk) (c := fun m => some m) (L := infer_ask_numbers.L1 fu (lv l)) (fun nx m i => rfl)).trans ?_
  rw [range_gI]
theorem padW (hg : Good v.fDims) (hlen : l.length = 2 * v.fDims.length) (hr : ∀ x ∈ l, 0 ≤ x ∧ x ≤ 4096) (N : Nat) (hN : N ≤ l.length) (hb : ∀ k, k < N → ¬ BadP s.fMode v.fDims l k) (r : Option (List (List Int) × Int))
    (hend : ∀ next : List Int × Int → Option (List (List Int) × Int), infer_ask_pad.L1 fu ⟨53, s, [v, lv l], 1⟩ v.fDims v.fDims l (fun a b => next (a, b)) (outP v.fDims l N) (N : Int) = r) (hf : 5000 < fu) :
    infer_ask_pad.W1 fu ⟨53, s, [v, lv l], 1⟩ v.fDims v.fDims l v.fDims 0 = r := by
  have h8 := hg.1
  unfold infer_ask_pad.W1
  have hz : (v.fDims, (0 : Int)) = (fun k : Nat => (outP v.fDims l k, (k : Int))) 0 := rfl
  rw [hz]
  refine cloop_to N (fun k : Nat => (outP v.fDims l k, (k : Int))) _ ?_ hend (by omega)
  intro k hk next hn
  show infer_ask_pad.L1 fu ⟨53, s, [v, lv l], 1⟩ v.fDims v.fDims l (fun a b => next (a, b)) (outP v.fDims l k) (k : Int) = _
  have hi : k % v.fDims.length < v.fDims.length := Nat.mod_lt _ (by omega)
  have hm : Int.tmod (k : Int) (v.fDims.length : Int) = ((k % v.fDims.length : Nat) : Int) := by rw [Int.tmod_eq_emod_of_nonneg (by omega), ← Int.natCast_emod]
  have hlk := gI_rng hr (show k < l.length by omega)
  have hnb := hb k hk
  have ho := outP_at (d := v.fDims) (l := l) k (by omega) _ hi
  have hd := gI_rng hg.2.1 hi
  have hob : 0 ≤ gI (outP v.fDims l k) (k % v.fDims.length) ∧ gI (outP v.fDims l k) (k % v.fDims.length) ≤ 20000 := by
    have q1 := gI_rng hr (show k % v.fDims.length < l.length by omega)
    have q2 := gI_rng hr (show v.fDims.length + k % v.fDims.length < l.length by omega)
    rw [ho]
    split <;> split <;> omega
  have hol : k % v.fDims.length < (outP v.fDims l k).length := by rw [outP_len]; exact hi
  unfold infer_ask_pad.L1 jn
  rw [if_pos (by omega), at_gI (by omega), ob_some, chk_pos (by omega), hm, at_gI hi, ob_some]
  have K3 : infer_ask_pad.k3 fu (fun a b => next (a, b)) v.fDims (outP v.fDims l k) (k : Int) (gI l k) = r := by
    unfold infer_ask_pad.k3
    rw [hm, at_gI hol, ob_some, chk_pos (by omega), Int.toNat_natCast, wk_eq (x := gI (outP v.fDims l k) (k % v.fDims.length) + gI l k) (by omega) (by omega), wk_succ (by omega)]
    exact hn
  by_cases h0 : gI l k = 0
  · rw [if_pos h0, wk_succ (by omega)]
    have e : outP v.fDims l (k + 1) = outP v.fDims l k := by
      show (outP v.fDims l k).set (k % v.fDims.length) (gI (outP v.fDims l k) (k % v.fDims.length) + gI l k) = _
      rw [h0, Int.add_zero, set_gI hol]
    rw [e] at hn
    exact hn
  · rw [if_neg h0]
    have hk4 : infer_ask_pad.k4 fu (fun a b => next (a, b)) v.fDims (outP v.fDims l k) (k : Int) (gI l k) false = r := by
      unfold infer_ask_pad.k4
      rw [if_neg (by decide)]; exact K3
    by_cases m2 : s.fMode = 2
    · rw [if_pos m2, if_neg (fun h => hnb ⟨h0, .inl ⟨m2, h⟩⟩), if_neg (show ¬ s.fMode = 3 by omega)]
      exact hk4
    · rw [if_neg m2]
      by_cases m3 : s.fMode = 3
      · rw [if_pos m3, decide_eq_false (fun h => hnb ⟨h0, .inr ⟨m3, h⟩⟩)]
        exact hk4
      · rw [if_neg m3]; exact hk4
theorem pad_head (hg : Good v.fDims) (hl : l.length ≤ 4096) (hf : 5000 < fu) : infer_ask_pad fu ⟨53, s, [v, lv l], 1⟩ = if l.length = 2 * v.fDims.length then (if (l.any fun n => decide (n < 0)) = true then some ([], 3) else infer_ask_pad.W1 fu ⟨53, s, [v, lv l], 1⟩ v.fDims v.fDims l v.fDims 0) else some ([], 3) := by
  have h8 := hg.1
  have h : infer_ask_pad fu ⟨53, s, [v, lv l], 1⟩ = (slices_Clone_int fu v.fDims).bind fun x3 => (infer_ask_numbers fu ⟨53, s, [v, lv l], 1⟩ 1).bind fun x4 => if (x4.length : Int) = (wk .i64 (2 * (x3.length : Int))) then ((infer_below fu x4 0).bind fun x24 => if x24 = true then some ([], 3) else infer_ask_pad.W1 fu ⟨53, s, [v, lv l], 1⟩ v.fDims x3 x4 x3 0) else some ([], 3) := rfl
  rw [h, Clone_spec (by omega), ob_some, numbers_p hl hf, ob_some, wk_eq (x := 2 * (v.fDims.length : Int)) (by omega) (by omega)]
  by_cases e : l.length = 2 * v.fDims.length
  · rw [if_pos e, if_pos (by omega)]
    unfold infer_below
    rw [cfI (p := fun y0 => infer_below_1 fu y0 0) (q := fun n => decide (n < 0)) (fun n _ => rfl) (by omega) (by omega), ob_some, ob_some]
  · rw [if_neg e, if_neg (by omega)]
theorem pad_good (hg : Good v.fDims) (hp : PadOK s.fMode v.fDims l) (hf : 5000 < fu) : infer_ask_pad fu ⟨53, s, [v, lv l], 1⟩ = some ([eP v.fDims l], 0) := by
  have h8 := hg.1
  have hl := hp.len
  rw [pad_head hg (by omega) hf, if_pos hl, if_neg (fun h => by
    obtain ⟨x, hx, hx2⟩ := List.any_eq_true.1 h
    have := hp.rng x hx
    simp at hx2
    omega)]
  refine padW hg hl hp.rng l.length (Nat.le_refl _) hp.ok _ (fun next => ?_) hf
  unfold infer_ask_pad.L1
  rw [if_neg (by omega), hl, outP_eP]
  rfl
theorem pad_bad (hg : Good v.fDims) (hl : l.length ≤ 4096) (hl2 : ∀ x ∈ l, x ≤ 4096) (hp : ¬ PadOK s.fMode v.fDims l) (hf : 5000 < fu) : infer_ask_pad fu ⟨53, s, [v, lv l], 1⟩ = some ([], 3) := by
  have h8 := hg.1
  rw [pad_head hg hl hf]
  by_cases e : l.length = 2 * v.fDims.length
  · rw [if_pos e]
    by_cases hneg : (l.any fun n => decide (n < 0)) = true
    · rw [if_pos hneg]
    · rw [if_neg hneg]
      have hr : ∀ x ∈ l, 0 ≤ x ∧ x ≤ 4096 := fun x hx => ⟨by
        by_cases h : x < 0
        · exact absurd (List.any_eq_true.2 ⟨x, hx, by simpa using h⟩) hneg
        · omega, hl2 x hx⟩
      by_cases hb : ∃ k, k < l.length ∧ BadP s.fMode v.fDims l k
      · obtain ⟨k, hk, hkb⟩ := hb
        obtain ⟨j, j1, j2, j3⟩ := first_of (P := BadP s.fMode v.fDims l) k hkb
        refine padW hg e hr j (by omega) j3 _ (fun next => ?_) hf
        have hi : j % v.fDims.length < v.fDims.length := Nat.mod_lt _ (by omega)
        have hm : Int.tmod (j : Int) (v.fDims.length : Int) = ((j % v.fDims.length : Nat) : Int) := by rw [Int.tmod_eq_emod_of_nonneg (by omega), ← Int.natCast_emod]
        unfold infer_ask_pad.L1 jn
        rw [if_pos (by omega), at_gI (by omega), ob_some, chk_pos (by omega), hm, at_gI hi, ob_some, if_neg j2.1]
        rcases j2.2 with ⟨m2, h⟩ | ⟨m3, h⟩
        · rw [if_pos m2, if_pos h]; rfl
        · rw [if_neg (show ¬ s.fMode = 2 by omega), if_pos m3, decide_eq_true h]; rfl
      · exact absurd ⟨e, hr, fun k hk hkb => hb ⟨k, hk, hkb⟩⟩ hp
  · rw [if_neg e]
theorem Node_p (h0 : v.fType ≠ 0) (hk : Known v.fType) (hg : Good v.fDims) (hl : l.length ≤ 4096) (hf : 6000 < fu) :
    infer_Node (fu + 3) 53 s [v, lv l] 1 = if (l.any fun n => decide (4096 < n)) = true then some ([], 4) else (infer_ask_pad (fu + 3) ⟨53, s, [v, lv l], 1⟩).bind fun x7 => if x7.2 = 0 then (infer_Node.W1 (fu + 3) s [v, lv l] 1 (x7.1, x7.2) ([] : List T_Val) 0) else some ([], x7.2) := by
  have h : infer_Node (fu + 3) 53 s [v, lv l] 1 = (infer_ask_complete (fu + 3) ⟨53, s, [v, lv l], 1⟩).bind fun x5 => if x5 = true then ((infer_ask_wrong (fu + 3) ⟨53, s, [v, lv l], 1⟩).bind fun x6 => if x6 = 0 then
    ((((infer_ask_pad (fu + 3) ⟨53, s, [v, lv l], 1⟩).bind fun x3 => some (x3.1, x3.2)).bind fun x3 => some (x3.1, x3.2)).bind fun x7 => if x7.2 = 0 then (infer_Node.W1 (fu + 3) s [v, lv l] 1 x7 ([] : List T_Val) 0) else some ([], x7.2)) else some ([], x6)) else some ([], 1) := rfl
  rw [h, complete_p h0, ob_some, if_pos rfl, wrong_p h0 hk hg hl (by omega), ob_some]
  by_cases hb : (l.any fun n => decide (4096 < n)) = true
  · rw [if_pos hb, if_neg (by decide), if_pos hb]
  · rw [if_neg hb, if_pos rfl, if_neg hb]
    cases infer_ask_pad (fu + 3) ⟨53, s, [v, lv l], 1⟩ with
    | none => rfl
    | some x => rfl
theorem Node_none_p (h0 : v.fType = 0) : infer_Node (fu + 3) 53 s [v, lv l] 1 = some ([], 1) := by
  have h : infer_Node (fu + 3) 53 s [v, lv l] 1 = (infer_ask_complete (fu + 3) ⟨53, s, [v, lv l], 1⟩).bind fun x5 => if x5 = true then ((infer_ask_wrong (fu + 3) ⟨53, s, [v, lv l], 1⟩).bind fun x6 => if x6 = 0 then
    ((((infer_ask_pad (fu + 3) ⟨53, s, [v, lv l], 1⟩).bind fun x3 => some (x3.1, x3.2)).bind fun x3 => some (x3.1, x3.2)).bind fun x7 => if x7.2 = 0 then (infer_Node.W1 (fu + 3) s [v, lv l] 1 x7 ([] : List T_Val) 0) else some ([], x7.2)) else some ([], x6)) else some ([], 1) := rfl
  rw [h, none_p h0, ob_some, if_neg (by decide)]
theorem out_p {d : List Int} (hd : d.length ≤ 100) (hf : 200 < fu) : infer_Node.W1 (fu + 2) s [v, lv l] 1 ([d], 0) [] 0 = if Good d then some ([outV v.fType d], 0) else some ([], 4) := by
  unfold infer_Node.W1
  rw [cloop_suc]
  show infer_Node.L1 (fu + 2) s [v, lv l] 1 ([d], 0) _ [] 0 = _
  rw [infer_Node.L1, if_pos (show (0 : Int) < ((([d], 0) : List (List Int) × Int).1.length : Int) by simp)]
  show (some d).bind _ = _
  rw [ob_some, Size_spec (by unfold Short; omega) (by omega), ob_some]
  by_cases hg : Good d
  · have ho : infer_ask_out (fu + 2) (T_infer_ask.mk 53 s [v, lv l] 1) = some v.fType := rfl
    rw [sizeV, if_pos hg, if_pos rfl, ho, ob_some, Clone_spec (by omega), ob_some, chk_pos (by simp), cloop_suc, if_pos hg]
    rfl
  · rw [sizeV, if_neg hg, if_neg (errS_ne d), if_neg hg]
end
end Go.Av
set_option linter.unusedVariables false
set_option maxRecDepth 100000
namespace Go.Av
def mixL (A l : List Int) (k : Nat) : List Int := (List.range l.length).map fun j => if j < k then gI A j else gI l j
theorem mixL_len {A l : List Int} {k : Nat} : (mixL A l k).length = l.length := by simp [mixL]
theorem mixL_at {A l : List Int} {k j : Nat} (h : j < l.length) : gI (mixL A l k) j = if j < k then gI A j else gI l j := by
  rw [gI_get (by rw [mixL_len]; exact h)]
  simp [mixL]
theorem mixL_zero {A l : List Int} : mixL A l 0 = l := ext_gI mixL_len fun j hj => by
  rw [mixL_len] at hj
  rw [mixL_at hj, if_neg (by omega)]
theorem mixL_all {A l : List Int} (h : A.length = l.length) : mixL A l l.length = A := ext_gI (by rw [mixL_len, h]) fun j hj => by
  rw [mixL_len] at hj
  rw [mixL_at hj, if_pos hj]
theorem mixL_set {A l : List Int} {k : Nat} (h : k < l.length) : (mixL A l k).set k (gI A k) = mixL A l (k + 1) := ext_gI (by rw [List.length_set, mixL_len, mixL_len]) fun j hj => by
  rw [List.length_set, mixL_len] at hj
  rw [gI_set (by rw [mixL_len]; exact h), mixL_at hj, mixL_at hj]
  by_cases e : k = j
  · subst e; rw [if_pos rfl, if_pos (by omega)]
  · rw [if_neg e]
    by_cases h2 : j < k
    · rw [if_pos h2, if_pos (by omega)]
    · rw [if_neg h2, if_neg (by omega)]
def iotaL (n : Nat) : List Int := (List.range n).map fun k : Nat => (k : Int)
theorem iotaL_len {n : Nat} : (iotaL n).length = n := by simp [iotaL]
theorem iotaL_at {n k : Nat} (h : k < n) : at? (iotaL n) (k : Int) = some (k : Int) := by
  rw [at?_get (by rw [iotaL_len]; exact h)]; simp [iotaL]
theorem iota_axes {n : Nat} : (axesV n (iotaL n) (List.replicate n false) false).2 = 0 := by
  refine (axes_ok (n := n) (iotaL n) (List.replicate n false) false (by simp) (fun x hx => ?_)).1.2 ⟨rfl, fun x hx => ?_, ?_, fun x hx => ?_⟩
  · obtain ⟨k, _, rfl⟩ := List.mem_map.1 hx; omega
  · obtain ⟨k, hk, rfl⟩ := List.mem_map.1 hx; have := List.mem_range.1 hk; omega
  · exact List.pairwise_map.2 (List.nodup_range.imp fun h e => h (by omega))
  · rw [List.getD_eq_getElem?_getD, List.getElem?_replicate]
    split <;> rfl
theorem axisV_nat {k n : Nat} (h : k < n) : axisV (k : Int) n = some (k : Int) := by
  unfold axisV; rw [if_pos (by omega), if_pos (by omega)]
theorem count_spec {fu : Nat} {n p q : Int} (h0 : 0 ≤ p) (h1 : p ≤ q) (h2 : q ≤ n) (h3 : n ≤ 1000000) : infer_count fu n p q 1 = some (q - p) := by
  have i1 : imin p n = p := by unfold imin; rw [if_neg (by omega)]
  have i2 : imin q n = q := by
    unfold imin
    by_cases h : n < q
    · omega
    · rw [if_neg h]
  have i3 : imax p 0 = p := by
    unfold imax
    by_cases h : 0 > p
    · omega
    · rw [if_neg h]
  have i4 : imax q 0 = q := by
    unfold imax
    by_cases h : 0 > q
    · omega
    · rw [if_neg h]
  have i5 : imax 0 (q - p) = q - p := by
    unfold imax
    by_cases h : q - p > 0
    · rw [if_pos h]
    · rw [if_neg h]; omega
  unfold infer_count jn infer_count.k1 jn
  rw [if_neg (by omega), if_neg (by omega)]
  unfold infer_count.k2 jn
  have c1 : imax (imin 1 4097) (-4097) = 1 := by decide
  rw [c1, if_neg (by decide), i1, i2, i3, i4]
  unfold infer_count.k3
  rw [chk_pos (by decide), wk_eq (x := q - p) (by omega) (by omega), wk_eq (x := q - p + 1) (by omega) (by omega), wk_eq (x := q - p + 1 - 1) (by omega) (by omega), Int.tdiv_one, wk_eq (by omega) (by omega), show q - p + 1 - 1 = q - p by omega, i5]
section
variable {fu : Nat} {s : T_Setting} {v : T_Val} {p q : List Int}
theorem has_q0 : infer_ask_has fu ⟨49, s, [v, lv p, lv q], 1⟩ 0 = some (!(decide (v.fType = 0))) := rfl
theorem has_q1 : infer_ask_has fu ⟨49, s, [v, lv p, lv q], 1⟩ 1 = some true := rfl
theorem has_q2 : infer_ask_has fu ⟨49, s, [v, lv p, lv q], 1⟩ 2 = some true := rfl
theorem has_q3 : infer_ask_has fu ⟨49, s, [v, lv p, lv q], 1⟩ 3 = some false := rfl
theorem has_q4 : infer_ask_has fu ⟨49, s, [v, lv p, lv q], 1⟩ 4 = some false := rfl
theorem val_q0 : infer_ask_val fu ⟨49, s, [v, lv p, lv q], 1⟩ 0 = some v := rfl
theorem val_q1 : infer_ask_val fu ⟨49, s, [v, lv p, lv q], 1⟩ 1 = some (lv p) := rfl
theorem val_q2 : infer_ask_val fu ⟨49, s, [v, lv p, lv q], 1⟩ 2 = some (lv q) := rfl
theorem complete_q (h0 : v.fType ≠ 0) : infer_ask_complete (fu + 5) ⟨49, s, [v, lv p, lv q], 1⟩ = some true := by
  have h : infer_ask_complete (fu + 5) ⟨49, s, [v, lv p, lv q], 1⟩ = infer_ask_complete.W2 (fu + 5) ⟨49, s, [v, lv p, lv q], 1⟩ (3, 5, 1, 1) 0 := rfl
  rw [h]
  unfold infer_ask_complete.W2
  rw [cloop_suc, infer_ask_complete.L2, if_pos (by decide)]
  show (infer_ask_has (fu + 5) ⟨49, s, [v, lv p, lv q], 1⟩ 0).bind _ = _
  rw [has_q0, ob_some, if_pos (by simp [h0]), cloop_suc, show wk .i64 (0 + 1) = 1 from rfl, infer_ask_complete.L2, if_pos (by decide)]
  show (infer_ask_has (fu + 5) ⟨49, s, [v, lv p, lv q], 1⟩ 1).bind _ = _
  rw [has_q1, ob_some, if_pos rfl, cloop_suc, show wk .i64 (1 + 1) = 2 from rfl, infer_ask_complete.L2, if_pos (by decide)]
  show (infer_ask_has (fu + 5) ⟨49, s, [v, lv p, lv q], 1⟩ 2).bind _ = _
  rw [has_q2, ob_some, if_pos rfl, cloop_suc, show wk .i64 (2 + 1) = 3 from rfl, infer_ask_complete.L2, if_neg (by decide)]
theorem typed_q (h0 : v.fType ≠ 0) (hk : Known v.fType) : infer_ask_typed (fu + 5) ⟨49, s, [v, lv p, lv q], 1⟩ = some true := by
  obtain ⟨z, hw, hw0⟩ := width_s (fu := fu + 5) hk
  have h : infer_ask_typed (fu + 5) ⟨49, s, [v, lv p, lv q], 1⟩ = infer_ask_typed.W2 (fu + 5) ⟨49, s, [v, lv p, lv q], 1⟩ ⟨#[97, 105]⟩ 0 := rfl
  rw [h]
  unfold infer_ask_typed.W2
  rw [cloop_suc, infer_ask_typed.L2, if_pos (by simp)]
  show (infer_ask_has (fu + 5) ⟨49, s, [v, lv p, lv q], 1⟩ 0).bind _ = _
  rw [has_q0, ob_some, if_pos (by simp [h0])]
  show (infer_ask_val (fu + 5) ⟨49, s, [v, lv p, lv q], 1⟩ 0).bind _ = _
  rw [val_q0, ob_some, hw, ob_some, if_neg (by omega)]
  show (some 97 : Option Int).bind _ = _
  rw [ob_some]
  have hf : infer_ask_fits (fu + 5) ⟨49, s, [v, lv p, lv q], 1⟩ 0 97 = (tens_Width (fu + 5) v.fType).bind fun x8 => some (decide (0 < x8)) := rfl
  show (infer_ask_fits (fu + 5) ⟨49, s, [v, lv p, lv q], 1⟩ 0 97).bind _ = _
  rw [hf, hw, ob_some, ob_some, if_pos (by simpa using hw0), cloop_suc, show wk .i64 (0 + 1) = 1 from rfl, infer_ask_typed.L2, if_pos (by simp)]
  show (infer_ask_has (fu + 5) ⟨49, s, [v, lv p, lv q], 1⟩ 1).bind _ = _
  rw [has_q1, ob_some, if_pos rfl]
  show (infer_ask_val (fu + 5) ⟨49, s, [v, lv p, lv q], 1⟩ 1).bind _ = _
  rw [val_q1, ob_some]
  show (some 8 : Option Int).bind _ = _
  rw [ob_some, if_neg (by decide)]
  show (some 105 : Option Int).bind _ = _
  rw [ob_some]
  have hf1 : infer_ask_fits (fu + 5) ⟨49, s, [v, lv p, lv q], 1⟩ 1 105 = some true := rfl
  show (infer_ask_fits (fu + 5) ⟨49, s, [v, lv p, lv q], 1⟩ 1 105).bind _ = _
  rw [hf1, ob_some, if_pos rfl, cloop_suc, show wk .i64 (1 + 1) = 2 from rfl, infer_ask_typed.L2, if_pos (by simp)]
  show (infer_ask_has (fu + 5) ⟨49, s, [v, lv p, lv q], 1⟩ 2).bind _ = _
  rw [has_q2, ob_some, if_pos rfl]
  show (infer_ask_val (fu + 5) ⟨49, s, [v, lv p, lv q], 1⟩ 2).bind _ = _
  rw [val_q2, ob_some]
  show (some 8 : Option Int).bind _ = _
  rw [ob_some, if_neg (by decide)]
  show (some 105 : Option Int).bind _ = _
  rw [ob_some]
  have hf2 : infer_ask_fits (fu + 5) ⟨49, s, [v, lv p, lv q], 1⟩ 2 105 = some true := rfl
  show (infer_ask_fits (fu + 5) ⟨49, s, [v, lv p, lv q], 1⟩ 2 105).bind _ = _
  rw [hf2, ob_some, if_pos rfl, cloop_suc, show wk .i64 (2 + 1) = 3 from rfl, infer_ask_typed.L2, if_neg (by simp)]
  rfl
theorem lists_q : infer_ask_lists (fu + 5) ⟨49, s, [v, lv p, lv q], 1⟩ = some [lv p, lv q] := by
  have h : infer_ask_lists (fu + 5) ⟨49, s, [v, lv p, lv q], 1⟩ = infer_ask_lists.W2 (fu + 5) ⟨49, s, [v, lv p, lv q], 1⟩ [] 1 := by
    unfold infer_ask_lists
    rw [spl_neg (show ¬ (49 : Int) = 53 by decide), chk_pos rfl]
    unfold jn infer_ask_lists.k2
    rfl
  rw [h]
  unfold infer_ask_lists.W2
  rw [cloop_suc]
  show infer_ask_lists.L2 (fu + 5) ⟨49, s, [v, lv p, lv q], 1⟩ _ [] 1 = _
  rw [infer_ask_lists.L2, if_pos (by decide)]
  show (infer_ask_has (fu + 5) ⟨49, s, [v, lv p, lv q], 1⟩ 1).bind _ = _
  rw [has_q1, ob_some, if_pos rfl]
  show (infer_ask_val (fu + 5) ⟨49, s, [v, lv p, lv q], 1⟩ 1).bind _ = _
  rw [val_q1, ob_some, chk_pos (by simp), show wk .i64 (1 + 1) = 2 from rfl, cloop_suc]
  show infer_ask_lists.L2 (fu + 5) ⟨49, s, [v, lv p, lv q], 1⟩ _ [lv p] 2 = _
  rw [infer_ask_lists.L2, if_pos (by decide)]
  show (infer_ask_has (fu + 5) ⟨49, s, [v, lv p, lv q], 1⟩ 2).bind _ = _
  rw [has_q2, ob_some, if_pos rfl]
  show (infer_ask_val (fu + 5) ⟨49, s, [v, lv p, lv q], 1⟩ 2).bind _ = _
  rw [val_q2, ob_some, chk_pos (by simp), show wk .i64 (2 + 1) = 3 from rfl, cloop_suc]
  show infer_ask_lists.L2 (fu + 5) ⟨49, s, [v, lv p, lv q], 1⟩ _ [lv p, lv q] 3 = _
  rw [infer_ask_lists.L2, if_pos (by decide)]
  show (infer_ask_has (fu + 5) ⟨49, s, [v, lv p, lv q], 1⟩ 3).bind _ = _
  rw [has_q3, ob_some, if_neg (by decide), show wk .i64 (3 + 1) = 4 from rfl, cloop_suc]
  show infer_ask_lists.L2 (fu + 5) ⟨49, s, [v, lv p, lv q], 1⟩ _ [lv p, lv q] 4 = _
  rw [infer_ask_lists.L2, if_pos (by decide)]
  show (infer_ask_has (fu + 5) ⟨49, s, [v, lv p, lv q], 1⟩ 4).bind _ = _
  rw [has_q4, ob_some, if_neg (by decide), show wk .i64 (4 + 1) = 5 from rfl, cloop_suc]
  show infer_ask_lists.L2 (fu + 5) ⟨49, s, [v, lv p, lv q], 1⟩ _ [lv p, lv q] 5 = _
  rw [infer_ask_lists.L2, if_neg (by decide)]
theorem told_q (hp : p.length ≤ 4096) (hq : q.length ≤ 4096) (hf : 5000 < fu) : infer_ask_told (fu + 5) ⟨49, s, [v, lv p, lv q], 1⟩ = some 0 := by
  have h : infer_ask_told (fu + 5) ⟨49, s, [v, lv p, lv q], 1⟩ = (infer_ask_lists (fu + 5) ⟨49, s, [v, lv p, lv q], 1⟩).bind fun x2 => (slices_ContainsFunc_api_Val_api_Val (fu + 5) x2 (fun y0 => infer_ask_told_1 (fu + 5) y0)).bind fun x3 => if x3 = true then (some 15) else (slices_ContainsFunc_api_Val_api_Val (fu + 5) x2 (fun y0 => infer_ask_told_2 (fu + 5) y0)).bind fun x4 => if x4 = true then (some 3) else some 0 := rfl
  have q1 : ∀ x ∈ [lv p, lv q], infer_ask_told_1 (fu + 5) x = some ((fun _ => false) x) := fun x hx => by
    simp only [List.mem_cons, List.not_mem_nil, or_false] at hx
    unfold infer_ask_told_1
    rcases hx with rfl | rfl
    · rw [held_l hp (by omega), ob_some]; rfl
    · rw [held_l hq (by omega), ob_some]; rfl
  have q2 : ∀ x ∈ [lv p, lv q], infer_ask_told_2 (fu + 5) x = some ((fun _ => false) x) := fun x hx => by
    simp only [List.mem_cons, List.not_mem_nil, or_false] at hx
    rcases hx with rfl | rfl <;> rfl
  rw [h, lists_q, ob_some, cfV q1 (by simp) (by simp), ob_some, if_neg (by simp), cfV q2 (by simp) (by simp), ob_some, if_neg (by simp)]
theorem wrong_q (h0 : v.fType ≠ 0) (hkn : Known v.fType) (hg : Good v.fDims) (hp : p.length ≤ 4096) (hq : q.length ≤ 4096) (hf : 5000 < fu) :
    infer_ask_wrong (fu + 5) ⟨49, s, [v, lv p, lv q], 1⟩ = some 0 := by
  have h8 := hg.1
  have h : infer_ask_wrong (fu + 5) ⟨49, s, [v, lv p, lv q], 1⟩ = infer_ask_wrong.W2 (fu + 5) ⟨49, s, [v, lv p, lv q], 1⟩ 0 := rfl
  rw [h]
  unfold infer_ask_wrong.W2
  rw [cloop_suc, infer_ask_wrong.L2, if_pos (by simp)]
  show (some v).bind _ = _
  rw [ob_some, Size_spec (by unfold Short; omega) (by omega), ob_some]
  show (infer_ask_has (fu + 5) ⟨49, s, [v, lv p, lv q], 1⟩ 0).bind _ = _
  rw [has_q0, ob_some, if_pos (by simp [h0]), sizeV, if_pos hg, if_pos rfl, cloop_suc, show wk .i64 (0 + 1) = 1 from rfl, infer_ask_wrong.L2, if_pos (by simp)]
  show (some (lv p)).bind _ = _
  rw [ob_some]
  show (shape_Size (fu + 5) [(p.length : Int)]).bind _ = _
  rw [Size_spec (by unfold Short; simp) (by simp), ob_some]
  show (infer_ask_has (fu + 5) ⟨49, s, [v, lv p, lv q], 1⟩ 1).bind _ = _
  rw [has_q1, ob_some, if_pos rfl, sizeV, if_pos (lt_good hp), if_pos rfl, cloop_suc, show wk .i64 (1 + 1) = 2 from rfl, infer_ask_wrong.L2, if_pos (by simp)]
  show (some (lv q)).bind _ = _
  rw [ob_some]
  show (shape_Size (fu + 5) [(q.length : Int)]).bind _ = _
  rw [Size_spec (by unfold Short; simp) (by simp), ob_some]
  show (infer_ask_has (fu + 5) ⟨49, s, [v, lv p, lv q], 1⟩ 2).bind _ = _
  rw [has_q2, ob_some, if_pos rfl, sizeV, if_pos (lt_good hq), if_pos rfl, cloop_suc, show wk .i64 (2 + 1) = 3 from rfl, infer_ask_wrong.L2, if_neg (by simp)]
  have e : infer_ask_wrong.k2 (fu + 5) ⟨49, s, [v, lv p, lv q], 1⟩ = (infer_ask_typed (fu + 5) ⟨49, s, [v, lv p, lv q], 1⟩).bind fun x2 => if x2 = true then ((some true).bind fun x3 => if x3 = true then ((infer_ask_told (fu + 5) ⟨49, s, [v, lv p, lv q], 1⟩).bind fun x4 => some x4) else some 14) else some 5 := rfl
  rw [e, typed_q h0 hkn, ob_some, if_pos rfl, ob_some, if_pos rfl, told_q hp hq hf, ob_some]
theorem num_q {l : List Int} (hl : l.length ≤ 4096) (hf : 5000 < fu) : infer_ask_numbers.W2 fu (lv l) [] 0 = some l := by
  unfold infer_ask_numbers.W2
  refine (mk_loop (N := l.length) (by omega) (by omega) (E := fun i => at? l i) (e := gI l) (fun k hk => at_gI hk) (c := fun m => some m) (L := infer_ask_numbers.L2 fu (lv l)) (fun nx m i => rfl)).trans ?_
  rw [range_gI]
theorem num_q1 : infer_ask_numbers fu ⟨49, s, [v, lv p, lv q], 1⟩ 1 = infer_ask_numbers.W2 fu (lv p) [] 0 := by
  unfold infer_ask_numbers
  rw [spl_neg (show ¬ (49 : Int) = 53 by decide), chk_pos rfl]
  show (infer_ask_has fu ⟨49, s, [v, lv p, lv q], 1⟩ 1).bind _ = _
  rw [has_q1, ob_some, if_pos rfl]
  rfl
theorem num_q2 : infer_ask_numbers fu ⟨49, s, [v, lv p, lv q], 1⟩ 2 = infer_ask_numbers.W2 fu (lv q) [] 0 := by
  unfold infer_ask_numbers
  rw [spl_neg (show ¬ (49 : Int) = 53 by decide), chk_pos rfl]
  show (infer_ask_has fu ⟨49, s, [v, lv p, lv q], 1⟩ 2).bind _ = _
  rw [has_q2, ob_some, if_pos rfl]
  rfl
theorem num_q3 : infer_ask_numbers fu ⟨49, s, [v, lv p, lv q], 1⟩ 3 = some [] := by
  unfold infer_ask_numbers
  rw [spl_neg (show ¬ (49 : Int) = 53 by decide), chk_pos rfl]
  show (infer_ask_has fu ⟨49, s, [v, lv p, lv q], 1⟩ 3).bind _ = _
  rw [has_q3, ob_some, if_neg (by decide)]
theorem num_q4 : infer_ask_numbers fu ⟨49, s, [v, lv p, lv q], 1⟩ 4 = some [] := by
  unfold infer_ask_numbers
  rw [spl_neg (show ¬ (49 : Int) = 53 by decide), chk_pos rfl]
  show (infer_ask_has fu ⟨49, s, [v, lv p, lv q], 1⟩ 4).bind _ = _
  rw [has_q4, ob_some, if_neg (by decide)]
structure SlOK (e p q d : List Int) : Prop where
  lp : p.length = e.length
  lq : q.length = e.length
  ld : d.length = e.length
  at_ : ∀ k, k < e.length → 0 ≤ gI p k ∧ 0 ≤ gI d k ∧ gI q k = gI p k + gI d k ∧ gI q k ≤ gI e k
theorem slice_h : infer_ask_slice fu ⟨49, s, [v, lv p, lv q], 1⟩ = (slices_Clone_int fu v.fDims).bind fun x3 => (infer_ask_numbers fu ⟨49, s, [v, lv p, lv q], 1⟩ 1).bind fun x4 => (infer_ask_numbers fu ⟨49, s, [v, lv p, lv q], 1⟩ 2).bind fun x5 => (infer_ask_numbers fu ⟨49, s, [v, lv p, lv q], 1⟩ 3).bind fun x6 => (infer_ask_numbers fu ⟨49, s, [v, lv p, lv q], 1⟩ 4).bind fun x7 => infer_ask_slice.W2 fu ⟨49, s, [v, lv p, lv q], 1⟩ x3 x4 x5 x6 x7 0 := by
  unfold infer_ask_slice
  rw [chk_pos rfl]
  show (some v.fDims).bind _ = _
  rw [ob_some]
  unfold jn
  rfl
theorem jn_id {α β : Type} {i : Nat} {r : β} {γ : Type} {K : γ → Option α} {X : Option α} : jn i r K X = X := rfl
theorem sl_L2 {nx : List Int → List Int → Int → Option (List (List Int) × Int)} {a b : List Int} {i : Int} {x3 x4 x5 : List Int} : infer_ask_slice.L2 fu ⟨49, s, [v, lv p, lv q], 1⟩ x3 x4 x5 nx a b i = if i < (x4.length : Int) then chk ((a.length + 1 : Int) * 8 ≤ 140737488355328) <| chk ((b.length + 1 : Int) * 8 ≤ 140737488355328) <| nx (a ++ [i]) (b ++ [1]) (wk .i64 (i + 1)) else infer_ask_slice.k1 fu x3 x4 x5 a b := by
  have hk : infer_ask_slice.k4 fu nx ⟨49, s, [v, lv p, lv q], 1⟩ b i (a ++ [i]) = chk ((b.length + 1 : Int) * 8 ≤ 140737488355328) (nx (a ++ [i]) (b ++ [1]) (wk .i64 (i + 1))) := by
    rw [infer_ask_slice.k4, has_q4, ob_some, if_neg (by decide)]
  rw [infer_ask_slice.L2]
  by_cases h : i < (x4.length : Int)
  · rw [if_pos h, if_pos h, jn_id, has_q3, ob_some, if_neg (by decide), hk]
  · rw [if_neg h, if_neg h]
theorem slice_q {d : List Int} (hg : Good v.fDims) (hs : SlOK v.fDims p q d) (hf : 5000 < fu) : infer_ask_slice fu ⟨49, s, [v, lv p, lv q], 1⟩ = some ([d], 0) := by
  have h8 := hg.1
  obtain ⟨lp, lq, ld, hat⟩ := hs
  rw [slice_h, Clone_spec (by omega), ob_some, num_q1, num_q (by omega) hf, ob_some, num_q2, num_q (by omega) hf, ob_some, num_q3, ob_some, num_q4, ob_some]
  unfold infer_ask_slice.W2
  have hz : (([] : List Int), ([] : List Int), (0 : Int)) = (fun k : Nat => (iotaL k, List.replicate k (1 : Int), (k : Int))) 0 := rfl
  rw [hz]
  refine cloop_to p.length (fun k : Nat => (iotaL k, List.replicate k (1 : Int), (k : Int))) _ ?_ ?_ (by omega)
  · intro k hk next hn
    show infer_ask_slice.L2 fu ⟨49, s, [v, lv p, lv q], 1⟩ v.fDims p q (fun a b c => next (a, b, c)) (iotaL k) (List.replicate k (1 : Int)) (k : Int) = _
    rw [sl_L2, if_pos (by omega), chk_pos (by rw [iotaL_len]; omega), chk_pos (by simp; omega), wk_succ (by omega), ← hn]
    have e1 : iotaL k ++ [(k : Int)] = iotaL (k + 1) := by simp [iotaL, List.range_succ]
    have e2 : List.replicate k (1 : Int) ++ [1] = List.replicate (k + 1) 1 := by rw [List.replicate_succ']
    rw [e1, e2]
  · intro next
    show infer_ask_slice.L2 fu ⟨49, s, [v, lv p, lv q], 1⟩ v.fDims p q (fun a b c => next (a, b, c)) (iotaL p.length) (List.replicate p.length (1 : Int)) (p.length : Int) = _
    rw [sl_L2, if_neg (by omega)]
    unfold infer_ask_slice.k1 jn
    rw [lp, Axes_spec (by omega) (by rw [iotaL_len]; omega) (by rw [iotaL_len]; omega), ob_some, if_pos (by omega), if_pos (by rw [iotaL_len]), if_pos (by simp), if_pos iota_axes, Contains_spec (by unfold Short; simp; omega) (by simp; omega), ob_some, if_neg (by
      rw [List.any_eq_true]
      rintro ⟨x, hx, hx2⟩
      have := List.eq_of_mem_replicate hx
      simp at hx2
      omega)]
    unfold infer_ask_slice.k2 jn infer_ask_slice.W1
    have hz : (v.fDims, (0 : Int)) = (fun k : Nat => (mixL d v.fDims k, (k : Int))) 0 := by simp [mixL_zero]
    rw [hz]
    refine cloop_to v.fDims.length (fun k : Nat => (mixL d v.fDims k, (k : Int))) _ ?_ ?_ (by omega)
    · intro k hk next hn
      show infer_ask_slice.L1 fu p q (iotaL v.fDims.length) (List.replicate v.fDims.length 1) (fun a b => next (a, b)) (mixL d v.fDims k) (k : Int) = _
      obtain ⟨a1, a2, a3, a4⟩ := hat k hk
      have he := gI_rng hg.2.1 hk
      have hA : shape_Axis fu (k : Int) (v.fDims.length : Int) = some ((k : Int), 0) := by rw [Axis_spec (by omega), axisV_nat hk]
      unfold infer_ask_slice.L1
      rw [if_pos (by rw [iotaL_len]; omega), iotaL_at hk, ob_some, mixL_len, hA, ob_some, at_gI (by rw [mixL_len]; exact hk), ob_some, mixL_at hk, if_neg (by omega), at_gI (by omega), ob_some, at_gI (by omega), ob_some, at?_get (by simp; exact hk), ob_some, List.getElem_replicate, count_spec (by omega) (by omega) (by omega) (by omega), ob_some, chk_pos (by omega), Int.toNat_natCast, show gI q k - gI p k = gI d k by omega, mixL_set hk, wk_succ (by omega)]
      exact hn
    · intro next
      show infer_ask_slice.L1 fu p q (iotaL v.fDims.length) (List.replicate v.fDims.length 1) (fun a b => next (a, b)) (mixL d v.fDims v.fDims.length) (v.fDims.length : Int) = _
      unfold infer_ask_slice.L1
      rw [if_neg (by rw [iotaL_len]; omega), mixL_all ld]
      rfl
theorem Node_q {d : List Int} (h0 : v.fType ≠ 0) (hk : Known v.fType) (hg : Good v.fDims) (hgd : Good d) (hs : SlOK v.fDims p q d) (hf : 6000 < fu) :
    infer_Node (fu + 5) 49 s [v, lv p, lv q] 1 = some ([outV v.fType d], 0) := by
  have h8 := hg.1
  have h8d := hgd.1
  have lp := hs.lp
  have lq := hs.lq
  have h : infer_Node (fu + 5) 49 s [v, lv p, lv q] 1 = (infer_ask_complete (fu + 5) ⟨49, s, [v, lv p, lv q], 1⟩).bind fun x5 => if x5 = true then ((infer_ask_wrong (fu + 5) ⟨49, s, [v, lv p, lv q], 1⟩).bind fun x6 => if x6 = 0 then
    ((((infer_ask_slice (fu + 5) ⟨49, s, [v, lv p, lv q], 1⟩).bind fun x3 => some (x3.1, x3.2)).bind fun x3 => some (x3.1, x3.2)).bind fun x7 => if x7.2 = 0 then (infer_Node.W2 (fu + 5) s [v, lv p, lv q] 1 x7 ([] : List T_Val) 0) else some ([], x7.2)) else some ([], x6)) else some ([], 1) := rfl
  rw [h, complete_q h0, ob_some, if_pos rfl, wrong_q h0 hk hg (by omega) (by omega) (by omega), ob_some, if_pos rfl, slice_q hg hs (by omega), ob_some, ob_some, ob_some, if_pos rfl]
  unfold infer_Node.W2
  rw [cloop_suc]
  show infer_Node.L2 (fu + 5) s [v, lv p, lv q] 1 ([d], 0) _ [] 0 = _
  rw [infer_Node.L2, if_pos (show (0 : Int) < ((([d], 0) : List (List Int) × Int).1.length : Int) by simp)]
  show (some d).bind _ = _
  have ho : infer_ask_out (fu + 5) (T_infer_ask.mk 49 s [v, lv p, lv q] 1) = some v.fType := rfl
  rw [ob_some, Size_spec (by unfold Short; omega) (by omega), ob_some, sizeV, if_pos hgd, if_pos rfl, ho, ob_some, Clone_spec (by omega), ob_some, chk_pos (by simp), cloop_suc]
  rfl
end
end Go.Av
set_option linter.unusedVariables false
namespace Go.Av
def wi (m k n : Int) : Int := if 0 ≤ k then (if k < n then k else if m = 3 then imax 0 (imin k (n - 1)) else if m = 2 then 2 * n - 2 - k else -1) else if m = 3 then imax 0 (imin k (n - 1)) else if m = 2 then 0 - k else -1
theorem imax_v {a b : Int} : imax a b = if b > a then b else a := rfl
theorem imin_v {a b : Int} : imin a b = if b < a then b else a := rfl
theorem wi_rng {m d l l' i : Int} (hd : 0 ≤ d) (hl : 0 ≤ l) (hl' : 0 ≤ l') (h1 : l ≠ 0 → ¬ (m = 2 ∧ d ≤ l ∨ m = 3 ∧ d = 0)) (h2 : l' ≠ 0 → ¬ (m = 2 ∧ d ≤ l' ∨ m = 3 ∧ d = 0)) (h0 : 0 ≤ i) (hi : i < d + l + l') : -1 ≤ wi m (i - l) d ∧ wi m (i - l) d < d ∨ wi m (i - l) d = -1 := by
  unfold wi
  rw [imax_v, imin_v]
  by_cases c1 : 0 ≤ i - l
  · rw [if_pos c1]
    by_cases c2 : i - l < d
    · rw [if_pos c2]; omega
    · rw [if_neg c2]
      have := h2 (by omega)
      by_cases m3 : m = 3
      · rw [if_pos m3, if_pos (show d - 1 < i - l by omega)]
        split <;> omega
      · rw [if_neg m3]
        by_cases m2 : m = 2
        · rw [if_pos m2]; omega
        · rw [if_neg m2]; omega
  · rw [if_neg c1]
    have := h1 (by omega)
    by_cases m3 : m = 3
    · rw [if_pos m3, if_neg (show ¬ d - 1 < i - l by omega), if_neg (by omega)]; omega
    · rw [if_neg m3]
      by_cases m2 : m = 2
      · rw [if_pos m2]; omega
      · rw [if_neg m2]; omega
def wL (m : Int) (d l i : List Int) : List Int := (List.range d.length).map fun a => wi m (gI i a - gI l a) (gI d a)
theorem wL_len {m : Int} {d l i : List Int} : (wL m d l i).length = d.length := by simp [wL]
theorem wL_at {m : Int} {d l i : List Int} {a : Nat} (h : a < d.length) : gI (wL m d l i) a = wi m (gI i a - gI l a) (gI d a) := by
  rw [gI_get (by rw [wL_len]; exact h)]; simp [wL]
open Classical in
noncomputable def padP (m : Int) (d l i : List Int) : Int := if ∃ a, a < d.length ∧ gI (wL m d l i) a < 0 then -1 else offV d (wL m d l i)
def addL (p i : List Int) : List Int := (List.range i.length).map fun a => gI p a + gI i a
theorem addL_len {p i : List Int} : (addL p i).length = i.length := by simp [addL]
theorem addL_at {p i : List Int} {a : Nat} (h : a < i.length) : gI (addL p i) a = gI p a + gI i a := by
  rw [gI_get (by rw [addL_len]; exact h)]; simp [addL]
theorem off_add : ∀ {e p i : List Int}, p.length = e.length → i.length = e.length → offV e (addL p i) = offV e p + offV e i
  | [], [], [], _, _ => rfl
  | x :: e, a :: p, b :: i, h1, h2 => by
    have ih := off_add (e := e) (p := p) (i := i) (by simpa using h1) (by simpa using h2)
    have ha : addL (a :: p) (b :: i) = (a + b) :: addL p i := ext_gI (by simp [addL_len]) fun k hk => by
      rw [addL_len] at hk
      rw [addL_at hk]
      cases k with
      | zero => rfl
      | succ k => exact (addL_at (p := p) (i := i) (by simpa using hk)).symm
    rw [ha]
    show (a + b) * prod e + offV e (addL p i) = (a * prod e + offV e p) + (b * prod e + offV e i)
    rw [ih, Int.add_mul]; omega
structure PadIn (m : Int) (d l : List Int) : Prop where
  ok : PadOK m d l
  gd : Good d
  ge : Good (eP d l)
section
variable {m : Int} {d l : List Int}
theorem PadIn.row (h : PadIn m d l) {a : Nat} (ha : a < d.length) : 0 ≤ gI d a ∧ gI d a ≤ 4096 ∧ 0 ≤ gI l a ∧ gI l a ≤ 4096 ∧ 0 ≤ gI l (d.length + a) ∧ gI l (d.length + a) ≤ 4096 ∧ (gI l a ≠ 0 → ¬ (m = 2 ∧ gI d a ≤ gI l a ∨ m = 3 ∧ gI d a = 0)) ∧ (gI l (d.length + a) ≠ 0 → ¬ (m = 2 ∧ gI d a ≤ gI l (d.length + a) ∨ m = 3 ∧ gI d a = 0)) := by
  have hl := h.ok.len
  have r1 := gI_rng h.gd.2.1 ha
  have r2 := gI_rng h.ok.rng (show a < l.length by omega)
  have r3 := gI_rng h.ok.rng (show d.length + a < l.length by omega)
  refine ⟨r1.1, r1.2, r2.1, r2.2, r3.1, r3.2, fun hne hb => ?_, fun hne hb => ?_⟩
  · refine h.ok.ok a (by omega) ⟨hne, ?_⟩
    rw [Nat.mod_eq_of_lt ha]; exact hb
  · refine h.ok.ok (d.length + a) (by omega) ⟨hne, ?_⟩
    rw [Nat.add_mod_left, Nat.mod_eq_of_lt ha]; exact hb
theorem pad_rng (h : PadIn m d l) {i : List Int} (hl : i.length = (eP d l).length) (hi : okIx (eP d l) i = true) : -1 ≤ padP m d l i ∧ (padP m d l i < prod d ∨ padP m d l i = -1) ∧ (∀ a, a < d.length → -1 ≤ gI (wL m d l i) a ∧ gI (wL m d l i) a < gI d a ∨ gI (wL m d l i) a = -1) := by
  rw [eP_length] at hl
  have hw : ∀ a, a < d.length → -1 ≤ gI (wL m d l i) a ∧ gI (wL m d l i) a < gI d a ∨ gI (wL m d l i) a = -1 := fun a ha => by
    obtain ⟨r1, r2, r3, r4, r5, r6, r7, r8⟩ := h.row ha
    have hi2 := okIx_at (by rw [hl, eP_length]) hi a (by rw [eP_length]; exact ha)
    rw [eP_at ha] at hi2
    rw [wL_at ha]
    exact wi_rng r1 r3 r5 r7 r8 hi2.1 hi2.2
  refine ⟨?_, ?_, hw⟩
  · unfold padP
    split
    · exact Int.le_refl _
    · rename_i hn
      have hok : okIx d (wL m d l i) = true := okIx_of wL_len fun a ha => by
        have := hw a ha
        have h2 : ¬ gI (wL m d l i) a < 0 := fun hh => hn ⟨a, ha, hh⟩
        omega
      have := offV_lt (fun x hx => (h.gd.2.1 x hx).1) wL_len hok
      omega
  · unfold padP
    split
    · exact .inr rfl
    · rename_i hn
      have hok : okIx d (wL m d l i) = true := okIx_of wL_len fun a ha => by
        have := hw a ha
        have h2 : ¬ gI (wL m d l i) a < 0 := fun hh => hn ⟨a, ha, hh⟩
        omega
      exact .inl (offV_lt (fun x hx => (h.gd.2.1 x hx).1) wL_len hok).2
theorem pad_in (h : PadIn m d l) {j : List Int} (hl : j.length = d.length) (hj : okIx d j = true) : okIx (eP d l) (addL l j) = true ∧ padP m d l (addL l j) = offV d j := by
  have hr : ∀ a, a < d.length → 0 ≤ gI j a ∧ gI j a < gI d a := fun a ha => okIx_at hl hj a ha
  refine ⟨okIx_of (by rw [addL_len, hl, eP_length]) fun a ha => ?_, ?_⟩
  · rw [eP_length] at ha
    obtain ⟨r1, r2, r3, r4, r5, r6, _⟩ := h.row ha
    have := hr a ha
    rw [addL_at (by omega), eP_at ha]
    omega
  · have hw : wL m d l (addL l j) = j := ext_gI (by rw [wL_len, hl]) fun a ha => by
      rw [wL_len] at ha
      have := hr a ha
      rw [wL_at ha, addL_at (by omega)]
      unfold wi
      rw [if_pos (by omega), if_pos (by omega)]; omega
    unfold padP
    rw [hw, if_neg]
    rintro ⟨a, ha, hn⟩
    have := hr a ha
    omega
end
end Go.Av
set_option linter.unusedVariables false
namespace Go.Av
section
variable {fu : Nat} {s : T_Setting} {x : T_Tensor} {ax : Int} {l p q d : List Int}
theorem within_spec {k n : Int} {L : List T_Tensor} (hk : -20000 ≤ k ∧ k ≤ 20000) (hn : -20000 ≤ n ∧ n ≤ 20000) : moves_move_within fu ⟨53, s, L, x, ax⟩ k n = some (wi s.fMode k n) := by
  have h : moves_move_within fu ⟨53, s, L, x, ax⟩ k n = (if 0 ≤ k then (if k < n then (some k) else if s.fMode = 3 then (some (imax 0 (imin k (wk .i64 (n - 1))))) else if s.fMode = 2 then (some (wk .i64 ((wk .i64 ((wk .i64 (2 * n)) - 2)) - k))) else some (-1)) else if s.fMode = 3 then (some (imax 0 (imin k (wk .i64 (n - 1))))) else if s.fMode = 2 then (some (wk .i64 (0 - k))) else some (-1)) := rfl
  rw [h, wk_eq (x := n - 1) (by omega) (by omega), wk_eq (x := 2 * n) (by omega) (by omega), wk_eq (x := 2 * n - 2) (by omega) (by omega), wk_eq (x := 2 * n - 2 - k) (by omega) (by omega), wk_eq (x := 0 - k) (by omega) (by omega)]
  unfold wi
  split <;> split <;> first | rfl | (split <;> first | rfl | (split <;> rfl))
theorem clo_53 {i : List Int} (h : PadIn s.fMode x.fDims l) (hl : i.length = x.fDims.length) (hi : okIx (eP x.fDims l) i = true) (hf : 200 < fu) :
    moves_move_pad_1 fu i ⟨53, s, [x, lt l], x, ax⟩ (-1) (strdW x.fDims) = some (padP s.fMode x.fDims l i) := by
  have h8 := h.gd.1
  have hll := h.ok.len
  obtain ⟨z1, z2, z3⟩ := pad_rng h (by rw [eP_length]; exact hl) hi
  have hir : ∀ a, a < x.fDims.length → 0 ≤ gI i a ∧ gI i a ≤ 12288 := fun a ha => by
    obtain ⟨r1, r2, r3, r4, r5, r6, _⟩ := h.row ha
    have := okIx_at (by rw [hl, eP_length]) hi a (by rw [eP_length]; exact ha)
    rw [eP_at ha] at this
    omega
  have hL : ∀ (nx : Int → Int → Option Int) (b : Int) (k : Nat), k < x.fDims.length → moves_move_pad_1.L1 fu i ⟨53, s, [x, lt l], x, ax⟩ (-1) (strdW x.fDims) nx b (k : Int) = if gI (wL s.fMode x.fDims l i) k < 0 then some (-1) else nx (wk .i64 (b + (wk .i64 (gI (wL s.fMode x.fDims l i) k * gI (strdW x.fDims) k)))) ((k + 1 : Nat) : Int) := fun nx b k hk => by
    obtain ⟨r1, r2, r3, r4, r5, r6, _⟩ := h.row hk
    have r7 := hir k hk
    have hfin : at? [x, lt l] 1 = some (lt l) := rfl
    rw [moves_move_pad_1.L1, if_pos (show (k : Int) < (x.fDims.length : Int) by omega), at_gI hk, ob_some, at_gI (by omega), ob_some, hfin, ob_some]
    have hlt : at? (lt l).fI (k : Int) = some (gI l k) := at_gI (show k < l.length by omega)
    rw [hlt, ob_some, wk_eq (x := gI i k - gI l k) (by omega) (by omega), within_spec (by omega) (by omega), ob_some, ← wL_at hk]
    by_cases hn : gI (wL s.fMode x.fDims l i) k < 0
    · rw [if_pos hn, if_pos hn]
    · rw [if_neg hn, if_neg hn, at_gI (by rw [strdW_length]; exact hk), ob_some, wk_succ (by omega)]
  have hE : ∀ (nx : Int → Int → Option Int) (b : Int), moves_move_pad_1.L1 fu i ⟨53, s, [x, lt l], x, ax⟩ (-1) (strdW x.fDims) nx b (x.fDims.length : Int) = some b := fun nx b => by
    rw [moves_move_pad_1.L1, if_neg (by simp)]
  unfold moves_move_pad_1 moves_move_pad_1.W1
  unfold padP
  by_cases hn : ∃ a, a < x.fDims.length ∧ gI (wL s.fMode x.fDims l i) a < 0
  · rw [if_pos hn]
    obtain ⟨a, ha, hneg⟩ := hn
    obtain ⟨j, j1, j2, j3⟩ := first_of (P := fun a => gI (wL s.fMode x.fDims l i) a < 0) a hneg
    refine cloop_ind (fun _ => some (-1)) (fun (st : Int × Int) => 0 ≤ st.2 ∧ st.2 ≤ j) (fun st => j - st.2.toNat) ?_ fu _ (by simp) (by simp; omega)
    rintro ⟨b, k⟩ ⟨q1, q2⟩ next hn2
    simp only at q1 q2 hn2 ⊢
    obtain ⟨k, rfl⟩ := Int.eq_ofNat_of_zero_le q1
    rw [hL _ _ _ (by omega)]
    by_cases hk : k = j
    · subst hk; rw [if_pos j2]
    · rw [if_neg (j3 k (by omega))]
      exact hn2 _ ⟨by simp only []; omega, by simp only []; omega⟩ (by simp only [Int.toNat_natCast]; omega)
  · have hp : ∀ z ∈ x.fDims, 1 ≤ z := fun z hz => by
      obtain ⟨k, hk, rfl⟩ := List.getElem_of_mem hz
      have h2 : ¬ gI (wL s.fMode x.fDims l i) k < 0 := fun h2 => hn ⟨k, hk, h2⟩
      have := z3 k hk
      rw [← gI_get hk]
      omega
    have hpr := h.gd.2.2
    rw [strdW_pos hp (by omega)] at hL hE ⊢
    rw [if_neg hn, ← dot_strV]
    have hwn : ∀ y ∈ wL s.fMode x.fDims l i, 0 ≤ y := fun y hy => by
      obtain ⟨k, hk, rfl⟩ := List.getElem_of_mem hy
      rw [← gI_get hk]
      rw [wL_len] at hk
      by_cases h2 : gI (wL s.fMode x.fDims l i) k < 0
      · exact absurd ⟨k, hk, h2⟩ hn
      · omega
    have hsn := strV_nonneg hp
    have hb : dotV (wL s.fMode x.fDims l i) (strV x.fDims) ≤ 4096 := by
      unfold padP at z2
      rw [if_neg hn] at z2
      rw [dot_strV]
      have := h.gd.2.2
      omega
    have hsl : (strV x.fDims).length = x.fDims.length := strV_length _
    have hwl : (wL s.fMode x.fDims l i).length = x.fDims.length := wL_len
    refine (cloop_ind (fun (st : Int × Int) => some (st.1 + dotV ((wL s.fMode x.fDims l i).drop st.2.toNat) ((strV x.fDims).drop st.2.toNat))) (fun st => 0 ≤ st.2 ∧ st.2 ≤ x.fDims.length ∧ 0 ≤ st.1 ∧ st.1 + dotV ((wL s.fMode x.fDims l i).drop st.2.toNat) ((strV x.fDims).drop st.2.toNat) ≤ 4096) (fun st => x.fDims.length - st.2.toNat) ?_ fu _ (by simp; omega) (by simp; omega)).trans (by simp)
    rintro ⟨b, k⟩ ⟨q0, q1, q2, q3⟩ next hn2
    simp only at q0 q1 q2 q3 hn2 ⊢
    obtain ⟨k, rfl⟩ := Int.eq_ofNat_of_zero_le q0
    simp only [Int.toNat_natCast] at q3 ⊢
    by_cases hk : k < x.fDims.length
    · have k1 : k < (strV x.fDims).length := by omega
      have k2 : k < (wL s.fMode x.fDims l i).length := by omega
      have n0 : ¬ gI (wL s.fMode x.fDims l i) k < 0 := fun h2 => hn ⟨k, hk, h2⟩
      rw [List.drop_eq_getElem_cons k1, List.drop_eq_getElem_cons k2, ← gI_get k1, ← gI_get k2] at q3 ⊢
      simp only [dotV] at q3 ⊢
      have p0 : 0 ≤ gI (strV x.fDims) k := by rw [gI_get k1]; exact hsn _ (List.getElem_mem k1)
      have p1 : 0 ≤ gI (wL s.fMode x.fDims l i) k * gI (strV x.fDims) k := Int.mul_nonneg (by omega) p0
      have p2 : 0 ≤ dotV ((wL s.fMode x.fDims l i).drop (k + 1)) ((strV x.fDims).drop (k + 1)) := dotV_nonneg (fun z hz => hwn z (List.mem_of_mem_drop hz)) (fun z hz => hsn z (List.mem_of_mem_drop hz))
      rw [hL _ _ _ hk, if_neg n0, wk_eq (x := gI (wL s.fMode x.fDims l i) k * gI (strV x.fDims) k) (by omega) (by omega), wk_eq (x := b + gI (wL s.fMode x.fDims l i) k * gI (strV x.fDims) k) (by omega) (by omega)]
      rw [hn2 (_, ((k + 1 : Nat) : Int)) ⟨by simp only []; omega, by simp only []; omega, by simp only []; omega, by simp only [Int.toNat_natCast]; omega⟩ (by simp; omega)]
      simp only [Int.toNat_natCast]
      congr 1
      omega
    · have : k = x.fDims.length := by omega
      subst this
      rw [hE, List.drop_of_length_le (by omega)]
      simp [dotV]
open Classical in
noncomputable def fPd (m : Int) (d l : List Int) (k : Nat) : Int := padP m d l (idxV (eP d l) (k : Int))
def gSl (e p d : List Int) (k : Nat) : Int := offV e (addL p (idxV d (k : Int)))
theorem one_53 {N : Nat} (hs : Small x) (hft : Fuel fu x) (hc : checkV x = 0) (h : PadIn s.fMode x.fDims l) (hN : prod (eP x.fDims l) = (N : Int)) (hf : 5000 < fu) :
    moves_move_one fu ⟨53, s, [x, lt l], x, ax⟩ (eP x.fDims l) [] = some (pT (eP x.fDims l) N (fPd s.fMode x.fDims l) x) := by
  obtain ⟨hk, hg, hL⟩ := checkV_zero.1 hc
  have hpr := hg.2.2
  have e : moves_move_one fu ⟨53, s, [x, lt l], x, ax⟩ (eP x.fDims l) [] = ((moves_strides fu x.fDims).bind fun x3 => (moves_picked fu x (eP x.fDims l) (fun y0 => moves_move_pad_1 fu y0 ⟨53, s, [x, lt l], x, ax⟩ (-1) x3)).bind fun x4 => some x4).bind fun x4 => some x4 := rfl
  rw [e, strides_m hg (by omega), ob_some, picked_spec (N := N) (f := fPd s.fMode x.fDims l) hs hft h.ge hN hf ?_, ob_some, ob_some]
  · rfl
  · intro k hk
    have hk' : (k : Int) < prod (eP x.fDims l) := by omega
    have hpe := pos_of_good h.ge (by omega)
    exact clo_53 h (by rw [idxV_length, eP_length]) (okIx_idx hpe (by omega) hk') (by omega)
end
end Go.Av
set_option linter.unusedVariables false
namespace Go.Av
theorem begins_spec {fu : Nat} {n p : Int} (h0 : 0 ≤ p) (h1 : p ≤ n) : moves_begins fu n p 1 = some p := by
  unfold moves_begins jn
  rw [if_neg (by omega)]
  unfold moves_begins.k1
  rw [if_neg (by decide), imin_v, imax_v]
  by_cases h : n < p
  · omega
  · rw [if_neg h]
    by_cases h2 : 0 > p
    · omega
    · rw [if_neg h2]
section
variable {fu : Nat} {s : T_Setting} {x : T_Tensor} {ax : Int} {p q d : List Int}
theorem clo_49 {i : List Int} {e : List Int} (hge : Good e) (hpe : ∀ z ∈ e, 1 ≤ z) (hs : SlOK e p q d) (hpd : ∀ z ∈ d, 1 ≤ z) (hl : i.length = d.length) (hi : okIx d i = true) (hf : 200 < fu) :
    moves_move_slice_3 fu i (offV e p) (strV e) = some (offV e (addL p i)) := by
  have h8 := hge.1
  have h4 := hge.2.2
  have hir : ∀ a, a < e.length → 0 ≤ gI i a ∧ gI i a < gI d a := fun a ha => okIx_at hl hi a (by rw [hs.ld]; exact ha)
  have hdp : ∀ a, a < e.length → 1 ≤ gI d a := fun a ha => by
    have ha' : a < d.length := by rw [hs.ld]; exact ha
    rw [gI_get ha']; exact hpd _ (List.getElem_mem ha')
  have hle : i.length = e.length := by rw [hl, hs.ld]
  have ok1 : okIx e i = true := okIx_of hle fun a ha => by have := hir a ha; have := hs.at_ a ha; omega
  have ok2 : okIx e p = true := okIx_of hs.lp fun a ha => by have := hdp a ha; have := hs.at_ a ha; omega
  have ok3 : okIx e (addL p i) = true := okIx_of (by rw [addL_len, hle]) fun a ha => by
    have := hir a ha; have := hs.at_ a ha
    rw [addL_at (by omega)]; omega
  have he0 : ∀ z ∈ e, 0 ≤ z := fun z hz => by have := hpe z hz; omega
  obtain ⟨a1, a2⟩ := offV_lt he0 hle ok1
  obtain ⟨b1, b2⟩ := offV_lt he0 hs.lp ok2
  obtain ⟨c1, c2⟩ := offV_lt he0 (by rw [addL_len, hle]) ok3
  rw [off_add hs.lp hle] at c2 ⊢
  unfold moves_move_slice_3
  rw [dot_spec (by rw [strV_length, hle]) (fun y hy => by
    obtain ⟨k, hk, rfl⟩ := List.getElem_of_mem hy
    rw [← gI_get hk]
    exact (hir k (by omega)).1) (strV_nonneg hpe) (by rw [dot_strV]; omega) (by rw [strV_length]; omega) hf, ob_some, dot_strV, wk_eq (by omega) (by omega)]
theorem sliceL {by_ : List Int} {at_ : Int} {nx : List Int → Int → Int → Option T_Tensor} {L : List T_Tensor} (hg : Good x.fDims) (hs : SlOK x.fDims p q d) (hb : by_.length = x.fDims.length) {k : Nat} (hk : k < x.fDims.length) :
    moves_move_slice.L1 fu ⟨49, s, L, x, ax⟩ d p (iotaL x.fDims.length) (List.replicate x.fDims.length 1) (strdW x.fDims) nx by_ at_ (k : Int) = nx (by_.set k (wk .i64 (gI (strdW x.fDims) k * 1))) (wk .i64 (at_ + (wk .i64 (gI p k * gI (strdW x.fDims) k)))) ((k + 1 : Nat) : Int) := by
  have h8 := hg.1
  have hlp := hs.lp
  have hld := hs.ld
  obtain ⟨a1, a2, a3, a4⟩ := hs.at_ k hk
  have hA : shape_Axis fu (k : Int) (d.length : Int) = some ((k : Int), 0) := by rw [Axis_spec (by omega), axisV_nat (by omega)]
  have c1 : imax (imin 1 4097) (-4097) = 1 := by decide
  rw [moves_move_slice.L1, if_pos (by rw [iotaL_len]; omega), iotaL_at hk, ob_some, hA, ob_some, at?_get (by simp; exact hk), ob_some, List.getElem_replicate, at_gI hk, ob_some, at_gI (by omega), ob_some, c1, begins_spec (by omega) (by omega), ob_some, at_gI (by rw [strdW_length]; exact hk), ob_some, chk_pos (by omega), Int.toNat_natCast, wk_succ (by omega)]
theorem sliceE {by_ : List Int} {at_ : Int} {nx : List Int → Int → Int → Option T_Tensor} {L : List T_Tensor} :
    moves_move_slice.L1 fu ⟨49, s, L, x, ax⟩ d p (iotaL x.fDims.length) (List.replicate x.fDims.length 1) (strdW x.fDims) nx by_ at_ (x.fDims.length : Int) = moves_move_slice.k4 fu ⟨49, s, L, x, ax⟩ d by_ at_ := by
  rw [moves_move_slice.L1, if_neg (by rw [iotaL_len]; omega)]
theorem sliceW {N : Nat} {L : List T_Tensor} (hsm : Small x) (hft : Fuel fu x) (hg : Good x.fDims) (hgd : Good d) (hs : SlOK x.fDims p q d) (hN : prod d = (N : Int)) (hf : 5000 < fu) :
    moves_move_slice.W1 fu ⟨49, s, L, x, ax⟩ d p (iotaL x.fDims.length) (List.replicate x.fDims.length 1) (strdW x.fDims) (strdW x.fDims) 0 0 = some (pT d N (gSl x.fDims p d) x) := by
  have h8 := hg.1
  have hlp := hs.lp
  have hld := hs.ld
  have hsl : (strdW x.fDims).length = x.fDims.length := strdW_length _
  unfold moves_move_slice.W1
  by_cases hz : prod d = 0
  · have hN0 : N = 0 := by omega
    refine cloop_ind (fun _ => some (pT d N (gSl x.fDims p d) x)) (fun (st : List Int × Int × Int) => st.1.length = x.fDims.length ∧ 0 ≤ st.2.2 ∧ st.2.2 ≤ x.fDims.length) (fun st => x.fDims.length - st.2.2.toNat) ?_ fu _ ⟨hsl, by simp, by simp⟩ (by simp; omega)
    rintro ⟨b, a, k⟩ ⟨q0, q1, q2⟩ next hn
    simp only at q0 q1 q2 hn ⊢
    obtain ⟨k, rfl⟩ := Int.eq_ofNat_of_zero_le q1
    by_cases hk : k < x.fDims.length
    · rw [sliceL hg hs q0 hk]
      exact hn _ ⟨by simp [q0], by simp only []; omega, by simp only []; omega⟩ (by simp only [Int.toNat_natCast]; omega)
    · have : k = x.fDims.length := by omega
      subst this
      rw [sliceE]
      unfold moves_move_slice.k4
      rw [picked_spec (N := N) (f := gSl x.fDims p d) hsm hft hgd hN hf (fun k hk => by omega), ob_some]
      rfl
  · have hpd := pos_of_good hgd hz
    have hpe : ∀ z ∈ x.fDims, 1 ≤ z := fun z hz => by
      obtain ⟨k, hk, rfl⟩ := List.getElem_of_mem hz
      have h1 := hs.at_ k hk
      have hk' : k < d.length := by omega
      have h2 := hpd _ (List.getElem_mem hk')
      rw [← gI_get hk'] at h2
      rw [← gI_get hk]
      omega
    have hpr := hg.2.2
    have hst : strdW x.fDims = strV x.fDims := strdW_pos hpe (by omega)
    have hvl : (strV x.fDims).length = x.fDims.length := strV_length _
    have hpn : ∀ y ∈ p, 0 ≤ y := fun y hy => by
      obtain ⟨k, hk, rfl⟩ := List.getElem_of_mem hy
      rw [← gI_get hk]
      exact (hs.at_ k (by omega)).1
    have hsn := strV_nonneg hpe
    have hdp : ∀ a, a < x.fDims.length → 1 ≤ gI d a := fun a ha => by
      have ha' : a < d.length := by omega
      rw [gI_get ha']; exact hpd _ (List.getElem_mem ha')
    have ok2 : okIx x.fDims p = true := okIx_of hlp fun a ha => by have := hdp a ha; have := hs.at_ a ha; omega
    have hof := (offV_lt (fun z hz => by have := hpe z hz; omega) hlp ok2).2
    refine cloop_ind (fun _ => some (pT d N (gSl x.fDims p d) x)) (fun (st : List Int × Int × Int) => st.1 = strV x.fDims ∧ 0 ≤ st.2.2 ∧ st.2.2 ≤ x.fDims.length ∧ 0 ≤ st.2.1 ∧ st.2.1 + dotV (p.drop st.2.2.toNat) ((strV x.fDims).drop st.2.2.toNat) = offV x.fDims p) (fun st => x.fDims.length - st.2.2.toNat) ?_ fu _ ⟨hst, by simp, by simp, by simp, by simp [dot_strV]⟩ (by simp; omega)
    rintro ⟨b, a, k⟩ ⟨q0, q1, q2, q3, q4⟩ next hn
    simp only at q0 q1 q2 q3 q4 hn ⊢
    obtain ⟨k, rfl⟩ := Int.eq_ofNat_of_zero_le q1
    simp only [Int.toNat_natCast] at q4
    by_cases hk : k < x.fDims.length
    · have k1 : k < (strV x.fDims).length := by omega
      have k2 : k < p.length := by omega
      rw [sliceL hg hs (by rw [q0, hvl]) hk, hst]
      rw [List.drop_eq_getElem_cons k1, List.drop_eq_getElem_cons k2, ← gI_get k1, ← gI_get k2] at q4
      simp only [dotV] at q4
      have p0 : 0 ≤ gI (strV x.fDims) k := by rw [gI_get k1]; exact hsn _ (List.getElem_mem k1)
      have p1 : 0 ≤ gI p k * gI (strV x.fDims) k := Int.mul_nonneg (hs.at_ k hk).1 p0
      have p2 : 0 ≤ dotV (p.drop (k + 1)) ((strV x.fDims).drop (k + 1)) := dotV_nonneg (fun z hz => hpn z (List.mem_of_mem_drop hz)) (fun z hz => hsn z (List.mem_of_mem_drop hz))
      have p3 : gI (strV x.fDims) k ≤ 4096 := by
        have ok4 : ∀ {l : List Int}, (∀ z ∈ l, 1 ≤ z) → prod l ≤ 4096 → ∀ y ∈ strV l, y ≤ 4096 := by
          intro l
          induction l with
          | nil => intro _ _ y hy; simp [strV] at hy
          | cons c l ih =>
            intro h1 h2 y hy
            have h' : ∀ z ∈ l, 1 ≤ z := fun z hz => h1 z (by simp [hz])
            have h3 := prod_pos h'
            have h4 : 1 * prod l ≤ c * prod l := Int.mul_le_mul_of_nonneg_right (h1 c (by simp)) (by omega)
            simp only [prod] at h2
            simp only [strV, List.mem_cons] at hy
            rcases hy with rfl | hy
            · omega
            · exact ih h' (by omega) y hy
        rw [gI_get k1]
        exact ok4 hpe hpr _ (List.getElem_mem k1)
      rw [Int.mul_one, wk_eq (x := gI (strV x.fDims) k) (by omega) (by omega), wk_eq (x := gI p k * gI (strV x.fDims) k) (by omega) (by omega), wk_eq (x := a + gI p k * gI (strV x.fDims) k) (by omega) (by omega), q0, set_gI k1]
      exact hn _ ⟨rfl, by simp only []; omega, by simp only []; omega, by simp only []; omega, by simp only [Int.toNat_natCast]; omega⟩ (by simp only [Int.toNat_natCast]; omega)
    · have : k = x.fDims.length := by omega
      subst this
      rw [sliceE]
      rw [List.drop_of_length_le (by omega), List.drop_of_length_le (by omega)] at q4
      have qa : a = offV x.fDims p := by simpa [dotV] using q4
      unfold moves_move_slice.k4
      rw [picked_spec (N := N) (f := gSl x.fDims p d) hsm hft hgd hN hf ?_, ob_some]
      · rfl
      · intro k hk
        show moves_move_slice_3 fu (idxV d (k : Int)) a b = _
        rw [q0, qa]
        exact clo_49 hg hpe hs hpd (idxV_length _ _) (okIx_idx hpd (by omega) (by omega)) (by omega)
theorem slice_head (hp : p.length ≤ 4096) (hf : 5000 < fu) : moves_move_slice fu ⟨49, s, [x, lt p, lt q], x, ax⟩ d = (moves_strides fu x.fDims).bind fun x6 => (slices_Clone_int fu x6).bind fun x7 => moves_move_slice.W1 fu ⟨49, s, [x, lt p, lt q], x, ax⟩ d p (iotaL p.length) (List.replicate p.length 1) x6 x7 0 0 := by
  have hfin : at? [x, lt p, lt q] 1 = some (lt p) := rfl
  have h2 : moves_move_slice.c2 fu ⟨49, s, [x, lt p, lt q], x, ax⟩ d p (iotaL p.length) = (moves_strides fu x.fDims).bind fun x6 => (slices_Clone_int fu x6).bind fun x7 => moves_move_slice.W1 fu ⟨49, s, [x, lt p, lt q], x, ax⟩ d p (iotaL p.length) (List.replicate p.length 1) x6 x7 0 0 := by
    rw [moves_move_slice.c2, jc_at, jn_at, if_neg (by simp), moves_move_slice.k5, hfin, ob_some]
    unfold moves_move_slice.W2
    refine (mk_loop (N := p.length) (by omega) (by omega) (E := fun i => moves_move_slice_2 fu i) (e := fun _ => 1) (fun k hk => rfl) (c := fun m => moves_move_slice.c3 fu ⟨49, s, [x, lt p, lt q], x, ax⟩ d p (iotaL p.length) m) (L := moves_move_slice.L2 fu ⟨49, s, [x, lt p, lt q], x, ax⟩ d p (iotaL p.length) (lt p)) (fun nx m i => rfl)).trans ?_
    have e1 : (List.range p.length).map (fun _ => (1 : Int)) = List.replicate p.length 1 := by rw [List.map_const', List.length_range]
    rw [e1, moves_move_slice.c3]
    rfl
  have h1 : moves_move_slice.c1 fu ⟨49, s, [x, lt p, lt q], x, ax⟩ d p = moves_move_slice.c2 fu ⟨49, s, [x, lt p, lt q], x, ax⟩ d p (iotaL p.length) := by
    rw [moves_move_slice.c1, jc_at, jn_at, if_neg (by simp), moves_move_slice.k6, hfin, ob_some]
    unfold moves_move_slice.W4
    exact mk_loop (N := p.length) (by omega) (by omega) (E := fun i => moves_move_slice_1 fu i) (e := fun k => (k : Int)) (fun k hk => rfl) (c := fun m => moves_move_slice.c2 fu ⟨49, s, [x, lt p, lt q], x, ax⟩ d p m) (L := moves_move_slice.L4 fu ⟨49, s, [x, lt p, lt q], x, ax⟩ d p (lt p)) (fun nx m i => rfl)
  rw [moves_move_slice, chk_pos rfl, jc_at, jn_at, if_pos (by simp), hfin, ob_some, if_neg (show ¬ (lt p).fType = 0 from (by decide : ¬ (7 : Int) = 0))]
  unfold moves_move_slice.W7
  refine (mk_loop (N := p.length) (by omega) (by omega) (E := fun i => at? p i) (e := gI p) (fun k hk => at_gI hk) (c := fun m => moves_move_slice.c1 fu ⟨49, s, [x, lt p, lt q], x, ax⟩ d m) (L := moves_move_slice.L7 fu ⟨49, s, [x, lt p, lt q], x, ax⟩ d (lt p)) (fun nx m i => rfl)).trans ?_
  rw [range_gI, h1, h2]
theorem one_49 {N : Nat} (hsm : Small x) (hft : Fuel fu x) (hg : Good x.fDims) (hgd : Good d) (hs : SlOK x.fDims p q d) (hN : prod d = (N : Int)) (hf : 5000 < fu) :
    moves_move_one fu ⟨49, s, [x, lt p, lt q], x, ax⟩ d [] = some (pT d N (gSl x.fDims p d) x) := by
  have h8 := hg.1
  have hlp := hs.lp
  have e : moves_move_one fu ⟨49, s, [x, lt p, lt q], x, ax⟩ d [] = (moves_move_slice fu ⟨49, s, [x, lt p, lt q], x, ax⟩ d).bind fun x5 => some x5 := by
    rw [moves_move_one, spl_neg (show ¬ (49 : Int) = 53 by decide), chk_pos rfl]
  rw [e, slice_head (by omega) hf, strides_m hg (by omega), ob_some, Clone_spec (by rw [strdW_length]; omega), ob_some, hlp, sliceW hsm hft hg hgd hs hN hf]
  rfl
end
end Go.Av
set_option linter.unusedVariables false
namespace Go.Av
theorem lt_ten {l : List Int} (h : l.length * 8 ≤ 140737488351232) : Ten (lt l) := ⟨by simp [lt], by simp [lt], by simp only [lt]; omega, by simp [lt], by simp [lt]⟩
theorem lt_fuel {fu : Nat} {l : List Int} (h : l.length < fu) (h1 : 1 < fu) : Fuel fu (lt l) := ⟨by simpa [lt] using h1, by simp [lt]; omega, by simpa [lt] using h, by simp [lt]; omega⟩
theorem lt_val {l : List Int} : valOf (lt l) = lv l := if_neg (show ¬ (lt l).fType = 0 from (by decide : ¬ (7 : Int) = 0))
section
variable {fu : Nat} {s : T_Setting} {t : T_Tensor} {l p q d : List Int}
theorem Do_53 {N : Nat} (ht : Ten t) (hft : Fuel fu t) (h0 : t.fType ≠ 0) (hc : checkV t = 0) (hl : l.length ≤ 4096) (h : PadIn s.fMode t.fDims l) (hN : prod (eP t.fDims l) = (N : Int)) (hf : 7000 < fu) :
    moves_Do fu 53 s [t, lt l] 1 = some ([pT (eP t.fDims l) N (fPd s.fMode t.fDims l) (canonT t)], 0) := by
  obtain ⟨f, rfl⟩ : ∃ f, fu = f + 3 := ⟨fu - 3, by omega⟩
  obtain ⟨hk, hg, hL⟩ := checkV_zero.1 hc
  have h8 := hg.1
  have hT : Tens (f + 3) [t, lt l] := ⟨by simp, by simp, fun x hx => by
    simp at hx
    rcases hx with rfl | rfl
    · exact ⟨ht, hft⟩
    · exact ⟨lt_ten (by omega), lt_fuel (by omega) (by omega)⟩⟩
  have e : moves_Do (f + 3) 53 s [t, lt l] 1 = moves_Do.W1 (f + 3) s [t, lt l] 1 [] 0 := rfl
  rw [e]; unfold moves_Do.W1
  have hbd : badV [t, lt l] = none := by unfold badV; rw [if_pos (.inr hc)]; unfold badV; rw [if_pos (.inr (lt_check hl))]; rfl
  rw [head_loop hT (L := moves_Do.L1 (f + 3) s [t, lt l] 1) (k1 := moves_Do.k1 (f + 3) s [t, lt l] 1) (er := fun e => some ([], e)) (fun nx acc i => rfl), hbd]
  show moves_Do.k1 (f + 3) s [t, lt l] 1 [canonT t, lt l] = _
  have hv : valOf t = ⟨t.fType, t.fDims, true, t⟩ := if_neg h0
  unfold moves_Do.k1
  rw [Vals_all hT, ob_some]
  show (infer_Node (f + 3) 53 s [valOf t, valOf (lt l)] 1).bind _ = _
  have hvt : (valOf t).fType = t.fType := by rw [hv]
  have hvd : (valOf t).fDims = t.fDims := by rw [hv]
  have hbig : ¬ (l.any fun n => decide (4096 < n)) = true := fun hb => by
    obtain ⟨x, hx, hx2⟩ := List.any_eq_true.1 hb
    have := h.ok.rng x hx
    simp at hx2
    omega
  rw [lt_val, Node_p (by rw [hvt]; exact h0) (by rw [hvt]; exact hk) (by rw [hvd]; exact hg) hl (by omega), if_neg hbig, pad_good (by rw [hvd]; exact hg) (by rw [hvd]; exact h.ok) (by omega), ob_some, if_pos rfl, hvd]
  show (infer_Node.W1 (f + 3) s [valOf t, lv l] 1 ([eP t.fDims l], 0) [] 0).bind _ = _
  rw [out_p (fu := f + 1) (by rw [eP_length]; omega) (by omega), if_pos h.ge, ob_some, if_pos rfl, hvt]
  show (some (canonT t)).bind _ = _
  rw [ob_some]
  have hax : ∃ r, shape_Axis (f + 3) s.fAxis ((canonT t).fDims.length : Int) = some r := ⟨_, Axis_spec (by show t.fDims.length ≤ 100; omega)⟩
  obtain ⟨r, hr⟩ := hax
  rw [hr, ob_some]
  unfold jn moves_Do.k2
  show (some (outV t.fType (eP t.fDims l))).bind _ = _
  rw [ob_some]
  show (moves_move_one (f + 3) ⟨53, s, [canonT t, lt l], canonT t, r.1⟩ (eP (canonT t).fDims l) []).bind _ = _
  rw [one_53 (canonT_small ht) (canonT_fuel hft) (by rw [canonT_check]; exact hc) h hN (by omega)]
  rfl
theorem Do_53_bad (ht : Ten t) (hft : Fuel fu t) (hl8 : l.length * 8 ≤ 140737488351232) (hlf : l.length < fu) (hn : ¬ (t.fType ≠ 0 ∧ checkV t = 0 ∧ l.length ≤ 4096 ∧ PadIn s.fMode t.fDims l)) (hf : 7000 < fu) :
    ∃ e, e ≠ 0 ∧ moves_Do fu 53 s [t, lt l] 1 = some ([], e) := by
  obtain ⟨f, rfl⟩ : ∃ f, fu = f + 3 := ⟨fu - 3, by omega⟩
  have hT : Tens (f + 3) [t, lt l] := ⟨by simp, by simp, fun x hx => by
    simp at hx
    rcases hx with rfl | rfl
    · exact ⟨ht, hft⟩
    · exact ⟨lt_ten hl8, lt_fuel hlf (by omega)⟩⟩
  have e : moves_Do (f + 3) 53 s [t, lt l] 1 = moves_Do.W1 (f + 3) s [t, lt l] 1 [] 0 := rfl
  rw [e]; unfold moves_Do.W1
  rw [head_loop hT (L := moves_Do.L1 (f + 3) s [t, lt l] 1) (k1 := moves_Do.k1 (f + 3) s [t, lt l] 1) (er := fun e => some ([], e)) (fun nx acc i => rfl)]
  cases hb : badV [t, lt l] with
  | some e => exact ⟨e, badV_some hb, rfl⟩
  | none =>
    show ∃ e, e ≠ 0 ∧ moves_Do.k1 (f + 3) s [t, lt l] 1 [canonT t, lt l] = _
    have hlc := (badV_none hb (lt l) (by simp)).resolve_left (by decide : ¬ (7 : Int) = 0)
    have hl : l.length ≤ 4096 := by
      by_cases h : l.length ≤ 4096
      · exact h
      · exact absurd hlc (lt_bad (by omega))
    unfold moves_Do.k1
    rw [Vals_all hT, ob_some]
    show ∃ e, e ≠ 0 ∧ (infer_Node (f + 3) 53 s [valOf t, valOf (lt l)] 1).bind _ = _
    rw [lt_val]
    by_cases h0 : t.fType = 0
    · have hv : (valOf t).fType = 0 := by unfold valOf; rw [if_pos h0]; rfl
      refine ⟨1, by decide, ?_⟩
      rw [Node_none_p hv, ob_some, if_neg (by decide)]
    · have hc := (badV_none hb t (by simp)).resolve_left h0
      obtain ⟨hk, hg, hL⟩ := checkV_zero.1 hc
      have h8 := hg.1
      have hv : valOf t = ⟨t.fType, t.fDims, true, t⟩ := if_neg h0
      have hvt : (valOf t).fType = t.fType := by rw [hv]
      have hvd : (valOf t).fDims = t.fDims := by rw [hv]
      rw [Node_p (by rw [hvt]; exact h0) (by rw [hvt]; exact hk) (by rw [hvd]; exact hg) hl (by omega)]
      by_cases hbig : (l.any fun n => decide (4096 < n)) = true
      · rw [if_pos hbig]
        exact ⟨4, by decide, rfl⟩
      · rw [if_neg hbig]
        by_cases hp : PadOK s.fMode t.fDims l
        · rw [pad_good (by rw [hvd]; exact hg) (by rw [hvd]; exact hp) (by omega), ob_some, if_pos rfl, hvd]
          show ∃ e, e ≠ 0 ∧ (infer_Node.W1 (f + 3) s [valOf t, lv l] 1 ([eP t.fDims l], 0) [] 0).bind _ = _
          rw [out_p (fu := f + 1) (by rw [eP_length]; omega) (by omega), if_neg (fun hge => hn ⟨h0, hc, hl, hp, hg, hge⟩)]
          exact ⟨4, by decide, rfl⟩
        · rw [pad_bad (by rw [hvd]; exact hg) hl (fun x hx => by
            by_cases h : x ≤ 4096
            · exact h
            · exact absurd (List.any_eq_true.2 ⟨x, hx, by simp; omega⟩) hbig) (by rw [hvd]; exact hp) (by omega)]
          exact ⟨3, by decide, rfl⟩
theorem Do_49 {N : Nat} (ht : Ten t) (hft : Fuel fu t) (h0 : t.fType ≠ 0) (hc : checkV t = 0) (hgd : Good d) (hs : SlOK t.fDims p q d) (hN : prod d = (N : Int)) (hf : 7000 < fu) :
    moves_Do fu 49 s [t, lt p, lt q] 1 = some ([pT d N (gSl t.fDims p d) (canonT t)], 0) := by
  obtain ⟨f, rfl⟩ : ∃ f, fu = f + 5 := ⟨fu - 5, by omega⟩
  obtain ⟨hk, hg, hL⟩ := checkV_zero.1 hc
  have h8 := hg.1
  have hlp := hs.lp
  have hlq := hs.lq
  have hT : Tens (f + 5) [t, lt p, lt q] := ⟨by simp, by simp, fun x hx => by
    simp at hx
    rcases hx with rfl | rfl | rfl
    · exact ⟨ht, hft⟩
    · exact ⟨lt_ten (by omega), lt_fuel (by omega) (by omega)⟩
    · exact ⟨lt_ten (by omega), lt_fuel (by omega) (by omega)⟩⟩
  have e : moves_Do (f + 5) 49 s [t, lt p, lt q] 1 = moves_Do.W2 (f + 5) s [t, lt p, lt q] 1 [] 0 := rfl
  rw [e]; unfold moves_Do.W2
  have hbd : badV [t, lt p, lt q] = none := by
    unfold badV; rw [if_pos (.inr hc)]; unfold badV; rw [if_pos (.inr (lt_check (by omega)))]; unfold badV; rw [if_pos (.inr (lt_check (by omega)))]; rfl
  rw [head_loop hT (L := moves_Do.L2 (f + 5) s [t, lt p, lt q] 1) (k1 := moves_Do.k3 (f + 5) s [t, lt p, lt q] 1) (er := fun e => some ([], e)) (fun nx acc i => rfl), hbd]
  show moves_Do.k3 (f + 5) s [t, lt p, lt q] 1 [canonT t, lt p, lt q] = _
  have hv : valOf t = ⟨t.fType, t.fDims, true, t⟩ := if_neg h0
  unfold moves_Do.k3
  rw [Vals_all hT, ob_some]
  show (infer_Node (f + 5) 49 s [valOf t, valOf (lt p), valOf (lt q)] 1).bind _ = _
  have hvt : (valOf t).fType = t.fType := by rw [hv]
  have hvd : (valOf t).fDims = t.fDims := by rw [hv]
  rw [lt_val, lt_val, Node_q (d := d) (by rw [hvt]; exact h0) (by rw [hvt]; exact hk) (by rw [hvd]; exact hg) hgd (by rw [hvd]; exact hs) (by omega), ob_some, if_pos rfl, hvt]
  show (some (canonT t)).bind _ = _
  rw [ob_some]
  have hax : ∃ r, shape_Axis (f + 5) s.fAxis ((canonT t).fDims.length : Int) = some r := ⟨_, Axis_spec (by show t.fDims.length ≤ 100; omega)⟩
  obtain ⟨r, hr⟩ := hax
  rw [hr, ob_some]
  unfold jn moves_Do.k4
  show (some (outV t.fType d)).bind _ = _
  rw [ob_some]
  show (moves_move_one (f + 5) ⟨49, s, [canonT t, lt p, lt q], canonT t, r.1⟩ d []).bind _ = _
  rw [one_49 (canonT_small ht) (canonT_fuel hft) hg hgd hs hN (by omega)]
  rfl
end
end Go.Av
