/- Layer 4, shapes: what the plain functions come to. Strides, indices, offsets. Copies. Layer 5: sameness, whether a tensor may be, copies whose no numbers are one. Lists of numbers alike. Sameness of two tensors. Any tensors: as constant values; whether each may be. New tensors, elements picked. Orders of axes: sums and products in another order, places there and back. All indices of dims in row order; elements picked by a place of each. Sums of indices by strides; axes; copies. Picks of elements, or of nothing, and those that lead back. Parts along an axis, and their places. The parts of a tensor and the row of them all. Loops that find and make; what infer tells of Split. What infer tells of Concat. What Split and Concat make of tensors. Concat of the parts of a tensor. What Split and Concat answer. Conditions: those that each names. -/
import Derived.Test.YtnpnomlnajgbcaaGreatQS
import Derived.Test.YtnpnomlnajgbcaaGreatPl
set_option linter.unusedVariables false
namespace Go.Av
def fstAt (p : Int → Bool) : Nat → List Int → Int
  | _, [] => -1
  | i, x :: l => if p x = true then i else fstAt p (i + 1) l
theorem fstAt_any (p : Int → Bool) : ∀ (l : List Int) (i : Nat), decide (0 ≤ fstAt p i l) = l.any p
  | [], i => rfl
  | x :: l, i => by
    simp only [fstAt, List.any_cons]
    by_cases h : p x = true
    · simp [h]
    · simp [h, ← fstAt_any p l (i + 1)]
def Short (l : List Int) : Prop := l.length ≤ 140737488355328
theorem wk_succ {k : Nat} (h : k ≤ 140737488355328) : wk .i64 ((k : Int) + 1) = ((k + 1 : Nat) : Int) := by rw [wk_eq (by omega) (by omega)]; omega
theorem IndexFunc_spec {fu : Nat} {l : List Int} {p : Int → Option Bool} {q : Int → Bool} (hp : ∀ x, p x = some (q x)) (hl : Short l) (hf : l.length < fu) : slices_IndexFunc_int fu l p = some (fstAt q 0 l) := by
  unfold slices_IndexFunc_int slices_IndexFunc_int.W1
  refine cloop_ind (fun (i : Int) => some (fstAt q i.toNat (l.drop i.toNat))) (fun i => 0 ≤ i ∧ i ≤ l.length) (fun i => l.length - i.toNat) ?_ fu 0 (by omega) (by simp; omega)
  rintro i ⟨h0, h1⟩ next hn
  obtain ⟨k, rfl⟩ := Int.eq_ofNat_of_zero_le h0
  unfold slices_IndexFunc_int.L1
  simp only [Int.toNat_natCast]
  by_cases hk : k < l.length
  · rw [if_pos (by omega), at?_get hk, ob_some, hp, ob_some, List.drop_eq_getElem_cons hk]
    simp only [fstAt]
    by_cases hq : q l[k] = true
    · rw [if_pos hq, if_pos hq]
    · rw [if_neg hq, if_neg hq, wk_succ (by unfold Short at hl; omega), hn _ (by omega) (by simp; omega)]
      simp
  · rw [if_neg (by omega), List.drop_of_length_le (by omega)]; rfl
theorem ContainsFunc_spec {fu : Nat} {l : List Int} {p : Int → Option Bool} {q : Int → Bool} (hp : ∀ x, p x = some (q x)) (hl : Short l) (hf : l.length < fu) : slices_ContainsFunc_int fu l p = some (l.any q) := by
  unfold slices_ContainsFunc_int
  rw [IndexFunc_spec hp hl hf, ob_some, fstAt_any]
theorem IndexI_spec {fu : Nat} {l : List Int} {x : Int} (hl : Short l) (hf : l.length < fu) : slices_Index_int fu l x = some (fstAt (fun y => decide (x = y)) 0 l) := by
  unfold slices_Index_int slices_Index_int.W1
  refine cloop_ind (fun (i : Int) => some (fstAt (fun y => decide (x = y)) i.toNat (l.drop i.toNat))) (fun i => 0 ≤ i ∧ i ≤ l.length) (fun i => l.length - i.toNat) ?_ fu 0 (by omega) (by simp; omega)
  rintro i ⟨h0, h1⟩ next hn
  obtain ⟨k, rfl⟩ := Int.eq_ofNat_of_zero_le h0
  unfold slices_Index_int.L1
  simp only [Int.toNat_natCast]
  by_cases hk : k < l.length
  · rw [if_pos (by omega), at?_get hk, ob_some, List.drop_eq_getElem_cons hk]
    simp only [fstAt]
    by_cases hq : x = l[k]
    · rw [if_pos hq, if_pos (by simpa using hq)]
    · rw [if_neg hq, if_neg (by simpa using hq), wk_succ (by unfold Short at hl; omega), hn _ (by omega) (by simp; omega)]
      simp
  · rw [if_neg (by omega), List.drop_of_length_le (by omega)]; rfl
theorem Contains_spec {fu : Nat} {l : List Int} {x : Int} (hl : Short l) (hf : l.length < fu) : slices_Contains_int fu l x = some (l.any fun y => decide (x = y)) := by
  unfold slices_Contains_int
  rw [IndexI_spec hl hf, ob_some, fstAt_any]
def prod : List Int → Int
  | [] => 1
  | x :: l => x * prod l
def Rng (l : List Int) : Prop := ∀ x ∈ l, 0 ≤ x ∧ x ≤ 4096
def Good (l : List Int) : Prop := l.length ≤ 8 ∧ Rng l ∧ prod l ≤ 4096
instance (l : List Int) : Decidable (Rng l) := by unfold Rng; infer_instance
instance (l : List Int) : Decidable (Good l) := by unfold Good; infer_instance
def errS (l : List Int) : Int := if l.any (fun x => decide (x < 0)) = true then 1 else 4
def sizeV (l : List Int) : Int × Int := if Good l then (prod l, 0) else (0, errS l)
theorem errS_ne (l : List Int) : errS l ≠ 0 := by unfold errS; split <;> decide
theorem prod_nonneg : ∀ {l : List Int}, Rng l → 0 ≤ prod l
  | [], _ => by decide
  | x :: l, h => Int.mul_nonneg (h x (by simp)).1 (prod_nonneg fun y hy => h y (by simp [hy]))
theorem prod_pos : ∀ {l : List Int}, (∀ x ∈ l, 1 ≤ x) → 1 ≤ prod l
  | [], _ => by decide
  | x :: l, h => by
    have h1 := h x (by simp)
    have h2 := prod_pos (l := l) fun y hy => h y (by simp [hy])
    have := Int.mul_le_mul h1 h2 (by decide) (by omega)
    simpa [prod] using this
theorem prod_zero : ∀ {l : List Int}, 0 ∈ l → prod l = 0
  | x :: l, h => by
    rcases List.mem_cons.1 h with rfl | h
    · simp [prod]
    · simp [prod, prod_zero h]
theorem div_lt_iff {m d : Int} (hm : 1 ≤ m) (hd : 0 ≤ d) : (Int.tdiv 4096 m < d) ↔ 4096 < m * d := by
  rw [Int.tdiv_eq_ediv_of_nonneg (by decide)]
  constructor
  · intro h
    have := Int.lt_mul_of_ediv_lt (by omega : 0 < m) h
    rwa [Int.mul_comm] at this
  · intro h
    exact Int.ediv_lt_of_lt_mul (by omega) (by rwa [Int.mul_comm])
theorem SizeW_spec {fu : Nat} {l : List Int} (hp : ∀ x ∈ l, 1 ≤ x ∧ x ≤ 4096) (hl : l.length ≤ 8) (hf : l.length < fu) : shape_Size.W1 fu l 1 0 = some (if prod l ≤ 4096 then (prod l, 0) else (0, 4)) := by
  unfold shape_Size.W1
  refine (cloop_ind (fun (s : Int × Int) => some (if s.1 * prod (l.drop s.2.toNat) ≤ 4096 then (s.1 * prod (l.drop s.2.toNat), 0) else (0, 4))) (fun s => 0 ≤ s.2 ∧ s.2 ≤ l.length ∧ 1 ≤ s.1 ∧ s.1 ≤ 4096) (fun s => l.length - s.2.toNat) ?_ fu (1, 0) (by simp) (by simp; omega)).trans (by simp)
  rintro ⟨m, i⟩ ⟨h0, h1, h2, h3⟩ next hn
  simp only at h0 h1 h2 h3 hn ⊢
  obtain ⟨k, rfl⟩ := Int.eq_ofNat_of_zero_le h0
  unfold shape_Size.L1
  simp only [Int.toNat_natCast]
  by_cases hk : k < l.length
  · obtain ⟨q1, q2⟩ := hp _ (List.getElem_mem hk)
    have t0 : 0 ≤ Int.tdiv 4096 m ∧ Int.tdiv 4096 m ≤ 4096 := by
      rw [Int.tdiv_eq_ediv_of_nonneg (by decide)]
      exact ⟨Int.ediv_nonneg (by decide) (by omega), Int.ediv_le_self _ (by decide)⟩
    rw [if_pos (by omega), at?_get hk, ob_some, chk_pos (by omega), wk_eq (by omega) (by omega), List.drop_eq_getElem_cons hk]
    have hpos : 1 ≤ prod (l.drop (k + 1)) := prod_pos fun x hx => (hp x (List.mem_of_mem_drop hx)).1
    have hge : 1 ≤ m * l[k] := by have := Int.mul_le_mul h2 q1 (by decide) (by omega); simpa using this
    simp only [prod, ← Int.mul_assoc]
    by_cases hd : Int.tdiv 4096 m < l[k]
    · rw [if_pos hd]
      rw [div_lt_iff h2 (by omega)] at hd
      have : m * l[k] * 1 ≤ m * l[k] * prod (l.drop (k + 1)) := Int.mul_le_mul_of_nonneg_left hpos (by omega)
      rw [if_neg (by omega)]
    · rw [if_neg hd]
      rw [div_lt_iff h2 (by omega)] at hd
      rw [wk_eq (by omega) (by omega), wk_succ (by omega), hn (m * l[k], ((k + 1 : Nat) : Int)) ⟨by simp only []; omega, by simp only []; omega, hge, by simp only []; omega⟩ (by simp; omega)]
      simp
  · rw [if_neg (by omega), List.drop_of_length_le (by omega)]
    simp only [prod, Int.mul_one]
    rw [if_pos h3]
theorem Size_spec {fu : Nat} {l : List Int} (hl : Short l) (hf : l.length < fu) : shape_Size fu l = some (sizeV l) := by
  unfold shape_Size; try unfold jn
  rw [ContainsFunc_spec (p := fun y0 => shape_Size_1 fu y0) (q := fun x => decide (x < 0)) (fun x => rfl) hl hf, ob_some]
  by_cases h1 : l.any (fun x => decide (x < 0)) = true
  · rw [if_pos h1]
    have hg : ¬ Good l := fun hg => by
      obtain ⟨x, hx, hx2⟩ := List.any_eq_true.1 h1
      have := (hg.2.1 x hx).1
      simp at hx2; omega
    simp only [sizeV, if_neg hg, errS, if_pos h1]
  rw [if_neg h1]
  have he : errS l = 4 := by simp only [errS, if_neg h1]
  by_cases h2 : 8 < (l.length : Int)
  · rw [if_pos h2]
    have hg : ¬ Good l := fun hg => by have := hg.1; omega
    simp only [sizeV, if_neg hg, he]
  rw [if_neg h2, ContainsFunc_spec (p := fun y0 => shape_Size_2 fu y0) (q := fun x => decide (4096 < x)) (fun x => rfl) hl hf, ob_some]
  by_cases h3 : l.any (fun x => decide (4096 < x)) = true
  · rw [if_pos h3]
    have hg : ¬ Good l := fun hg => by
      obtain ⟨x, hx, hx2⟩ := List.any_eq_true.1 h3
      have := (hg.2.1 x hx).2
      simp at hx2; omega
    simp only [sizeV, if_neg hg, he]
  rw [if_neg h3]
  have hr : Rng l := fun x hx => by
    simp only [List.any_eq_true, decide_eq_true_eq, not_exists, not_and] at h1 h3
    have := h1 x hx; have := h3 x hx; omega
  unfold shape_Size.k1
  rw [Contains_spec hl hf, ob_some]
  by_cases h4 : (l.any fun y => decide ((0 : Int) = y)) = true
  · rw [if_pos h4]
    have hz : (0 : Int) ∈ l := by
      obtain ⟨x, hx, hx2⟩ := List.any_eq_true.1 h4
      simp at hx2; subst hx2; exact hx
    have hg : Good l := ⟨by omega, hr, by rw [prod_zero hz]; decide⟩
    simp only [sizeV, if_pos hg, prod_zero hz]
  rw [if_neg h4]
  have hp : ∀ x ∈ l, 1 ≤ x ∧ x ≤ 4096 := fun x hx => by
    have := hr x hx
    simp only [List.any_eq_true, decide_eq_true_eq, not_exists, not_and] at h4
    have := h4 x hx; omega
  rw [SizeW_spec hp (by omega) hf]
  by_cases h5 : prod l ≤ 4096
  · have hg : Good l := ⟨by omega, hr, h5⟩
    simp only [sizeV, if_pos hg, if_pos h5]
  · have hg : ¬ Good l := fun hg => h5 hg.2.2
    simp only [sizeV, if_neg hg, if_neg h5, he]
end Go.Av
set_option linter.unusedVariables false
namespace Go.Av
def strdW : List Int → List Int
  | [] => []
  | _ :: l => wk .i64 (prod l) :: strdW l
theorem strdW_length : ∀ l, (strdW l).length = l.length
  | [] => rfl
  | _ :: l => by simp [strdW, strdW_length l]
theorem rep_set (i : Nat) (x : Int) (s : List Int) : (List.replicate (i + 1) 0 ++ s).set i x = List.replicate i 0 ++ x :: s := by
  rw [List.replicate_succ', List.append_assoc, List.set_append_right _ _ (by simp)]
  simp
theorem strides_spec {fu : Nat} {l : List Int} (hl : l.length * 8 ≤ 140737488355328) (hf : l.length < fu) : shape_strides fu l = some (strdW l) := by
  unfold shape_strides shape_strides.W1
  rw [chk_pos (by omega)]
  have hw : wk .i64 ((l.length : Int) - 1) = ((l.length : Int) - 1) := wk_eq (by omega) (by omega)
  rw [hw, Int.toNat_natCast]
  refine (cloop_ind (fun _ => some (strdW l)) (fun (s : List Int × Int × Int) => ∃ k : Nat, k ≤ l.length ∧ s = (List.replicate k 0 ++ strdW (l.drop k), wk .i64 (prod (l.drop k)), (k : Int) - 1)) (fun s => (s.2.2 + 1).toNat) ?_ fu _ ⟨l.length, Nat.le_refl _, by simp [strdW, prod]; decide⟩ (by simp; omega))
  rintro _ ⟨k, hk, rfl⟩ next hn
  unfold shape_strides.L1
  simp only
  match k, hk with
  | 0, _ => rw [if_neg (by decide)]; simp
  | k + 1, hk =>
    have e1 : (((k + 1 : Nat) : Int) - 1) = (k : Int) := by omega
    have hlen : (List.replicate (k + 1) (0 : Int) ++ strdW (l.drop (k + 1))).length = l.length := by simp [strdW_length]; omega
    rw [e1, if_pos (by omega), hlen, chk_pos (by omega), at?_get (by omega), ob_some, Int.toNat_natCast, rep_set, wk_mul_l, wk_eq (x := (k : Int) - 1) (by omega) (by omega)]
    refine hn _ ⟨k, by omega, ?_⟩ (by simp)
    rw [List.drop_eq_getElem_cons (by omega : k < l.length)]
    simp only [strdW, prod]
    rw [Int.mul_comm]
theorem prod_drop_le {l : List Int} (hp : ∀ x ∈ l, 1 ≤ x) : ∀ k, 1 ≤ prod (l.drop k) ∧ prod (l.drop k) ≤ prod l := by
  induction l with
  | nil => intro k; simp [prod]
  | cons x l ih =>
    intro k
    have hx := hp x (by simp)
    have ih' := ih fun y hy => hp y (by simp [hy])
    cases k with
    | zero => exact ⟨by simpa using prod_pos hp, by simp⟩
    | succ k =>
      obtain ⟨h1, h2⟩ := ih' k
      have h3 := prod_pos (l := l) fun y hy => hp y (by simp [hy])
      refine ⟨by simpa using h1, ?_⟩
      simp only [List.drop_succ_cons, prod]
      have : 1 * prod l ≤ x * prod l := Int.mul_le_mul_of_nonneg_right hx (by omega)
      omega
theorem pos_of_good {l : List Int} (hg : Good l) (h0 : prod l ≠ 0) : ∀ x ∈ l, 1 ≤ x := fun x hx => by
  have := (hg.2.1 x hx).1
  by_cases h : x = 0
  · subst h; exact absurd (prod_zero hx) h0
  · omega
def idxV : List Int → Int → List Int
  | [], _ => []
  | _ :: l, a => a / prod l :: idxV l (a % prod l)
theorem idxV_length : ∀ l a, (idxV l a).length = l.length
  | [], _ => rfl
  | _ :: l, a => by simp [idxV, idxV_length l]
def okIx : List Int → List Int → Bool
  | d :: l, x :: xs => decide (0 ≤ x) && decide (x < d) && okIx l xs
  | _, _ => true
def offV : List Int → List Int → Int
  | _ :: l, x :: xs => x * prod l + offV l xs
  | _, _ => 0
theorem okIx_idx : ∀ {l : List Int} {a : Int}, (∀ x ∈ l, 1 ≤ x) → 0 ≤ a → a < prod l → okIx l (idxV l a) = true
  | [], _, _, _, _ => rfl
  | d :: l, a, hp, h0, h1 => by
    have hq : 1 ≤ prod l := prod_pos fun x hx => hp x (by simp [hx])
    have h2 : 0 ≤ a / prod l := Int.ediv_nonneg h0 (by omega)
    have h3 : a / prod l < d := Int.ediv_lt_of_lt_mul (by omega) h1
    have h4 := okIx_idx (l := l) (a := a % prod l) (fun x hx => hp x (by simp [hx])) (Int.emod_nonneg _ (by omega)) (Int.emod_lt_of_pos _ (by omega))
    simp [idxV, okIx, h2, h3, h4]
theorem offV_idx : ∀ {l : List Int} {a : Int}, (∀ x ∈ l, 1 ≤ x) → 0 ≤ a → a < prod l → offV l (idxV l a) = a
  | [], a, _, h0, h1 => by simp [prod] at h1; simp [offV]; omega
  | d :: l, a, hp, h0, h1 => by
    have hq : 1 ≤ prod l := prod_pos fun x hx => hp x (by simp [hx])
    have h4 := offV_idx (l := l) (a := a % prod l) (fun x hx => hp x (by simp [hx])) (Int.emod_nonneg _ (by omega)) (Int.emod_lt_of_pos _ (by omega))
    simp only [idxV, offV, h4]
    rw [Int.mul_comm]
    exact Int.mul_ediv_add_emod a (prod l)
end Go.Av
set_option linter.unusedVariables false
namespace Go.Av
theorem Clone_spec {fu : Nat} {l : List Int} (h : l.length * 8 ≤ 140737488355328) : slices_Clone_int fu l = some l := by
  unfold slices_Clone_int
  rw [chk_pos (by omega)]
end Go.Av
set_option linter.unusedVariables false
namespace Go.Av
def sameT (a b : T_Tensor) : Bool := decide (a.fType = b.fType) && decide (a.fDims = b.fDims) && decide (a.fF = b.fF) && decide (a.fI = b.fI) && decide (a.fB = b.fB)
def Small (t : T_Tensor) : Prop := t.fDims.length * 8 ≤ 140737488351232 ∧ t.fF.length ≤ 140737488351232 ∧ t.fI.length ≤ 140737488351232 ∧ t.fB.length ≤ 140737488351232
def Fuel (fu : Nat) (t : T_Tensor) : Prop := t.fDims.length < fu ∧ t.fF.length < fu ∧ t.fI.length < fu ∧ t.fB.length < fu
theorem sameT_self (a : T_Tensor) : sameT a a = true := by simp [sameT]
def noT : T_Tensor := ⟨0, [], [], [], []⟩
theorem known_spec {fu : Nat} {k : Int} : tens_known fu k = some (decide (k = 1 ∨ k = 7 ∨ k = 9)) := by
  unfold tens_known tens_Width
  by_cases h1 : k = 1
  · simp [h1]
  · by_cases h2 : k = 7
    · simp [h2]
    · by_cases h3 : k = 9 <;> simp [h1, h2, h3]
def Known (k : Int) : Prop := k = 1 ∨ k = 7 ∨ k = 9
instance (k : Int) : Decidable (Known k) := by unfold Known; infer_instance
def LensOK (t : T_Tensor) : Prop := (t.fF.length : Int) = (if t.fType = 1 then prod t.fDims else 0) ∧ (t.fI.length : Int) = (if t.fType = 7 then prod t.fDims else 0) ∧ (t.fB.length : Int) = (if t.fType = 9 then prod t.fDims else 0)
instance (t : T_Tensor) : Decidable (LensOK t) := by unfold LensOK; infer_instance
def checkV (t : T_Tensor) : Int := if Known t.fType then (if Good t.fDims then (if LensOK t then 0 else 3) else errS t.fDims) else 5
theorem Check_spec {fu : Nat} {t : T_Tensor} (hs : Small t) (hf : Fuel fu t) : tens_Check fu t = some (checkV t) := by
  obtain ⟨s1, s2, s3, s4⟩ := hs
  unfold tens_Check checkV; try unfold jn
  rw [known_spec, ob_some, Size_spec (by unfold Short; omega) hf.1]
  by_cases hk : Known t.fType
  · rw [if_pos (by simpa [Known] using hk), ob_some, if_pos hk]
    simp only [sizeV]
    by_cases hg : Good t.fDims
    · simp only [if_pos hg, if_true]
      have hp := prod_nonneg hg.2.1
      have hsum : wk .i64 ((wk .i64 ((t.fF.length : Int) + (t.fI.length : Int))) + (t.fB.length : Int)) = t.fF.length + t.fI.length + t.fB.length := by
        rw [wk_add_l, wk_eq (by omega) (by omega)]
      unfold tens_Check.k1 LensOK
      simp only [hsum]
      rcases hk with e | e | e
      · simp only [e, show ¬ (1 : Int) = 7 by decide, show ¬ (1 : Int) = 9 by decide, if_false, if_true]
        by_cases h1 : (t.fF.length : Int) = prod t.fDims
        · by_cases h2 : (t.fF.length : Int) + t.fI.length + t.fB.length = prod t.fDims
          · rw [if_pos h1, if_pos h2, if_pos ⟨h1, by omega, by omega⟩]
          · rw [if_pos h1, if_neg h2, if_neg (fun h => h2 (by omega))]
        · rw [if_neg h1, if_neg (fun h => h1 h.1)]
      · simp only [e, show ¬ (7 : Int) = 1 by decide, show ¬ (7 : Int) = 9 by decide, if_false, if_true]
        by_cases h1 : (t.fI.length : Int) = prod t.fDims
        · by_cases h2 : (t.fF.length : Int) + t.fI.length + t.fB.length = prod t.fDims
          · rw [if_pos h1, if_pos h2, if_pos ⟨by omega, h1, by omega⟩]
          · rw [if_pos h1, if_neg h2, if_neg (fun h => h2 (by omega))]
        · rw [if_neg h1, if_neg (fun h => h1 h.2.1)]
      · simp only [e, show ¬ (9 : Int) = 1 by decide, show ¬ (9 : Int) = 7 by decide, if_false, if_true]
        by_cases h1 : (t.fB.length : Int) = prod t.fDims
        · by_cases h2 : (t.fF.length : Int) + t.fI.length + t.fB.length = prod t.fDims
          · rw [if_pos h1, if_pos h2, if_pos ⟨by omega, by omega, h1⟩]
          · rw [if_pos h1, if_neg h2, if_neg (fun h => h2 (by omega))]
        · rw [if_neg h1, if_neg (fun h => h1 h.2.2)]
    · simp only [if_neg hg]
      rw [if_neg (errS_ne _)]
  · rw [if_neg (by simpa [Known] using hk), if_neg hk]
theorem checkV_zero {t : T_Tensor} : checkV t = 0 ↔ Known t.fType ∧ Good t.fDims ∧ LensOK t := by
  unfold checkV
  by_cases hk : Known t.fType <;> by_cases hg : Good t.fDims <;> by_cases hl : LensOK t <;> simp [hk, hg, hl, errS_ne]
theorem map_loop {β : Type} {l : List Int} {f : Int → Int} {B : ((List Int × Int) → Option β) → (List Int × Int) → Option β} {c : List Int → Option β} {fu : Nat} (hf : l.length < fu)
    (hB : ∀ (next : List Int × Int → Option β) (k : Nat) (m : List Int) (hk : k < l.length), m.length = l.length → (hm : m[k]? = some l[k]) → B next (m, (k : Int)) = next (m.set k (f l[k]), ((k + 1 : Nat) : Int)))
    (hE : ∀ next (m : List Int), m.length = l.length → B next (m, (l.length : Int)) = c m) : cloop B fu (l, 0) = c (l.map f) := by
  have := cloop_up (body := B) (n := fu) l.length (fun k => (l.take k).map f ++ l.drop k) (c (l.map f)) ?_ ?_ hf
  · simpa using this
  · intro k hk next hn
    have hlk : ((l.take k).map f).length = k := by simp; omega
    rw [hB next k _ hk (by simp; omega) (by rw [List.getElem?_append_right (by omega), hlk, Nat.sub_self, List.getElem?_drop]; simp [hk])]
    have e : ((l.take k).map f ++ l.drop k).set k (f l[k]) = (l.take (k + 1)).map f ++ l.drop (k + 1) := by
      rw [List.set_append_right _ _ (by omega), hlk, Nat.sub_self, List.drop_eq_getElem_cons hk, List.set_cons_zero, List.take_add_one, List.getElem?_eq_getElem hk, List.map_append, List.append_assoc]
      rfl
    rw [e]
    exact hn
  · intro next
    rw [hE _ _ (by simp)]
    simp
def canonF (x : Int) : Int := if 2139095040 < x % 2147483648 then 2143289344 else x
def canonT (t : T_Tensor) : T_Tensor := ⟨t.fType, t.fDims, t.fF.map canonF, t.fI, t.fB⟩
theorem wk_eq32 {x : Int} (h0 : 0 ≤ x) (h1 : x < 4294967296) : wk .u32 x = x := by
  have : wk .u32 x = x % 4294967296 := by simp [wk, IntKind.wrap, IntKind.signed, IntKind.bits]
  rw [this, Int.emod_eq_of_lt h0 h1]
theorem abs_u32 {x : Int} (h0 : 0 ≤ x) (h1 : x < 4294967296) : bandn .u32 x 2147483648 = x % 2147483648 := by
  unfold bandn
  rw [show IntKind.u32.bits = 32 from rfl, show ~~~(BitVec.ofInt 32 2147483648) = BitVec.ofNat 32 (2 ^ 31 - 1) by decide, BitVec.toNat_and, BitVec.toNat_ofNat, BitVec.toNat_ofInt]
  have : (2 ^ 31 - 1) % 2 ^ 32 = 2 ^ 31 - 1 := by decide
  rw [this, Nat.and_two_pow_sub_one_eq_mod]
  have hw := wk_eq32 (x := (((x % ((2 ^ 32 : Nat) : Int)).toNat % 2 ^ 31 : Nat) : Int)) (by omega) (by omega)
  unfold wk at hw
  rw [hw]
  omega
theorem softCanon_spec {fu : Nat} {x : Int} (h0 : 0 ≤ x) (h1 : x < 4294967296) : soft_Canon fu x = some (canonF x) := by
  unfold soft_Canon soft_NaN soft_Abs canonF
  rw [abs_u32 h0 h1, ob_some, ob_some]
  by_cases h : 2139095040 < x % 2147483648 <;> simp [h]
def Ten (t : T_Tensor) : Prop := t.fDims.length * 8 ≤ 140737488351232 ∧ t.fF.length * 4 ≤ 140737488351232 ∧ t.fI.length * 8 ≤ 140737488351232 ∧ t.fB.length ≤ 140737488351232 ∧ ∀ x ∈ t.fF, 0 ≤ x ∧ x < 4294967296
theorem Ten.small {t : T_Tensor} (h : Ten t) : Small t := by obtain ⟨a, b, c, d, _⟩ := h; exact ⟨a, by omega, by omega, by omega⟩
theorem Copy_spec {fu : Nat} {t : T_Tensor} (h : Ten t) : tens_Copy fu t = some t := by
  obtain ⟨h1, h2, h3, h4, _⟩ := h
  unfold tens_Copy tens_own_int tens_own_uint32 tens_own_int64 tens_own_bool
  rw [chk_pos (by omega), ob_some, chk_pos (by omega), ob_some, chk_pos (by omega), ob_some, chk_pos (by omega), ob_some]
theorem Canon_spec {fu : Nat} {t : T_Tensor} (h : Ten t) (hf : t.fF.length < fu) : tens_Canon fu t = some (canonT t) := by
  have hu := h.2.2.2.2
  have hl := h.2.1
  unfold tens_Canon
  rw [Copy_spec h, ob_some]
  unfold tens_Canon.W1
  refine map_loop (f := canonF) (c := fun m => some (T_Tensor.mk t.fType t.fDims m t.fI t.fB)) hf ?_ ?_
  · intro next k m hk hm hg
    unfold tens_Canon.L1
    simp only []
    obtain ⟨u1, u2⟩ := hu _ (List.getElem_mem hk)
    rw [if_pos (by omega), at?_nat, hg, ob_some, softCanon_spec u1 u2, ob_some, chk_pos (by omega), wk_succ (by omega)]
    rfl
  · intro next m hm
    unfold tens_Canon.L1
    rw [if_neg (by simp)]
end Go.Av
set_option linter.unusedVariables false
namespace Go.Av
theorem drop_same {a b : List Int} {i : Nat} (ha : i < a.length) (hb : i < b.length) : a.drop i = b.drop i ↔ a[i] = b[i] ∧ a.drop (i + 1) = b.drop (i + 1) := by
  rw [List.drop_eq_getElem_cons ha, List.drop_eq_getElem_cons hb]
  exact List.cons_eq_cons
theorem SameInts_spec {fu : Nat} {a b : List Int} (hl : Short a) (hf : a.length < fu) : ref04_SameInts fu a b = some (decide (a = b)) := by
  unfold ref04_SameInts ref04_SameInts.W1
  by_cases hlen : a.length = b.length
  · rw [if_pos (by omega)]
    refine (cloop_ind (fun (i : Int) => some (decide (a.drop i.toNat = b.drop i.toNat))) (fun i => 0 ≤ i ∧ i ≤ a.length) (fun i => a.length - i.toNat) ?_ fu 0 (by simp) (by simp; omega)).trans (by simp)
    rintro i ⟨h0, h1⟩ next hn
    obtain ⟨k, rfl⟩ := Int.eq_ofNat_of_zero_le h0
    unfold ref04_SameInts.L1
    simp only [Int.toNat_natCast]
    by_cases hk : k < a.length
    · rw [if_pos (by omega), at?_get hk, ob_some, at?_get (by omega : k < b.length), ob_some, wk_succ (by unfold Short at hl; omega)]
      have hd := drop_same hk (by omega : k < b.length)
      by_cases he : a[k] = b[k]
      · rw [if_pos he, hn _ (by omega) (by simp; omega)]
        simp [hd, he]
      · rw [if_neg he]
        simp [hd, he]
    · rw [if_neg (by omega)]
      have e1 : a.drop k = b.drop k := by rw [List.drop_of_length_le (by omega), List.drop_of_length_le (by omega)]
      simp [e1]
  · rw [if_neg (by omega)]
    have : ¬ a = b := fun h => hlen (by rw [h])
    simp [this]
end Go.Av
set_option linter.unusedVariables false
namespace Go.Av
theorem same_loop {α : Type} [DecidableEq α] {a b : List α} (hl : a.length = b.length) {fu : Nat} (hf : a.length < fu) (hs : a.length ≤ 140737488355328) {L : (Int → Option Bool) → Int → Option Bool} {c : Option Bool}
    (hL : ∀ nx i, L nx i = if i < (a.length : Int) then ((at? a i).bind fun x => (at? b i).bind fun y => if x = y then (nx (wk .i64 (i + 1))) else some false) else c) : cloop L fu 0 = if a = b then c else some false := by
  refine (cloop_ind (fun (i : Int) => if a.drop i.toNat = b.drop i.toNat then c else some false) (fun i => 0 ≤ i ∧ i ≤ a.length) (fun i => a.length - i.toNat) ?_ fu 0 (by simp) (by simp; omega)).trans (by simp)
  rintro i ⟨h0, h1⟩ next hn
  obtain ⟨k, rfl⟩ := Int.eq_ofNat_of_zero_le h0
  rw [hL]
  simp only [Int.toNat_natCast]
  by_cases hk : k < a.length
  · have hkb : k < b.length := by omega
    have hd : a.drop k = b.drop k ↔ a[k] = b[k] ∧ a.drop (k + 1) = b.drop (k + 1) := by
      rw [List.drop_eq_getElem_cons hk, List.drop_eq_getElem_cons hkb]; exact List.cons_eq_cons
    rw [if_pos (by omega), at?_get hk, ob_some, at?_get hkb, ob_some, wk_succ (by omega)]
    by_cases he : a[k] = b[k]
    · rw [if_pos he, hn _ (by omega) (by simp; omega)]
      by_cases h2 : a.drop (k + 1) = b.drop (k + 1)
      · rw [if_pos (by simpa using h2), if_pos (hd.2 ⟨he, h2⟩)]
      · rw [if_neg (by simpa using h2), if_neg (fun h => h2 (hd.1 h).2)]
    · rw [if_neg he, if_neg (fun h => he (hd.1 h).1)]
  · rw [if_neg (by omega), if_pos (by rw [List.drop_of_length_le (by omega), List.drop_of_length_le (by omega)])]
theorem refSame_spec {fu : Nat} {a b : T_Tensor} (hs : Small a) (hf : Fuel fu a) : ref05_Same fu a b = some (sameT a b) := by
  obtain ⟨s1, s2, s3, s4⟩ := hs
  obtain ⟨f1, f2, f3, f4⟩ := hf
  unfold ref05_Same sameT; try unfold jn
  by_cases h1 : a.fType = b.fType
  · rw [if_pos h1, SameInts_spec (by unfold Short; omega) f1, ob_some]
    by_cases h2 : a.fDims = b.fDims
    · rw [if_pos (by simpa using h2)]
      by_cases l3 : a.fF.length = b.fF.length
      · rw [if_pos (by omega)]
        by_cases l4 : a.fI.length = b.fI.length
        · rw [if_pos (by omega)]
          by_cases l5 : a.fB.length = b.fB.length
          · rw [if_pos (by omega)]
            unfold ref05_Same.k1 ref05_Same.W3; try unfold jn
            rw [same_loop (L := fun next s => ref05_Same.L3 fu a b next s) (a := a.fF) (b := b.fF) l3 f2 (by omega) (c := ref05_Same.k2 fu a b) (fun nx i => rfl)]
            unfold ref05_Same.k2 ref05_Same.W2; try unfold jn
            rw [same_loop (L := fun next s => ref05_Same.L2 fu a b next s) (a := a.fI) (b := b.fI) l4 f3 (by omega) (c := ref05_Same.k3 fu a b) (fun nx i => rfl)]
            unfold ref05_Same.k3 ref05_Same.W1
            rw [same_loop (L := fun next s => ref05_Same.L1 fu a b next s) (a := a.fB) (b := b.fB) l5 f4 (by omega) (c := some true) (fun nx i => by unfold ref05_Same.L1; simp only [beq_iff_eq])]
            by_cases e3 : a.fF = b.fF <;> by_cases e4 : a.fI = b.fI <;> by_cases e5 : a.fB = b.fB <;> simp [h1, h2, e3, e4, e5]
          · rw [if_neg (by omega)]
            have : ¬ a.fB = b.fB := fun h => l5 (by rw [h])
            simp [this]
        · rw [if_neg (by omega)]
          have : ¬ a.fI = b.fI := fun h => l4 (by rw [h])
          simp [this]
      · rw [if_neg (by omega)]
        have : ¬ a.fF = b.fF := fun h => l3 (by rw [h])
        simp [this]
    · rw [if_neg (by simpa using h2)]
      simp [h2]
  · rw [if_neg h1]
    simp [h1]
end Go.Av
set_option linter.unusedVariables false
namespace Go.Av
theorem cloop_succ {σ β : Type} {body : (σ → Option β) → σ → Option β} {n : Nat} {s : σ} : cloop body (n + 1) s = body (cloop body n) s := rfl
def zeroVal : T_Val := ⟨0, [], false, ⟨0, [], [], [], []⟩⟩
def valOf (t : T_Tensor) : T_Val := if t.fType = 0 then zeroVal else ⟨t.fType, t.fDims, true, t⟩
def Tens (fu : Nat) (l : List T_Tensor) : Prop := l.length ≤ 1048576 ∧ l.length < fu ∧ ∀ t ∈ l, Ten t ∧ Fuel fu t
theorem CloneI_spec {fu : Nat} {l : List Int} (h : l.length * 8 ≤ 140737488351232) : slices_Clone_int fu l = some l := by
  unfold slices_Clone_int; rw [chk_pos (by omega)]
theorem take_next {α β : Type} {f : α → β} {l : List α} {k : Nat} (hk : k < l.length) : (l.take (k + 1)).map f = (l.take k).map f ++ [f l[k]] := by
  rw [List.take_add_one, List.getElem?_eq_getElem hk, List.map_append]; rfl
theorem Vals_all {fu : Nat} {l : List T_Tensor} (h : Tens fu l) : ewise_Vals fu l = some (l.map valOf) := by
  unfold ewise_Vals ewise_Vals.W1
  have hl0 := h.1
  refine cloop_up l.length (fun k => (l.take k).map valOf) _ ?_ ?_ h.2.1
  · intro k hk next hn
    have ht := (h.2.2 _ (List.getElem_mem hk)).1
    show ewise_Vals.L1 fu l _ _ (k : Int) = _
    have hl : ((l.take k).map valOf).length = k := by simp; omega
    rw [take_next hk] at hn
    rw [ewise_Vals.L1, if_pos (by omega), at?_get hk, ob_some, wk_succ (by omega)]
    by_cases h0 : l[k].fType = 0
    · rw [if_pos h0, chk_pos (by rw [hl]; omega)]
      rw [valOf, if_pos h0] at hn
      exact hn
    · rw [if_neg h0, CloneI_spec ht.1, ob_some, Copy_spec ht, ob_some, chk_pos (by rw [hl]; omega)]
      rw [valOf, if_neg h0] at hn
      exact hn
  · intro next
    show ewise_Vals.L1 fu l _ _ (l.length : Int) = _
    rw [ewise_Vals.L1, if_neg (by omega), List.take_length]
def badV : List T_Tensor → Option Int
  | [] => none
  | t :: l => if t.fType = 0 ∨ checkV t = 0 then badV l else some (checkV t)
theorem badV_none {l : List T_Tensor} (h : badV l = none) : ∀ t ∈ l, t.fType = 0 ∨ checkV t = 0 := by
  induction l with
  | nil => intro t ht; cases ht
  | cons x l ih =>
    unfold badV at h
    split at h
    · rename_i hx
      intro t ht
      rcases List.mem_cons.1 ht with rfl | ht
      · exact hx
      · exact ih h t ht
    · cases h
theorem badV_some {l : List T_Tensor} {e : Int} (h : badV l = some e) : e ≠ 0 := by
  induction l with
  | nil => cases h
  | cons x l ih =>
    unfold badV at h
    split at h
    · exact ih h
    · rename_i hx
      injection h with h
      subst h
      exact fun h0 => hx (.inr h0)
theorem head_loop {β : Type} {fu : Nat} {l : List T_Tensor} (h : Tens fu l) {k1 : List T_Tensor → Option β} {er : Int → Option β} {L : (List T_Tensor → Int → Option β) → List T_Tensor → Int → Option β}
    (hL : ∀ nx acc i, L nx acc i = if i < (l.length : Int) then ((at? l i).bind fun x => if x.fType = 0 then ((tens_Canon fu x).bind fun y => chk ((acc.length + 1 : Int) * 104 ≤ 140737488355328) <| nx (acc ++ ([y])) (wk .i64 (i + 1))) else
      (tens_Check fu x).bind fun c => if c = 0 then ((tens_Canon fu x).bind fun y => chk ((acc.length + 1 : Int) * 104 ≤ 140737488355328) <| nx (acc ++ ([y])) (wk .i64 (i + 1))) else er c) else k1 acc) :
    cloop (fun next s => L (fun a b => next (a, b)) s.1 s.2) fu (([] : List T_Tensor), (0 : Int)) = match badV l with | some e => er e | none => k1 (l.map canonT) := by
  have hl0 := h.1
  have key : ∀ m q k : Nat, l.length - k = m → k ≤ l.length → m < q → cloop (fun next s => L (fun a b => next (a, b)) s.1 s.2) q ((l.take k).map canonT, (k : Int)) = match badV (l.drop k) with | some e => er e | none => k1 (l.map canonT) := by
    intro m
    induction m with
    | zero =>
      intro q k h1 h2 h3
      cases q with
      | zero => omega
      | succ q =>
        have : k = l.length := by omega
        subst this
        rw [cloop_succ]
        show L _ _ (l.length : Int) = _
        rw [hL, if_neg (by omega), List.take_length, List.drop_length]
        rfl
    | succ m ih =>
      intro q k h1 h2 h3
      cases q with
      | zero => omega
      | succ q =>
        have hk : k < l.length := by omega
        obtain ⟨ht, hf⟩ := h.2.2 _ (List.getElem_mem hk)
        have hl : ((l.take k).map canonT).length = k := by simp; omega
        have hn := ih q (k + 1) (by omega) (by omega) (by omega)
        rw [take_next hk] at hn
        rw [cloop_succ]
        show L _ _ (k : Int) = _
        rw [hL, if_pos (by omega), at?_get hk, ob_some, wk_succ (by omega), List.drop_eq_getElem_cons hk]
        unfold badV
        by_cases h0 : l[k].fType = 0
        · rw [if_pos h0, Canon_spec ht hf.2.1, ob_some, chk_pos (by rw [hl]; omega), if_pos (.inl h0)]
          exact hn
        · rw [if_neg h0, Check_spec ht.small hf, ob_some]
          by_cases hc : checkV l[k] = 0
          · rw [if_pos hc, Canon_spec ht hf.2.1, ob_some, chk_pos (by rw [hl]; omega), if_pos (.inr hc)]
            exact hn
          · rw [if_neg hc, if_neg (fun hh => hh.elim h0 hc)]
  exact key l.length fu 0 (by omega) (by omega) h.2.1
end Go.Av
set_option linter.unusedVariables false
namespace Go.Av
def newV (k : Int) (d : List Int) : T_Tensor × Int :=
  if k = 1 ∨ k = 7 ∨ k = 9 then (if Good d then (if k = 1 then (⟨k, d, List.replicate (prod d).toNat 0, [], []⟩, 0) else if k = 7 then (⟨k, d, [], List.replicate (prod d).toNat 0, []⟩, 0) else (⟨k, d, [], [], List.replicate (prod d).toNat false⟩, 0)) else (noT, errS d)) else (noT, 5)
theorem New_spec {fu : Nat} {k : Int} {d : List Int} (hd : Short d) (hf : d.length < fu) : tens_New fu k d = some (newV k d) := by
  unfold tens_New newV
  rw [known_spec, ob_some, Size_spec hd hf, ob_some]
  by_cases hk : k = 1 ∨ k = 7 ∨ k = 9
  · rw [if_pos (by simpa using hk), if_pos hk]
    simp only [sizeV]
    by_cases hg : Good d
    · simp only [if_pos hg, if_true]
      have h1 := prod_nonneg hg.2.1
      have h2 := hg.2.2
      have h3 := hg.1
      unfold slices_Clone_int
      rw [chk_pos (by omega), ob_some, chk_pos (by omega), chk_pos (by omega), chk_pos (by omega)]
      by_cases e1 : k = 1
      · rw [if_pos e1, if_pos e1]
      · rw [if_neg e1, if_neg e1]
        by_cases e2 : k = 7
        · rw [if_pos e2, if_pos e2]
        · rw [if_neg e2, if_neg e2]
    · simp only [if_neg hg]
      rw [if_neg (errS_ne d)]
      rfl
  · rw [if_neg (by simpa using hk), if_neg hk]
    rfl
theorem pick_loop {σ α β : Type} (st : List α → Nat → σ) {B : (σ → Option β) → σ → Option β} {at_ : List Int} (bad : Int → Bool) (pk : Int → α) (z : α) {e : Option β} {c : List α → Option β}
    (hB : ∀ (next : σ → Option β) (k : Nat) (m : List α) (hk : k < at_.length), m.length = at_.length → B next (st m k) = if bad at_[k] = true then e else next (st (if 0 ≤ at_[k] then m.set k (pk at_[k]) else m) (k + 1)))
    (hE : ∀ (next : σ → Option β) (m : List α), m.length = at_.length → B next (st m at_.length) = c m) (hz : ∀ a, ¬ 0 ≤ a → pk a = z) {fu : Nat} (hf : at_.length < fu) :
    cloop B fu (st (List.replicate at_.length z) 0) = if at_.any bad = true then e else c (at_.map pk) := by
  have key : ∀ (f k : Nat), k ≤ at_.length → at_.length - k < f → cloop B f (st ((at_.take k).map pk ++ List.replicate (at_.length - k) z) k) = if (at_.drop k).any bad = true then e else c (at_.map pk) := by
    intro f
    induction f with
    | zero => intro k _ h; omega
    | succ f ih =>
      intro k hk hf
      by_cases hkn : k = at_.length
      · subst hkn
        show B _ _ = _
        have := hE (cloop B f) ((at_.take at_.length).map pk ++ List.replicate (at_.length - at_.length) z) (by simp)
        rw [this]
        simp
      · have hk' : k < at_.length := by omega
        show B _ _ = _
        rw [hB _ _ _ hk' (by simp; omega), List.drop_eq_getElem_cons hk', List.any_cons]
        by_cases hb : bad at_[k] = true
        · simp [hb]
        · rw [if_neg hb]
          have hm : (if 0 ≤ at_[k] then ((at_.take k).map pk ++ List.replicate (at_.length - k) z).set k (pk at_[k]) else (at_.take k).map pk ++ List.replicate (at_.length - k) z) = (at_.take (k + 1)).map pk ++ List.replicate (at_.length - (k + 1)) z := by
            have hr : List.replicate (at_.length - k) z = z :: List.replicate (at_.length - (k + 1)) z := by rw [show at_.length - k = at_.length - (k + 1) + 1 by omega, List.replicate_succ]
            have ht : at_.take (k + 1) = at_.take k ++ [at_[k]] := by rw [List.take_add_one, List.getElem?_eq_getElem hk']; rfl
            have hlen : ((at_.take k).map pk).length = k := by simp; omega
            rw [hr, ht, List.map_append, List.append_assoc]
            split
            · rw [List.set_append_right _ _ (by omega), hlen, Nat.sub_self]
              rfl
            · rename_i h0
              rw [List.map_singleton, hz _ h0]
              rfl
          rw [hm, ih (k + 1) (by omega) (by omega)]
          simp [hb]
  have := key fu 0 (by omega) (by omega)
  simpa using this
def badP (N : Int) (x : Int) : Bool := decide (x < -1) || decide (N ≤ x)
def pkOf {α : Type} (src : List α) (z : α) (a : Int) : α := if 0 ≤ a then src.getD a.toNat z else z
def pickV (t : T_Tensor) (d l : List Int) : T_Tensor × Int :=
  if checkV t = 0 then (if (newV t.fType d).2 = 0 then (if (l.length : Int) = prod d then (if l.any (badP (t.fF.length + t.fI.length + t.fB.length)) = true then (noT, 2) else
    (if t.fType = 1 then ⟨t.fType, d, l.map (pkOf t.fF 0), [], []⟩ else if t.fType = 7 then ⟨t.fType, d, [], l.map (pkOf t.fI 0), []⟩ else ⟨t.fType, d, [], [], l.map (pkOf t.fB false)⟩, 0)) else (noT, 3)) else (noT, (newV t.fType d).2)) else (noT, checkV t)
theorem at?_pk {α : Type} {src : List α} {z : α} {a : Int} (h0 : 0 ≤ a) (h : a < src.length) : at? src a = some (pkOf src z a) := by
  obtain ⟨k, rfl⟩ := Int.eq_ofNat_of_zero_le h0
  rw [at?_get (by omega), pkOf, if_pos h0, List.getD_eq_getElem?_getD, Int.toNat_natCast, List.getElem?_eq_getElem (by omega)]
  rfl
theorem pkOf_neg {α : Type} {src : List α} {z : α} {a : Int} (h : ¬ 0 ≤ a) : pkOf src z a = z := if_neg h
theorem newV_ok {k : Int} {d : List Int} (h : (newV k d).2 = 0) : Known k ∧ Good d ∧ newV k d = (if k = 1 then (⟨k, d, List.replicate (prod d).toNat 0, [], []⟩, 0) else if k = 7 then (⟨k, d, [], List.replicate (prod d).toNat 0, []⟩, 0) else (⟨k, d, [], [], List.replicate (prod d).toNat false⟩, 0)) := by
  unfold newV at h ⊢
  by_cases hk : k = 1 ∨ k = 7 ∨ k = 9
  · rw [if_pos hk] at h ⊢
    by_cases hg : Good d
    · rw [if_pos hg]
      exact ⟨hk, hg, rfl⟩
    · rw [if_neg hg] at h
      exact absurd h (errS_ne d)
  · rw [if_neg hk] at h
    cases h
theorem pred_spec {fu : Nat} {N x : Int} : tens_Pick_1 fu x N = some (badP N x) := by
  unfold tens_Pick_1 badP
  by_cases h : x < -1
  · rw [if_pos h]; simp [h]
  · rw [if_neg h]; simp [h]
theorem sumW {a b c : Nat} (h1 : a ≤ 140737488355328) (h2 : b ≤ 140737488355328) (h3 : c ≤ 140737488355328) : wk .i64 ((wk .i64 ((a : Int) + (b : Int))) + (c : Int)) = (a : Int) + b + c := by
  rw [wk_add_l, wk_eq (by omega) (by omega)]
theorem notbad {N : Int} {l : List Int} (h : ¬ l.any (badP N) = true) {k : Nat} (hk : k < l.length) : -1 ≤ l[k] ∧ l[k] < N := by
  have := h
  simp only [List.any_eq_true, not_exists, not_and, badP, Bool.or_eq_true, decide_eq_true_eq] at this
  have := this _ (List.getElem_mem hk)
  omega
theorem Pick_spec {fu : Nat} {t : T_Tensor} {d l : List Int} (hs : Small t) (hf : Fuel fu t) (hd : Short d) (hfd : d.length < fu) (hl : Short l) (hfl : l.length < fu) : tens_Pick fu t d l = some (pickV t d l) := by
  unfold tens_Pick pickV jc
  rw [Check_spec hs hf, ob_some]
  by_cases hc : checkV t = 0
  · rw [if_pos hc, if_pos hc, New_spec hd hfd, ob_some]
    obtain ⟨_, hg0, hlen⟩ := checkV_zero.1 hc
    obtain ⟨s1, s2, s3, s4⟩ := hs
    by_cases hn : (newV t.fType d).2 = 0
    · obtain ⟨hk, hg, e⟩ := newV_ok hn
      rw [if_pos hn, if_pos hn]
      rw [sumW (a := t.fF.length) (by omega) (by omega) (by omega)]
      have hpn := prod_nonneg hg.2.1
      have hp4 := hg.2.2
      have hcf : slices_ContainsFunc_int fu l (fun y0 => tens_Pick_1 fu y0 ((t.fF.length : Int) + t.fI.length + t.fB.length)) = some (l.any (badP (t.fF.length + t.fI.length + t.fB.length))) := ContainsFunc_spec (fun x => pred_spec) hl hfl
      unfold Short at hl
      rw [hcf]
      rcases hk with e1 | e1 | e1
      · obtain ⟨l1, l2, l3⟩ := hlen
        rw [e1] at e
        simp only [if_true] at e
        simp only [e1, e, if_true, List.length_replicate, List.length_nil] at l1 l2 l3 ⊢
        simp only [show ¬ (1 : Int) = 7 by decide, show ¬ (1 : Int) = 9 by decide, if_false] at l2 l3
        rw [sumW (by omega) (by omega) (by omega)]
        by_cases hll : (l.length : Int) = prod d
        · rw [if_pos (by omega), if_pos hll, ob_some]
          by_cases hb : l.any (badP (t.fF.length + t.fI.length + t.fB.length)) = true
          · rw [if_pos hb, if_pos hb]; rfl
          · rw [if_neg hb, if_neg hb]
            have hnl : (prod d).toNat = l.length := by omega
            rw [hnl]
            have fin : ∀ m : List Int, m.length = l.length → tens_Pick.c1 fu t l (⟨1, d, List.replicate l.length 0, [], []⟩, 0) m = some (⟨1, d, m, [], []⟩, 0) := fun m hm => by
              simp [tens_Pick.c1, tens_Pick.c2, tens_Pick.c3, chk, jc, hm]
            by_cases h0 : l = []
            · subst h0
              exact (if_pos rfl).trans (fin [] rfl)
            · have hpos : 0 < l.length := List.length_pos_iff.2 h0
              rw [if_neg (by omega)]
              unfold tens_Pick.W3
              refine (pick_loop (fun (m : List Int) (k : Nat) => (m, (k : Int))) (fun _ => false) (pkOf t.fF 0) 0 (e := none) (c := fun m => some (⟨1, d, m, [], []⟩, 0)) ?_ ?_ (fun a => pkOf_neg) hfl).trans (by simp)
              · intro next k m hk hm
                have hnb := notbad hb hk
                unfold tens_Pick.L3
                simp only [Int.toNat_natCast, List.length_replicate]
                rw [if_pos (by omega), at?_get hk, ob_some, wk_succ (by omega), if_neg (show ¬ (false = true) by decide)]
                by_cases ha : 0 ≤ l[k]
                · rw [if_pos ha, if_pos ha, at?_pk (z := 0) ha (by omega), ob_some, chk_pos (by omega), chk_pos (by omega)]
                · rw [if_neg ha, if_neg ha]
              · intro next m hm
                unfold tens_Pick.L3
                rw [if_neg (by simp)]
                exact fin m hm
        · rw [if_neg (by omega), if_neg hll]; rfl
      · obtain ⟨l1, l2, l3⟩ := hlen
        rw [e1] at e
        simp only [show ¬ (7 : Int) = 1 by decide, if_false, if_true] at e
        simp only [e1, e, if_true, List.length_replicate, List.length_nil, show ¬ (7 : Int) = 1 by decide, show ¬ (7 : Int) = 9 by decide, if_false] at l1 l2 l3 ⊢
        rw [sumW (by omega) (by omega) (by omega)]
        by_cases hll : (l.length : Int) = prod d
        · rw [if_pos (by omega), if_pos hll, ob_some]
          by_cases hb : l.any (badP (t.fF.length + t.fI.length + t.fB.length)) = true
          · rw [if_pos hb, if_pos hb]; rfl
          · rw [if_neg hb, if_neg hb]
            have hnl : (prod d).toNat = l.length := by omega
            rw [hnl]
            have fin : ∀ m : List Int, m.length = l.length → tens_Pick.c2 fu t l (⟨7, d, [], List.replicate l.length 0, []⟩, 0) [] m = some (⟨7, d, [], m, []⟩, 0) := fun m hm => by
              simp [tens_Pick.c2, tens_Pick.c3, chk, jc, hm]
            rw [if_pos (by simp)]
            unfold tens_Pick.c1; try unfold jc
            rw [chk_pos (by simp)]
            simp only [List.length_replicate]
            by_cases h0 : l = []
            · subst h0
              exact (if_pos rfl).trans (fin [] rfl)
            · have hpos : 0 < l.length := List.length_pos_iff.2 h0
              rw [if_neg (by omega)]
              unfold tens_Pick.W2
              refine (pick_loop (fun (m : List Int) (k : Nat) => (m, (k : Int))) (fun _ => false) (pkOf t.fI 0) 0 (e := none) (c := fun m => some (⟨7, d, [], m, []⟩, 0)) ?_ ?_ (fun a => pkOf_neg) hfl).trans (by simp)
              · intro next k m hk hm
                have hnb := notbad hb hk
                unfold tens_Pick.L2
                simp only [Int.toNat_natCast, List.length_replicate]
                rw [if_pos (by omega), at?_get hk, ob_some, wk_succ (by omega), if_neg (show ¬ (false = true) by decide)]
                by_cases ha : 0 ≤ l[k]
                · rw [if_pos ha, if_pos ha, at?_pk (z := 0) ha (by omega), ob_some, chk_pos (by omega), chk_pos (by omega)]
                · rw [if_neg ha, if_neg ha]
              · intro next m hm
                unfold tens_Pick.L2
                rw [if_neg (by simp)]
                exact fin m hm
        · rw [if_neg (by omega), if_neg hll]; rfl
      · obtain ⟨l1, l2, l3⟩ := hlen
        rw [e1] at e
        simp only [show ¬ (9 : Int) = 1 by decide, show ¬ (9 : Int) = 7 by decide, if_false] at e
        simp only [e1, e, if_true, List.length_replicate, List.length_nil, show ¬ (9 : Int) = 1 by decide, show ¬ (9 : Int) = 7 by decide, if_false] at l1 l2 l3 ⊢
        rw [sumW (by omega) (by omega) (by omega)]
        by_cases hll : (l.length : Int) = prod d
        · rw [if_pos (by omega), if_pos hll, ob_some]
          by_cases hb : l.any (badP (t.fF.length + t.fI.length + t.fB.length)) = true
          · rw [if_pos hb, if_pos hb]; rfl
          · rw [if_neg hb, if_neg hb]
            have hnl : (prod d).toNat = l.length := by omega
            rw [hnl]
            have fin : ∀ m : List Bool, m.length = l.length → tens_Pick.c3 fu (⟨9, d, [], [], List.replicate l.length false⟩, 0) [] [] m = some (⟨9, d, [], [], m⟩, 0) := fun m hm => by
              simp [tens_Pick.c3, chk, hm]
            rw [if_pos (by simp)]
            unfold tens_Pick.c1; try unfold jc
            rw [chk_pos (by simp), if_pos (by simp)]
            unfold tens_Pick.c2; try unfold jc
            rw [chk_pos (by simp)]
            simp only [List.length_replicate]
            by_cases h0 : l = []
            · subst h0
              exact (if_pos rfl).trans (fin [] rfl)
            · have hpos : 0 < l.length := List.length_pos_iff.2 h0
              rw [if_neg (by omega)]
              unfold tens_Pick.W1
              refine (pick_loop (fun (m : List Bool) (k : Nat) => (m, (k : Int))) (fun _ => false) (pkOf t.fB false) false (e := none) (c := fun m => some (⟨9, d, [], [], m⟩, 0)) ?_ ?_ (fun a => pkOf_neg) hfl).trans (by simp)
              · intro next k m hk hm
                have hnb := notbad hb hk
                unfold tens_Pick.L1
                simp only [Int.toNat_natCast, List.length_replicate]
                rw [if_pos (by omega), at?_get hk, ob_some, wk_succ (by omega), if_neg (show ¬ (false = true) by decide)]
                by_cases ha : 0 ≤ l[k]
                · rw [if_pos ha, if_pos ha, at?_pk (z := false) ha (by omega), ob_some, chk_pos (by omega), chk_pos (by omega)]
                · rw [if_neg ha, if_neg ha]
              · intro next m hm
                unfold tens_Pick.L1
                rw [if_neg (by simp)]
                exact fin m hm
        · rw [if_neg (by omega), if_neg hll]; rfl
    · rw [if_neg hn, if_neg hn]; rfl
  · rw [if_neg hc, if_neg hc]; rfl
end Go.Av
set_option linter.unusedVariables false
namespace Go.Av
theorem nodup_len : ∀ (n : Nat) (l : List Nat), l.Nodup → (∀ x ∈ l, x < n) → l.length ≤ n
  | 0, [], _, _ => Nat.le_refl _
  | 0, x :: l, _, h => by have := h x (by simp); omega
  | n + 1, l, hn, h => by
    by_cases hm : n ∈ l
    · have h1 := nodup_len n (l.erase n) (hn.erase n) fun x hx => by
        have h2 := (hn.mem_erase_iff).1 hx
        have := h x h2.2
        have := h2.1
        omega
      have := List.length_erase_of_mem hm
      omega
    · have := nodup_len n l hn fun x hx => by
        have := h x hx
        have : x ≠ n := fun e => hm (e ▸ hx)
        omega
      omega
theorem perm_range : ∀ (n : Nat) (l : List Nat), l.Nodup → (∀ x ∈ l, x < n) → l.length = n → l.Perm (List.range n)
  | 0, [], _, _, _ => .refl _
  | 0, x :: l, _, h, _ => by have := h x (by simp); omega
  | n + 1, l, hn, h, hl => by
    by_cases hm : n ∈ l
    · have h1 := perm_range n (l.erase n) (hn.erase n) (fun x hx => by
        have h2 := (hn.mem_erase_iff).1 hx
        have := h x h2.2
        have := h2.1
        omega) (by have := List.length_erase_of_mem hm; omega)
      rw [List.range_succ]
      exact ((List.perm_cons_erase hm).trans (h1.cons n)).trans (List.perm_append_singleton n _).symm
    · have := nodup_len n l hn fun x hx => by
        have := h x hx
        have : x ≠ n := fun e => hm (e ▸ hx)
        omega
      omega
def sumI : List Int → Int
  | [] => 0
  | x :: l => x + sumI l
def dotV : List Int → List Int → Int
  | x :: xs, y :: ys => x * y + dotV xs ys
  | _, _ => 0
def gI (l : List Int) (k : Nat) : Int := l.getD k 0
theorem gI_get {l : List Int} {k : Nat} (h : k < l.length) : gI l k = l[k] := by
  unfold gI; rw [List.getD_eq_getElem?_getD, List.getElem?_eq_getElem h]; rfl
theorem ext_gI {l m : List Int} (h : l.length = m.length) (hg : ∀ k, k < l.length → gI l k = gI m k) : l = m := by
  refine List.ext_getElem h fun k h1 h2 => ?_
  have := hg k h1
  rwa [gI_get h1, gI_get h2] at this
theorem range_gI {l : List Int} : (List.range l.length).map (gI l) = l := by
  refine List.ext_getElem (by simp) fun k h1 h2 => ?_
  simp only [List.getElem_map, List.getElem_range]
  exact gI_get h2
structure PermOK (p : List Int) (n : Nat) : Prop where
  len : p.length = n
  rng : ∀ x ∈ p, 0 ≤ x ∧ x < n
  nod : p.Nodup
theorem PermOK.nat {p : List Int} {n : Nat} (h : PermOK p n) : (p.map Int.toNat).Perm (List.range n) := by
  refine perm_range n _ ?_ (fun x hx => ?_) (by simp [h.len])
  · have : ∀ (l : List Int), l.Nodup → (∀ x ∈ l, 0 ≤ x) → (l.map Int.toNat).Nodup := by
      intro l
      induction l with
      | nil => intro _ _; simp
      | cons x l ih =>
        intro hn hr
        rw [List.nodup_cons] at hn
        rw [List.map_cons, List.nodup_cons]
        refine ⟨fun hm => ?_, ih hn.2 fun y hy => hr y (by simp [hy])⟩
        obtain ⟨y, hy, he⟩ := List.mem_map.1 hm
        have h1 := hr x (by simp)
        have h2 := hr y (by simp [hy])
        have : y = x := by omega
        exact hn.1 (this ▸ hy)
    exact this p h.nod fun x hx => (h.rng x hx).1
  · obtain ⟨y, hy, rfl⟩ := List.mem_map.1 hx
    have := h.rng y hy
    omega
structure IsBack (p b : List Int) (n : Nat) : Prop where
  len : b.length = n
  at_ : ∀ i, i < n → gI b (gI p i).toNat = i
theorem PermOK.get {p : List Int} {n : Nat} (h : PermOK p n) {i : Nat} (hi : i < n) : 0 ≤ gI p i ∧ gI p i < n := by
  have hl := h.len
  rw [gI_get (by omega)]; exact h.rng _ (List.getElem_mem _)
theorem PermOK.onto {p : List Int} {n : Nat} (h : PermOK p n) {j : Nat} (hj : j < n) : ∃ i, i < n ∧ gI p i = j := by
  have hl := h.len
  have : j ∈ p.map Int.toNat := h.nat.mem_iff.2 (List.mem_range.2 hj)
  obtain ⟨x, hx, he⟩ := List.mem_map.1 this
  obtain ⟨i, hi, rfl⟩ := List.getElem_of_mem hx
  have := h.rng _ hx
  exact ⟨i, by omega, by rw [gI_get hi]; omega⟩
theorem IsBack.inv {p b : List Int} {n : Nat} (hp : PermOK p n) (h : IsBack p b n) {j : Nat} (hj : j < n) : 0 ≤ gI b j ∧ gI b j < n ∧ gI p (gI b j).toNat = j := by
  obtain ⟨i, hi, he⟩ := hp.onto hj
  have h1 := h.at_ i hi
  rw [he, Int.toNat_natCast] at h1
  rw [h1]
  refine ⟨by omega, by omega, ?_⟩
  rw [Int.toNat_natCast]; exact he
theorem okIx_of : ∀ {l xs : List Int}, xs.length = l.length → (∀ j, j < l.length → 0 ≤ gI xs j ∧ gI xs j < gI l j) → okIx l xs = true
  | [], [], _, _ => rfl
  | d :: l, x :: xs, hl, h => by
    have h0 := h 0 (by simp)
    have h1 := okIx_of (l := l) (xs := xs) (by simpa using hl) fun j hj => by
      have := h (j + 1) (by simp; omega)
      simpa [gI] using this
    simp [gI] at h0
    simp [okIx, h0, h1]
theorem okIx_at : ∀ {l xs : List Int}, xs.length = l.length → okIx l xs = true → ∀ j, j < l.length → 0 ≤ gI xs j ∧ gI xs j < gI l j
  | [], [], _, _, j, hj => by simp at hj
  | d :: l, x :: xs, hl, h, j, hj => by
    simp only [okIx, Bool.and_eq_true, decide_eq_true_eq] at h
    cases j with
    | zero => simpa [gI] using h.1
    | succ j =>
      have := okIx_at (l := l) (xs := xs) (by simpa using hl) h.2 j (by simpa using hj)
      simpa [gI] using this
theorem offV_lt : ∀ {l xs : List Int}, (∀ x ∈ l, 0 ≤ x) → xs.length = l.length → okIx l xs = true → 0 ≤ offV l xs ∧ offV l xs < prod l
  | [], [], _, _, _ => by simp [offV, prod]
  | d :: l, x :: xs, hp, hl, h => by
    simp only [okIx, Bool.and_eq_true, decide_eq_true_eq] at h
    obtain ⟨h1, h2⟩ := offV_lt (l := l) (xs := xs) (fun y hy => hp y (by simp [hy])) (by simpa using hl) h.2
    simp only [offV, prod]
    have m1 : (x + 1) * prod l ≤ d * prod l := Int.mul_le_mul_of_nonneg_right (by omega) (by omega)
    rw [Int.add_mul, Int.one_mul] at m1
    have m2 : 0 ≤ x * prod l := Int.mul_nonneg h.1.1 (by omega)
    omega
theorem idxV_off : ∀ {l xs : List Int}, (∀ x ∈ l, 0 ≤ x) → xs.length = l.length → okIx l xs = true → idxV l (offV l xs) = xs
  | [], [], _, _, _ => rfl
  | d :: l, x :: xs, hp, hl, h => by
    simp only [okIx, Bool.and_eq_true, decide_eq_true_eq] at h
    have hp' := fun y (hy : y ∈ l) => hp y (by simp [hy])
    have hl' : xs.length = l.length := by simpa using hl
    obtain ⟨h1, h2⟩ := offV_lt hp' hl' h.2
    have ih := idxV_off hp' hl' h.2
    simp only [offV, idxV]
    have e1 : (x * prod l + offV l xs) / prod l = x := by
      rw [Int.add_comm, Int.add_mul_ediv_right _ _ (by omega), Int.ediv_eq_zero_of_lt h1 h2]; omega
    have e2 : (x * prod l + offV l xs) % prod l = offV l xs := by
      rw [Int.add_comm, Int.add_mul_emod_self_right, Int.emod_eq_of_lt h1 h2]
    rw [e1, e2, ih]
def strV : List Int → List Int
  | [] => []
  | _ :: l => prod l :: strV l
theorem strV_length : ∀ l, (strV l).length = l.length
  | [] => rfl
  | _ :: l => by simp [strV, strV_length l]
theorem dot_strV : ∀ {l xs : List Int}, dotV xs (strV l) = offV l xs
  | [], [] => rfl
  | [], x :: xs => rfl
  | d :: l, [] => rfl
  | d :: l, x :: xs => by simp only [strV, dotV, offV, dot_strV]
end Go.Av
set_option linter.unusedVariables false
namespace Go.Av
theorem cloop_suc {σ β : Type} {body : (σ → Option β) → σ → Option β} {n : Nat} {s : σ} : cloop body (n + 1) s = body (cloop body n) s := rfl
theorem cloop_to {τ β : Type} {body : (τ → Option β) → τ → Option β} (N : Nat) (st : Nat → τ) (r : Option β) (h : ∀ k, k < N → ∀ next, next (st (k + 1)) = r → body next (st k) = r)
    (he : ∀ next, body next (st N) = r) {n : Nat} (hn : N < n) : cloop body n (st 0) = r := by
  have : ∀ m k, k ≤ N → N - k < m → cloop body m (st k) = r := by
    intro m
    induction m with
    | zero => intro k _ h; omega
    | succ m ih =>
      intro k hk hm
      by_cases hkN : k = N
      · subst hkN; exact he _
      · exact h k (by omega) _ (ih (k + 1) (by omega) (by omega))
  exact this n 0 (by omega) (by omega)
def incV (d i : List Int) : Nat → Option (List Int)
  | 0 => none
  | m + 1 => if gI i m + 1 < gI d m then some (i.take m ++ (gI i m + 1) :: List.replicate (d.length - (m + 1)) 0) else incV d i m
theorem incV_cons {d x : Int} {l xs : List Int} : ∀ m, incV (d :: l) (x :: xs) (m + 1) = match incV l xs m with | some ys => some (x :: ys) | none => if x + 1 < d then some ((x + 1) :: List.replicate l.length 0) else none
  | 0 => by simp [incV, gI]
  | m + 1 => by
    have ih := incV_cons (d := d) (x := x) (l := l) (xs := xs) m
    rw [incV]
    have e1 : gI (x :: xs) (m + 1) = gI xs m := by simp [gI]
    have e2 : gI (d :: l) (m + 1) = gI l m := by simp [gI]
    rw [e1, e2]
    conv => rhs; rw [incV]
    by_cases h : gI xs m + 1 < gI l m
    · rw [if_pos h, if_pos h]
      simp
    · rw [if_neg h, if_neg h, ih]
theorem idxV_zero : ∀ {l : List Int}, idxV l 0 = List.replicate l.length 0
  | [] => rfl
  | d :: l => by simp [idxV, idxV_zero, List.replicate_succ]
theorem incV_idx : ∀ {l : List Int} {k : Int}, (∀ x ∈ l, 1 ≤ x) → 0 ≤ k → k < prod l → incV l (idxV l k) l.length = if k + 1 < prod l then some (idxV l (k + 1)) else none
  | [], k, _, h0, h1 => by
    have h1' : k < 1 := h1
    rw [if_neg (show ¬ k + 1 < prod [] from fun h => by have h' : k + 1 < 1 := h; omega)]; rfl
  | d :: l, k, hp, h0, h1 => by
    have hp' : ∀ x ∈ l, 1 ≤ x := fun x hx => hp x (by simp [hx])
    have hq : 1 ≤ prod l := prod_pos hp'
    have hr0 := Int.emod_nonneg k (b := prod l) (by omega)
    have hr1 := Int.emod_lt_of_pos k (b := prod l) (by omega)
    have hq0 : 0 ≤ k / prod l := Int.ediv_nonneg h0 (by omega)
    have hq1 : k / prod l < d := Int.ediv_lt_of_lt_mul (by omega) h1
    have hk := Int.mul_ediv_add_emod k (prod l)
    have ih := incV_idx hp' hr0 hr1
    rw [List.length_cons]
    show incV (d :: l) (k / prod l :: idxV l (k % prod l)) (l.length + 1) = _
    rw [incV_cons, ih]
    have hpd : prod (d :: l) = d * prod l := rfl
    rw [hpd] at h1 ⊢
    clear hpd ih hp'
    generalize hqq : k / prod l = q at *
    generalize hrr : k % prod l = r at *
    generalize hP : prod l = P at *
    by_cases hc : r + 1 < P
    · rw [if_pos hc]
      have e : k + 1 = P * q + (r + 1) := by omega
      have e1 : (k + 1) / P = q := by rw [e, Int.add_comm, Int.add_mul_ediv_left _ _ (by omega), Int.ediv_eq_zero_of_lt (by omega) hc]; omega
      have e2 : (k + 1) % P = r + 1 := by rw [e, Int.add_comm, Int.add_mul_emod_self_left, Int.emod_eq_of_lt (by omega) hc]
      have m1 : (q + 1) * P ≤ d * P := Int.mul_le_mul_of_nonneg_right (by omega) (by omega)
      rw [Int.add_mul, Int.one_mul, Int.mul_comm q P] at m1
      rw [if_pos (show k + 1 < d * P by omega)]
      simp only [idxV, hP, e1, e2]
    · rw [if_neg hc]
      have e : k + 1 = P * (q + 1) := by rw [Int.mul_add, Int.mul_one]; omega
      have e1 : (k + 1) / P = q + 1 := by rw [e, Int.mul_ediv_cancel_left _ (by omega)]
      have e2 : (k + 1) % P = 0 := by rw [e, Int.mul_emod_right]
      simp only
      by_cases hd : q + 1 < d
      · have m1 : (q + 1 + 1) * P ≤ d * P := Int.mul_le_mul_of_nonneg_right (by omega) (by omega)
        rw [Int.add_mul, Int.one_mul, Int.mul_comm (q + 1) P] at m1
        rw [if_pos hd, if_pos (show k + 1 < d * P by omega)]
        simp only [idxV, hP, e1, e2, idxV_zero]
      · have m1 : d * P ≤ (q + 1) * P := Int.mul_le_mul_of_nonneg_right (by omega) (by omega)
        rw [Int.mul_comm (q + 1) P] at m1
        rw [if_neg hd, if_neg (show ¬ k + 1 < d * P by omega)]
theorem take_get {i : List Int} {m : Nat} (h : m < i.length) : i.take (m + 1) = i.take m ++ [gI i m] := by
  rw [List.take_add_one, List.getElem?_eq_getElem h, gI_get h]; rfl
theorem set_mid {a b : List Int} {x y : Int} {m : Nat} (h : a.length = m) : (a ++ x :: b).set m y = a ++ y :: b := by
  subst h
  rw [List.set_append_right _ _ (Nat.le_refl _)]
  simp
theorem get_mid {a b : List Int} {x : Int} {m : Nat} (h : a.length = m) : at? (a ++ x :: b) (m : Int) = some x := by
  subst h
  rw [at?_get (by simp)]
  simp
theorem inner_spec {fu : Nat} {t : T_Tensor} {d i l0 : List Int} {v : Int} {nx1 : List Int → List Int → Option T_Tensor} (hl : i.length = d.length) (hd : d.length ≤ 8) (hi : ∀ j, j < d.length → 0 ≤ gI i j ∧ gI i j ≤ 4096) :
    ∀ (m q : Nat), m ≤ d.length → m < q → cloop (fun next s => moves_picked.L2 fu nx1 t d l0 v (fun a b => next (a, b)) s.1 s.2) q (i.take m ++ List.replicate (d.length - m) 0, (m : Int) - 1) =
      match incV d i m with | some ys => nx1 (l0 ++ [v]) ys | none => (tens_Pick fu t d (l0 ++ [v])).bind fun x => some x.1
  | 0, q, hm, hq => by
    obtain ⟨q, rfl⟩ : ∃ q', q = q' + 1 := ⟨q - 1, by omega⟩
    rw [cloop_suc]
    simp only [moves_picked.L2]
    rw [if_neg (by omega)]
    rfl
  | m + 1, q, hm, hq => by
    obtain ⟨q, rfl⟩ : ∃ q', q = q' + 1 := ⟨q - 1, by omega⟩
    obtain ⟨i0, i1⟩ := hi m (by omega)
    have htl : (i.take m).length = m := by simp; omega
    rw [cloop_suc]
    simp only [moves_picked.L2]
    rw [show ((m + 1 : Nat) : Int) - 1 = (m : Int) by omega, if_pos (by omega), take_get (by omega), List.append_assoc]
    show (at? (i.take m ++ gI i m :: List.replicate (d.length - (m + 1)) 0) (m : Int)).bind _ = _
    have hlen : (i.take m ++ gI i m :: List.replicate (d.length - (m + 1)) 0).length = d.length := by simp; omega
    rw [get_mid htl, ob_some, chk_pos (by simp; omega), Int.toNat_natCast, wk_eq (x := gI i m + 1) (by omega) (by omega)]
    show (at? ((i.take m ++ gI i m :: List.replicate (d.length - (m + 1)) 0).set m (gI i m + 1)) (m : Int)).bind _ = _
    rw [set_mid htl, get_mid htl, ob_some, at?_get (by omega), ob_some]
    conv => rhs; rw [incV]
    rw [← gI_get (l := d) (by omega)]
    by_cases hc : gI i m + 1 < gI d m
    · rw [if_pos hc, if_pos hc]
      show nx1 (l0 ++ [v]) ((i.take m ++ gI i m :: List.replicate (d.length - (m + 1)) 0).set m (gI i m + 1)) = _
      rw [set_mid htl]
    · rw [if_neg hc, if_neg hc]
      show chk (0 ≤ (m : Int) ∧ (m : Int) < (((i.take m ++ gI i m :: List.replicate (d.length - (m + 1)) 0).set m (gI i m + 1)).length : Int)) (cloop _ q (((i.take m ++ gI i m :: List.replicate (d.length - (m + 1)) 0).set m (gI i m + 1)).set m 0, wk .i64 ((m : Int) - 1))) = _
      rw [chk_pos (by rw [List.length_set, hlen]; omega), set_mid htl, set_mid htl, wk_eq (by omega) (by omega)]
      have := inner_spec (nx1 := nx1) (t := t) (fu := fu) (l0 := l0) (v := v) hl hd hi m q (by omega) (by omega)
      rw [← this]
      congr 2
      rw [show d.length - m = (d.length - (m + 1)) + 1 by omega, List.replicate_succ]
theorem idx_small {l : List Int} {k : Int} (hg : Good l) (hp : ∀ x ∈ l, 1 ≤ x) (h0 : 0 ≤ k) (h1 : k < prod l) : ∀ j, j < l.length → 0 ≤ gI (idxV l k) j ∧ gI (idxV l k) j ≤ 4096 := fun j hj => by
  have h2 := okIx_at (idxV_length l k) (okIx_idx hp h0 h1) j hj
  have h3 := hg.2.1 _ (List.getElem_mem hj)
  rw [← gI_get hj] at h3
  omega
theorem picked_spec {fu : Nat} {t : T_Tensor} {d : List Int} {N : Nat} {p2 : List Int → Option Int} {f : Nat → Int} (hs : Small t) (hft : Fuel fu t) (hg : Good d) (hN : prod d = (N : Int)) (hf : 5000 < fu)
    (hp : ∀ k : Nat, k < N → p2 (idxV d (k : Int)) = some (f k)) : moves_picked fu t d p2 = some (pickV t d ((List.range N).map f)).1 := by
  have h8 := hg.1
  have h4 := hg.2.2
  unfold moves_picked
  rw [Contains_spec (by unfold Short; omega) (by omega), ob_some]
  by_cases hz : (d.any fun y => decide ((0 : Int) = y)) = true
  · have hz' : (0 : Int) ∈ d := by
      obtain ⟨x, hx, hx2⟩ := List.any_eq_true.1 hz
      simp at hx2; subst hx2; exact hx
    have : N = 0 := by have := prod_zero hz'; omega
    subst this
    rw [if_pos hz, Pick_spec hs hft (by unfold Short; omega) (by omega) (by simp [Short]) (by simp; omega)]
    rfl
  · rw [if_neg hz]
    have hpos : ∀ x ∈ d, 1 ≤ x := fun x hx => by
      have := (hg.2.1 x hx).1
      simp only [List.any_eq_true, decide_eq_true_eq, not_exists, not_and] at hz
      have := hz x hx; omega
    have h1 := prod_pos hpos
    rw [chk_pos (by omega), Int.toNat_natCast]
    unfold moves_picked.W1
    have hz0 : (([] : List Int), List.replicate d.length (0 : Int)) = ((fun k : Nat => ((List.range k).map f, idxV d (k : Int))) 0) := by simp [idxV_zero]
    rw [hz0]
    have step : ∀ (k : Nat), k < N → ∀ (next : List Int × List Int → Option T_Tensor), moves_picked.L1 fu p2 t d (fun a b => next (a, b)) ((List.range k).map f) (idxV d (k : Int)) = if k + 1 < N then next ((List.range (k + 1)).map f, idxV d ((k + 1 : Nat) : Int)) else (tens_Pick fu t d ((List.range (k + 1)).map f)).bind fun x => some x.1 := fun k hk next => by
      have hlk : ((List.range k).map f).length = k := by simp
      unfold moves_picked.L1 moves_picked.W2
      rw [hp k hk, ob_some, chk_pos (by rw [hlk]; omega), wk_eq (by omega) (by omega)]
      have hil : (idxV d (k : Int)).length = d.length := idxV_length _ _
      have := inner_spec (fu := fu) (t := t) (l0 := (List.range k).map f) (v := f k) (nx1 := fun a b => next (a, b)) hil h8 (idx_small hg hpos (by omega) (by omega)) d.length fu (Nat.le_refl _) (by omega)
      rw [Nat.sub_self, List.replicate_zero, List.append_nil, List.take_of_length_le (by omega), incV_idx hpos (by omega) (by omega)] at this
      rw [this]
      have e : (List.range k).map f ++ [f k] = (List.range (k + 1)).map f := by rw [List.range_succ, List.map_append]; rfl
      by_cases hc : k + 1 < N
      · rw [if_pos hc, if_pos (by omega), e]
        show next (_, _) = _
        rw [show ((k : Int) + 1) = ((k + 1 : Nat) : Int) by omega]
      · rw [if_neg hc, if_neg (by omega), e]
    refine cloop_to (N - 1) (fun k : Nat => ((List.range k).map f, idxV d (k : Int))) _ ?_ ?_ (by omega)
    · intro k hk next hn
      show moves_picked.L1 fu p2 t d (fun a b => next (a, b)) ((List.range k).map f) (idxV d (k : Int)) = _
      rw [step k (by omega), if_pos (by omega)]
      exact hn
    · intro next
      show moves_picked.L1 fu p2 t d (fun a b => next (a, b)) ((List.range (N - 1)).map f) (idxV d ((N - 1 : Nat) : Int)) = _
      rw [step (N - 1) (by omega), if_neg (by omega), show N - 1 + 1 = N by omega, Pick_spec hs hft (by unfold Short; omega) (by omega) (by simp [Short]; omega) (by simp; omega)]
      rfl
end Go.Av
set_option linter.unusedVariables false
namespace Go.Av
def axisV (a : Int) (n : Nat) : Option Int := if 0 ≤ a then (if a < n then some a else none) else if -(n : Int) ≤ a then some (n + a) else none
theorem Axis_spec {fu : Nat} {a : Int} {n : Nat} (hn : n ≤ 100) : shape_Axis fu a (n : Int) = some (match axisV a n with | some k => (k, 0) | none => (0, 2)) := by
  unfold shape_Axis axisV
  rw [if_neg (by omega), wk_eq (x := 0 - (n : Int)) (by omega) (by omega)]
  by_cases h : 0 ≤ a
  · rw [if_pos h, if_pos h]
    by_cases h1 : a < n
    · rw [if_pos h1, if_pos h1]
    · rw [if_neg h1, if_neg h1]
  · rw [if_neg h, if_neg h]
    by_cases h1 : 0 - (n : Int) ≤ a
    · rw [if_pos h1, if_pos (show -(n : Int) ≤ a by omega), wk_eq (by omega) (by omega)]
    · rw [if_neg h1, if_neg (show ¬ -(n : Int) ≤ a by omega)]
theorem axisV_rng {a : Int} {n : Nat} {k : Int} (h : axisV a n = some k) : 0 ≤ k ∧ k < n := by
  unfold axisV at h
  split at h
  · split at h
    · injection h with h; omega
    · cases h
  · split at h
    · injection h with h; omega
    · cases h
section
variable {fu : Nat}
theorem width_s {k : Int} (h : Known k) : ∃ w, tens_Width fu k = some w ∧ 0 < w := by
  unfold tens_Width
  rcases h with rfl | rfl | rfl
  · exact ⟨4, rfl, by decide⟩
  · exact ⟨8, rfl, by decide⟩
  · exact ⟨1, rfl, by decide⟩
end
theorem dotV_nonneg : ∀ {xs ys : List Int}, (∀ x ∈ xs, 0 ≤ x) → (∀ y ∈ ys, 0 ≤ y) → 0 ≤ dotV xs ys
  | [], _, _, _ => by simp [dotV]
  | _ :: _, [], _, _ => by simp [dotV]
  | x :: xs, y :: ys, hx, hy => by
    have h1 := dotV_nonneg (xs := xs) (ys := ys) (fun z hz => hx z (by simp [hz])) (fun z hz => hy z (by simp [hz]))
    have h2 : 0 ≤ x * y := Int.mul_nonneg (hx x (by simp)) (hy y (by simp))
    simp only [dotV]; omega
theorem dot_spec {fu : Nat} {xs ys : List Int} (hl : xs.length = ys.length) (hx : ∀ x ∈ xs, 0 ≤ x) (hy : ∀ y ∈ ys, 0 ≤ y) (hb : dotV xs ys ≤ 1000000) (hn : ys.length ≤ 100) (hf : 200 < fu) : moves_dot fu xs ys = some (dotV xs ys) := by
  unfold moves_dot moves_dot.W1
  refine (cloop_ind (fun (s : Int × Int) => some (s.1 + dotV (xs.drop s.2.toNat) (ys.drop s.2.toNat))) (fun s => 0 ≤ s.2 ∧ s.2 ≤ ys.length ∧ 0 ≤ s.1 ∧ s.1 + dotV (xs.drop s.2.toNat) (ys.drop s.2.toNat) ≤ 1000000) (fun s => ys.length - s.2.toNat) ?_ fu _ (by simp; omega) (by simp; omega)).trans (by simp)
  rintro ⟨a, i⟩ ⟨h0, h1, h2, h3⟩ next hn2
  simp only at h0 h1 h2 h3 hn2 ⊢
  obtain ⟨k, rfl⟩ := Int.eq_ofNat_of_zero_le h0
  unfold moves_dot.L1
  simp only [Int.toNat_natCast] at h3 ⊢
  by_cases hk : k < ys.length
  · have hk2 : k < xs.length := by omega
    rw [List.drop_eq_getElem_cons hk, List.drop_eq_getElem_cons hk2] at h3 ⊢
    simp only [dotV] at h3 ⊢
    have p1 : 0 ≤ xs[k] * ys[k] := Int.mul_nonneg (hx _ (List.getElem_mem hk2)) (hy _ (List.getElem_mem hk))
    have p2 : 0 ≤ dotV (xs.drop (k + 1)) (ys.drop (k + 1)) := dotV_nonneg (fun z hz => hx z (List.mem_of_mem_drop hz)) (fun z hz => hy z (List.mem_of_mem_drop hz))
    rw [if_pos (by omega), at?_get hk, ob_some, at?_get hk2, ob_some, wk_eq (x := xs[k] * ys[k]) (by omega) (by omega), wk_eq (x := a + xs[k] * ys[k]) (by omega) (by omega), wk_succ (by omega)]
    rw [hn2 (_, ((k + 1 : Nat) : Int)) ⟨by simp only []; omega, by simp only []; omega, by simp only []; omega, by simp only [Int.toNat_natCast]; omega⟩ (by simp; omega)]
    simp only [Int.toNat_natCast]
    congr 1
    omega
  · rw [if_neg (by omega), List.drop_of_length_le (by omega), List.drop_of_length_le (by omega)]
    simp [dotV]
theorem strdW_pos : ∀ {l : List Int}, (∀ x ∈ l, 1 ≤ x) → prod l ≤ 1000000 → strdW l = strV l
  | [], _, _ => rfl
  | d :: l, h, hb => by
    have h' : ∀ x ∈ l, 1 ≤ x := fun x hx => h x (by simp [hx])
    have h1 := prod_pos h'
    have h2 : 1 * prod l ≤ d * prod l := Int.mul_le_mul_of_nonneg_right (h d (by simp)) (by omega)
    simp only [prod] at hb
    have h3 : prod l ≤ 1000000 := by omega
    simp only [strdW, strV]
    rw [strdW_pos h' h3, wk_eq (by omega) (by omega)]
theorem strV_nonneg : ∀ {l : List Int}, (∀ x ∈ l, 1 ≤ x) → ∀ y ∈ strV l, 0 ≤ y
  | [], _, y, hy => by simp [strV] at hy
  | d :: l, h, y, hy => by
    have h' : ∀ x ∈ l, 1 ≤ x := fun x hx => h x (by simp [hx])
    simp only [strV, List.mem_cons] at hy
    rcases hy with rfl | hy
    · have := prod_pos h'; omega
    · exact strV_nonneg h' y hy
theorem idxV_nonneg {l : List Int} {k : Int} (hp : ∀ x ∈ l, 1 ≤ x) (h0 : 0 ≤ k) (h1 : k < prod l) : ∀ x ∈ idxV l k, 0 ≤ x := fun x hx => by
  obtain ⟨j, hj, rfl⟩ := List.getElem_of_mem hx
  have := okIx_at (idxV_length l k) (okIx_idx hp h0 h1) j (by rw [idxV_length] at hj; exact hj)
  rw [gI_get hj] at this
  exact this.1
section
variable {fu : Nat}
theorem strides_m {l : List Int} (hg : Good l) (hf : 20 < fu) : moves_strides fu l = some (strdW l) := by
  have h8 := hg.1
  unfold moves_strides shape_Strides
  rw [Size_spec (by unfold Short; omega) (by omega), ob_some, sizeV, if_pos hg, if_pos rfl, strides_spec (by omega) (by omega), ob_some, ob_some]
theorem canonT_check {t : T_Tensor} : checkV (canonT t) = checkV t := by
  unfold checkV LensOK canonT
  simp only [List.length_map]
theorem canonT_small {t : T_Tensor} (h : Ten t) : Small (canonT t) := by
  have := h.small
  unfold Small canonT at *
  simpa using this
theorem canonT_fuel {t : T_Tensor} (h : Fuel fu t) : Fuel fu (canonT t) := by
  unfold Fuel canonT at *
  simpa using h
end
theorem pk_get {α : Type} {L : List α} {z : α} {a : Int} (h0 : 0 ≤ a) (h1 : a < L.length) : pkOf L z a = L[a.toNat]'(by omega) := by
  unfold pkOf
  rw [if_pos h0, List.getD_eq_getElem?_getD, List.getElem?_eq_getElem (by omega)]
  rfl
theorem len_small {t : T_Tensor} (hc : checkV t = 0) : t.fDims.length ≤ 8 ∧ t.fF.length ≤ 4096 ∧ t.fI.length ≤ 4096 ∧ t.fB.length ≤ 4096 := by
  obtain ⟨hk, hg, l1, l2, l3⟩ := checkV_zero.1 hc
  have h8 := hg.1
  have h4 := hg.2.2
  refine ⟨h8, ?_, ?_, ?_⟩
  · split at l1 <;> omega
  · split at l2 <;> omega
  · split at l3 <;> omega
theorem refCanonF_spec {fu : Nat} {x : Int} (h0 : 0 ≤ x) : ref01_Canon fu x = some (canonF x) := by
  unfold ref01_Canon ref01_IsNone ref01_Abs canonF
  rw [Int.tmod_eq_emod_of_nonneg h0, ob_some, ob_some]
  by_cases h : 2139095040 < x % 2147483648 <;> simp [h]
theorem refCopy_spec {fu : Nat} {t : T_Tensor} (h : Ten t) : ref05_Copy fu t = some t := by
  obtain ⟨h1, h2, h3, h4, _⟩ := h
  unfold ref05_Copy
  rw [chk_pos (by omega), chk_pos (by omega), chk_pos (by omega), chk_pos (by omega)]
theorem refCanon_spec {fu : Nat} {t : T_Tensor} (h : Ten t) (hf : t.fF.length < fu) : ref05_Canon fu t = some (canonT t) := by
  have hu := h.2.2.2.2
  have hl := h.2.1
  unfold ref05_Canon
  rw [refCopy_spec h, ob_some]
  unfold ref05_Canon.W1
  refine map_loop (f := canonF) (c := fun m => some (T_Tensor.mk t.fType t.fDims m t.fI t.fB)) hf ?_ ?_
  · intro next k m hk hm hg
    unfold ref05_Canon.L1
    simp only []
    obtain ⟨u1, u2⟩ := hu _ (List.getElem_mem hk)
    rw [if_pos (by omega), at?_nat, hg, ob_some, refCanonF_spec u1, ob_some, chk_pos (by omega), wk_succ (by omega)]
    rfl
  · intro next m hm
    unfold ref05_Canon.L1
    rw [if_neg (by simp only []; omega)]
end Go.Av
set_option linter.unusedVariables false
namespace Go.Av
def pl {α : Type} (n : Nat) (f : Nat → Int) (L : List α) (z : α) : List α := ((List.range n).map f).map (pkOf L z)
theorem pl_length {α : Type} {n : Nat} {f : Nat → Int} {L : List α} {z : α} : (pl n f L z).length = n := by simp [pl]
def pT (e : List Int) (n : Nat) (f : Nat → Int) (t : T_Tensor) : T_Tensor := (pickV t e ((List.range n).map f)).1
structure PickOK (e : List Int) (m n : Nat) (f : Nat → Int) (t : T_Tensor) : Prop where
  chk : checkV t = 0
  good : Good e
  he : prod e = (m : Int)
  hd : prod t.fDims = (n : Int)
  hf : ∀ k, k < m → -1 ≤ f k ∧ f k < n
section
variable {e : List Int} {m n : Nat} {f : Nat → Int} {t : T_Tensor}
theorem pT_eq (h : PickOK e m n f t) : pT e m f t = if t.fType = 1 then ⟨t.fType, e, pl m f t.fF 0, [], []⟩ else if t.fType = 7 then ⟨t.fType, e, [], pl m f t.fI 0, []⟩ else ⟨t.fType, e, [], [], pl m f t.fB false⟩ := by
  obtain ⟨hc, hge, he, hd, hf⟩ := h
  obtain ⟨hk, hg, hL⟩ := checkV_zero.1 hc
  have hnew : (newV t.fType e).2 = 0 := by
    unfold newV
    rw [if_pos (show t.fType = 1 ∨ t.fType = 7 ∨ t.fType = 9 from hk), if_pos hge]
    split
    · rfl
    · split <;> rfl
  have hlen : ((((List.range m).map f).length : Nat) : Int) = prod e := by simp; omega
  have hsum : (t.fF.length : Int) + t.fI.length + t.fB.length = prod t.fDims := by
    obtain ⟨l1, l2, l3⟩ := hL
    rcases hk with e | e | e <;> simp [e] at l1 l2 l3 <;> simp [l1, l2, l3]
  have hbad : ¬ (((List.range m).map f).any (badP (t.fF.length + t.fI.length + t.fB.length)) = true) := by
    rw [hsum]
    intro h
    obtain ⟨x, hx, hx2⟩ := List.any_eq_true.1 h
    obtain ⟨k, hk, rfl⟩ := List.mem_map.1 hx
    have := hf k (List.mem_range.1 hk)
    simp [badP] at hx2
    omega
  unfold pT pickV
  rw [if_pos hc, if_pos hnew, if_pos hlen, if_neg hbad]
  rfl
theorem pT_type (h : PickOK e m n f t) : (pT e m f t).fType = t.fType ∧ (pT e m f t).fDims = e := by
  rw [pT_eq h]
  split
  · exact ⟨rfl, rfl⟩
  · split <;> exact ⟨rfl, rfl⟩
theorem pT_check (h : PickOK e m n f t) : checkV (pT e m f t) = 0 := by
  obtain ⟨e1, e2⟩ := pT_type h
  obtain ⟨hk, hg, hL⟩ := checkV_zero.1 h.chk
  refine checkV_zero.2 ⟨by rw [e1]; exact hk, by rw [e2]; exact h.good, ?_⟩
  rw [pT_eq h]
  have := h.he
  rcases hk with e | e | e <;> simp [e, LensOK, pl_length] <;> omega
theorem pk_mem {α : Type} {L : List α} {z : α} {a : Int} : pkOf L z a = z ∨ pkOf L z a ∈ L := by
  unfold pkOf
  split
  · rw [List.getD_eq_getElem?_getD]
    by_cases h : a.toNat < L.length
    · rw [List.getElem?_eq_getElem h]; exact .inr (List.getElem_mem h)
    · rw [List.getElem?_eq_none (by omega)]; exact .inl rfl
  · exact .inl rfl
theorem pl_mem {α : Type} {L : List α} {z x : α} (h : x ∈ pl m f L z) : x = z ∨ x ∈ L := by
  unfold pl at h
  obtain ⟨a, _, rfl⟩ := List.mem_map.1 h
  exact pk_mem
theorem pT_F (h : PickOK e m n f t) {x : Int} (hx : x ∈ (pT e m f t).fF) : x = 0 ∨ x ∈ t.fF := by
  rw [pT_eq h] at hx
  split at hx
  · exact pl_mem hx
  · split at hx <;> simp at hx
theorem canonF_canonF (x : Int) : canonF (canonF x) = canonF x := by
  unfold canonF
  by_cases h : 2139095040 < x % 2147483648
  · rw [if_pos h]; decide
  · rw [if_neg h, if_neg h]
theorem canonF_rng {x : Int} (h : 0 ≤ x ∧ x < 4294967296) : 0 ≤ canonF x ∧ canonF x < 4294967296 := by
  unfold canonF
  split
  · omega
  · exact h
theorem pT_canon (h : PickOK e m n f (canonT t)) : canonT (pT e m f (canonT t)) = pT e m f (canonT t) := by
  have : (pT e m f (canonT t)).fF.map canonF = (pT e m f (canonT t)).fF := by
    conv => rhs; rw [← List.map_id (pT e m f (canonT t)).fF]
    refine List.map_congr_left fun x hx => ?_
    rcases pT_F h hx with rfl | hm
    · decide
    · obtain ⟨y, _, rfl⟩ := List.mem_map.1 (show x ∈ t.fF.map canonF from hm)
      exact canonF_canonF y
  unfold canonT at this ⊢
  rw [this]
theorem pT_ten (ht : Ten t) (h : PickOK e m n f (canonT t)) : Ten (pT e m f (canonT t)) := by
  obtain ⟨h1, h2, h3, h4⟩ := len_small (pT_check h)
  refine ⟨by omega, by omega, by omega, by omega, fun x hx => ?_⟩
  rcases pT_F h hx with rfl | hm
  · decide
  · obtain ⟨y, hy, rfl⟩ := List.mem_map.1 (show x ∈ t.fF.map canonF from hm)
    exact canonF_rng (ht.2.2.2.2 y hy)
end
def outV (k : Int) (d : List Int) : T_Val := ⟨k, d, false, ⟨0, [], [], [], []⟩⟩
end Go.Av
set_option linter.unusedVariables false
namespace Go.Av
theorem gI_set {L : List Int} {c a : Nat} {x : Int} (hc : c < L.length) : gI (L.set c x) a = if c = a then x else gI L a := by
  unfold gI
  rw [List.getD_eq_getElem?_getD, List.getElem?_set, List.getD_eq_getElem?_getD]
  by_cases h1 : c = a
  · subst h1; simp [hc]
  · simp [h1]
theorem set_gI {L : List Int} {c : Nat} (hc : c < L.length) : L.set c (gI L c) = L := by
  refine ext_gI (by simp) fun k hk => ?_
  rw [gI_set hc]
  split
  · rename_i h; rw [h]
  · rfl
theorem offV_set : ∀ {d i : List Int} {k : Nat} {y : Int}, i.length = d.length → k < d.length → offV d (i.set k y) = offV d i + (y - gI i k) * gI (strV d) k
  | e :: d, x :: i, 0, y, hl, hk => by
    simp only [List.set_cons_zero, offV, gI, strV, List.getD_cons_zero]
    rw [Int.sub_mul]; omega
  | e :: d, x :: i, k + 1, y, hl, hk => by
    have ih := offV_set (d := d) (i := i) (k := k) (y := y) (by simpa using hl) (by simpa using hk)
    simp only [List.set_cons_succ, offV, gI, strV, List.getD_cons_succ] at ih ⊢
    omega
theorem prod_set : ∀ {d : List Int} {k : Nat} {y : Int}, k < d.length → prod (d.set k y) = y * prod (d.set k 1)
  | e :: d, 0, y, hk => by simp only [List.set_cons_zero, prod]; rw [Int.one_mul]
  | e :: d, k + 1, y, hk => by
    have ih := prod_set (d := d) (k := k) (y := y) (by simpa using hk)
    simp only [List.set_cons_succ, prod]
    rw [ih, ← Int.mul_assoc, ← Int.mul_assoc, Int.mul_comm e y]
theorem strV_set : ∀ {d : List Int} {k : Nat} {y : Int}, k < d.length → gI (strV (d.set k y)) k = gI (strV d) k
  | e :: d, 0, y, hk => by simp [strV, gI]
  | e :: d, k + 1, y, hk => by
    have ih := strV_set (d := d) (k := k) (y := y) (by simpa using hk)
    simp only [List.set_cons_succ, strV, gI, List.getD_cons_succ] at ih ⊢
    exact ih
theorem sumI_app : ∀ {a b : List Int}, sumI (a ++ b) = sumI a + sumI b
  | [], b => by simp [sumI]
  | x :: a, b => by
    have ih := sumI_app (a := a) (b := b)
    simp only [List.cons_append, sumI, ih]; omega
def sA (l : List Int) (j : Nat) : Int := sumI (l.take j)
theorem sA_zero {l : List Int} : sA l 0 = 0 := rfl
theorem sA_succ {l : List Int} {j : Nat} (h : j < l.length) : sA l (j + 1) = sA l j + gI l j := by
  unfold sA
  rw [List.take_succ_eq_append_getElem h, sumI_app, gI_get h]
  simp [sumI]
theorem sA_cons {y : Int} {l : List Int} {j : Nat} : sA (y :: l) (j + 1) = y + sA l j := rfl
theorem sA_all {l : List Int} : sA l l.length = sumI l := by unfold sA; rw [List.take_length]
theorem sA_nn {l : List Int} (h : ∀ y ∈ l, 0 ≤ y) : ∀ j, j ≤ l.length → 0 ≤ sA l j
  | 0, _ => by simp [sA_zero]
  | j + 1, hj => by
    have ih := sA_nn h j (by omega)
    have := h l[j] (List.getElem_mem _)
    rw [sA_succ (by omega), gI_get (by omega)]; omega
theorem sA_mono {l : List Int} (h : ∀ y ∈ l, 0 ≤ y) {j : Nat} : ∀ i, j ≤ i → i ≤ l.length → sA l j ≤ sA l i
  | 0, h1, _ => by
    have : j = 0 := by omega
    subst this; omega
  | i + 1, h1, h2 => by
    by_cases e : j = i + 1
    · subst e; omega
    · have ih := sA_mono h (j := j) i (by omega) (by omega)
      have := h l[i] (List.getElem_mem _)
      rw [sA_succ (by omega), gI_get (by omega)]; omega
def tP : List Int → Int → Nat
  | [], _ => 0
  | y :: l, x => if x < y then 0 else tP l (x - y) + 1
theorem tP_spec : ∀ {l : List Int} {x : Int}, (∀ y ∈ l, 0 ≤ y) → 0 ≤ x → x < sumI l → tP l x < l.length ∧ sA l (tP l x) ≤ x ∧ x < sA l (tP l x) + gI l (tP l x)
  | [], x, _, h0, h1 => by simp [sumI] at h1; omega
  | y :: l, x, h, h0, h1 => by
    unfold tP
    by_cases hx : x < y
    · rw [if_pos hx]
      simp [sA_zero, gI]; omega
    · rw [if_neg hx]
      obtain ⟨a, b, c⟩ := tP_spec (l := l) (x := x - y) (fun z hz => h z (by simp [hz])) (by omega) (by simp only [sumI] at h1; omega)
      rw [sA_cons]
      have : gI (y :: l) (tP l (x - y) + 1) = gI l (tP l (x - y)) := by simp [gI]
      rw [this]
      simp only [List.length_cons]
      omega
structure SpOK (d l : List Int) (k : Nat) : Prop where
  gd : Good d
  hk : k < d.length
  nn : ∀ y ∈ l, 0 ≤ y
  sum : sumI l = gI d k
  l1 : 1 ≤ l.length
  l2 : l.length ≤ 64
def dP (d l : List Int) (k j : Nat) : List Int := d.set k (gI l j)
theorem dP_len {d l : List Int} {k j : Nat} : (dP d l k j).length = d.length := by simp [dP]
theorem dP_at {d l : List Int} {k j a : Nat} (h : k < d.length) : gI (dP d l k j) a = if k = a then gI l j else gI d a := gI_set h
def rP (d : List Int) (k : Nat) : Int := prod (d.set k 1)
theorem rng_set {d : List Int} {k : Nat} {y : Int} (h : Rng d) (hy : 0 ≤ y ∧ y ≤ 4096) : Rng (d.set k y) := fun x hx => by
  rcases List.mem_or_eq_of_mem_set hx with h1 | h1
  · exact h x h1
  · subst h1; exact hy
theorem rP_nn {d : List Int} {k : Nat} (h : Rng d) : 0 ≤ rP d k := prod_nonneg (rng_set h (by omega))
theorem prod_rP {d : List Int} {k : Nat} (hk : k < d.length) : prod d = gI d k * rP d k := by
  conv => lhs; rw [← set_gI hk]
  exact prod_set hk
theorem prod_dP {d l : List Int} {k j : Nat} (hk : k < d.length) : prod (dP d l k j) = gI l j * rP d k := prod_set hk
section
variable {d l : List Int} {k : Nat}
theorem SpOK.row (h : SpOK d l k) {j : Nat} (hj : j < l.length) : 0 ≤ gI l j ∧ 0 ≤ sA l j ∧ sA l j + gI l j ≤ gI d k ∧ gI d k ≤ 4096 := by
  have h1 := h.nn l[j] (List.getElem_mem _)
  have h2 := sA_nn h.nn j (by omega)
  have h3 := sA_mono h.nn (j := j + 1) l.length (by omega) (Nat.le_refl _)
  rw [sA_succ hj, sA_all, h.sum] at h3
  have hk := h.hk
  have h4 := (h.gd.2.1 d[k] (List.getElem_mem hk)).2
  rw [← gI_get hk] at h4
  rw [← gI_get hj] at h1
  omega
theorem SpOK.good (h : SpOK d l k) {j : Nat} (hj : j < l.length) : Good (dP d l k j) := by
  obtain ⟨a, b, c, e⟩ := h.row hj
  refine ⟨by rw [dP_len]; exact h.gd.1, rng_set h.gd.2.1 (by omega), ?_⟩
  rw [prod_dP h.hk]
  have h1 := rP_nn (k := k) h.gd.2.1
  have h2 : gI l j * rP d k ≤ gI d k * rP d k := Int.mul_le_mul_of_nonneg_right (by omega) h1
  have h3 := h.gd.2.2
  rw [prod_rP h.hk] at h3
  omega
def fSp (d l : List Int) (k j m : Nat) : Int := sA l j * gI (strV d) k + offV d (idxV (dP d l k j) (m : Int))
def mvI (i : List Int) (k : Nat) (a : Int) : List Int := i.set k (gI i k + a)
theorem mvI_len {i : List Int} {k : Nat} {a : Int} : (mvI i k a).length = i.length := by simp [mvI]
theorem off_mv {i : List Int} {a : Int} (hl : i.length = d.length) (hk : k < d.length) : offV d (mvI i k a) = offV d i + a * gI (strV d) k := by
  unfold mvI
  rw [offV_set hl hk]
  have : gI i k + a - gI i k = a := by omega
  rw [this]
theorem mv_mv {i : List Int} {a : Int} (hk : k < i.length) : mvI (mvI i k (-a)) k a = i := by
  unfold mvI
  rw [gI_set hk, if_pos rfl, List.set_set]
  have : gI i k + -a + a = gI i k := by omega
  rw [this, set_gI hk]
theorem SpOK.pos (h : SpOK d l k) {j : Nat} (hj : j < l.length) {m : Int} (h0 : 0 ≤ m) (h1 : m < prod (dP d l k j)) : ∀ x ∈ d, 1 ≤ x := by
  have hp := pos_of_good (h.good hj) (by omega)
  obtain ⟨a, b, c, e⟩ := h.row hj
  refine fun x hx => ?_
  obtain ⟨i, hi, rfl⟩ := List.getElem_of_mem hx
  have hi2 : i < (dP d l k j).length := by rw [dP_len]; exact hi
  have h2 := hp (dP d l k j)[i] (List.getElem_mem hi2)
  rw [← gI_get, dP_at h.hk] at h2
  rw [← gI_get hi]
  by_cases e1 : k = i
  · subst e1; rw [if_pos rfl] at h2; omega
  · rw [if_neg e1] at h2; exact h2
theorem SpOK.ix (h : SpOK d l k) {j : Nat} (hj : j < l.length) {m : Int} (h0 : 0 ≤ m) (h1 : m < prod (dP d l k j)) : okIx d (mvI (idxV (dP d l k j) m) k (sA l j)) = true := by
  have hp := pos_of_good (h.good hj) (by omega)
  obtain ⟨a, b, c, e⟩ := h.row hj
  have hil : (idxV (dP d l k j) m).length = d.length := by rw [idxV_length, dP_len]
  have hi := okIx_at (idxV_length (dP d l k j) m) (okIx_idx hp h0 h1)
  have hk := h.hk
  refine okIx_of (by rw [mvI_len, hil]) fun i hi2 => ?_
  have h3 := hi i (by rw [dP_len]; exact hi2)
  rw [dP_at hk] at h3
  unfold mvI
  rw [gI_set (by omega)]
  by_cases e1 : k = i
  · subst e1; rw [if_pos rfl] at h3 ⊢; omega
  · rw [if_neg e1] at h3 ⊢; exact h3
theorem fSp_mv (h : SpOK d l k) {j m : Nat} : fSp d l k j m = offV d (mvI (idxV (dP d l k j) (m : Int)) k (sA l j)) := by
  rw [off_mv (by rw [idxV_length, dP_len]) h.hk]
  unfold fSp
  omega
theorem fSp_rng (h : SpOK d l k) {j m : Nat} (hj : j < l.length) (hm : (m : Int) < prod (dP d l k j)) : 0 ≤ fSp d l k j m ∧ fSp d l k j m < prod d := by
  rw [fSp_mv h]
  exact offV_lt (fun x hx => by have := h.pos hj (by omega) hm x hx; omega) (by rw [mvI_len, idxV_length, dP_len]) (h.ix hj (by omega) hm)
def tG (d l : List Int) (k : Nat) (q : Nat) : Nat := tP l (gI (idxV d (q : Int)) k)
def mG (d l : List Int) (k : Nat) (q : Nat) : Int := offV (dP d l k (tG d l k q)) (mvI (idxV d (q : Int)) k (-(sA l (tG d l k q))))
theorem mG_spec (h : SpOK d l k) {q : Nat} (hq : (q : Int) < prod d) : tG d l k q < l.length ∧ sA l (tG d l k q) ≤ gI (idxV d (q : Int)) k ∧ gI (idxV d (q : Int)) k < sA l (tG d l k q) + gI l (tG d l k q) ∧
    0 ≤ mG d l k q ∧ mG d l k q < prod (dP d l k (tG d l k q)) ∧ fSp d l k (tG d l k q) (mG d l k q).toNat = q := by
  have hp := pos_of_good h.gd (by omega)
  have hil := idxV_length d (q : Int)
  have hi := okIx_at hil (okIx_idx hp (by omega) hq)
  have hk := h.hk
  have h1 := hi k hk
  obtain ⟨a, b, c⟩ := tP_spec (x := gI (idxV d (q : Int)) k) h.nn h1.1 (by rw [h.sum]; exact h1.2)
  have hok : okIx (dP d l k (tG d l k q)) (mvI (idxV d (q : Int)) k (-(sA l (tG d l k q)))) = true := okIx_of (by rw [mvI_len, hil, dP_len]) fun i hi2 => by
    rw [dP_len] at hi2
    have h3 := hi i hi2
    rw [dP_at hk]
    unfold mvI
    rw [gI_set (by omega)]
    by_cases e1 : k = i
    · subst e1; rw [if_pos rfl, if_pos rfl]; unfold tG; omega
    · rw [if_neg e1, if_neg e1]; exact h3
  have hr := offV_lt (l := dP d l k (tG d l k q)) (fun x hx => ((h.good (j := tG d l k q) a).2.1 x hx).1) (by rw [mvI_len, hil, dP_len]) hok
  refine ⟨a, b, c, hr.1, hr.2, ?_⟩
  rw [fSp_mv h, Int.toNat_of_nonneg (show 0 ≤ mG d l k q from hr.1)]
  unfold mG
  rw [idxV_off (fun x hx => ((h.good (j := tG d l k q) a).2.1 x hx).1) (by rw [mvI_len, hil, dP_len]) hok, mv_mv (by omega), offV_idx hp (by omega) hq]
end
end Go.Av
set_option linter.unusedVariables false
namespace Go.Av
def flatR {α : Type} (Y : Nat → List α) (n : Nat) : List α := ((List.range n).map Y).flatten
theorem flatR_zero {α : Type} {Y : Nat → List α} : flatR Y 0 = [] := rfl
theorem flatR_succ {α : Type} {Y : Nat → List α} {n : Nat} : flatR Y (n + 1) = flatR Y n ++ Y n := by
  simp [flatR, List.range_succ]
theorem flatR_get {α : Type} {Y : Nat → List α} {t m : Nat} (hm : m < (Y t).length) : ∀ n, t < n → (flatR Y n)[(flatR Y t).length + m]? = (Y t)[m]?
  | n + 1, h => by
    rw [flatR_succ]
    by_cases e : t = n
    · subst e
      rw [List.getElem?_append_right (by omega)]
      congr 1; omega
    · have ih := flatR_get hm n (by omega)
      have h1 : (flatR Y t).length + m < (flatR Y n).length := by
        by_cases h2 : (flatR Y t).length + m < (flatR Y n).length
        · exact h2
        · rw [List.getElem?_eq_none (by omega), List.getElem?_eq_getElem hm] at ih
          exact absurd ih (by simp)
      rw [List.getElem?_append_left h1, ih]
theorem flatR_nil {α : Type} {Y : Nat → List α} (h : ∀ j, Y j = []) : ∀ n, flatR Y n = []
  | 0 => rfl
  | n + 1 => by rw [flatR_succ, flatR_nil h n, h n]; rfl
theorem flatR_congr {α : Type} {Y Z : Nat → List α} : ∀ n, (∀ j, j < n → Y j = Z j) → flatR Y n = flatR Z n
  | 0, _ => rfl
  | n + 1, h => by rw [flatR_succ, flatR_succ, flatR_congr n fun j hj => h j (by omega), h n (by omega)]
def nP (d l : List Int) (k j : Nat) : Nat := (prod (dP d l k j)).toNat
def pP (t : T_Tensor) (l : List Int) (k j : Nat) : T_Tensor := pT (dP t.fDims l k j) (nP t.fDims l k j) (fSp t.fDims l k j) t
def partsT (t : T_Tensor) (l : List Int) (k : Nat) : List T_Tensor := (List.range l.length).map (pP t l k)
def gG (d l : List Int) (k : Nat) (q : Nat) : Int := sA l (tG d l k q) * rP d k + mG d l k q
def rowT (t : T_Tensor) (l : List Int) (k : Nat) : T_Tensor := ⟨t.fType, [prod t.fDims], flatR (fun j => (pP t l k j).fF) l.length, flatR (fun j => (pP t l k j).fI) l.length, flatR (fun j => (pP t l k j).fB) l.length⟩
section
variable {t : T_Tensor} {l : List Int} {k n : Nat}
theorem nP_eq (h : SpOK t.fDims l k) {j : Nat} (hj : j < l.length) : prod (dP t.fDims l k j) = (nP t.fDims l k j : Int) := by
  unfold nP
  rw [Int.toNat_of_nonneg (prod_nonneg (h.good hj).2.1)]
theorem nP_mul (h : SpOK t.fDims l k) {j : Nat} (hj : j < l.length) : (nP t.fDims l k j : Int) = gI l j * rP t.fDims k := by
  rw [← nP_eq h hj, prod_dP h.hk]
theorem pP_ok (hc : checkV t = 0) (h : SpOK t.fDims l k) (hn : prod t.fDims = (n : Int)) {j : Nat} (hj : j < l.length) : PickOK (dP t.fDims l k j) (nP t.fDims l k j) n (fSp t.fDims l k j) t := ⟨hc, h.good hj, nP_eq h hj, hn, fun m hm => by
  have hr := fSp_rng h hj (m := m) (by rw [nP_eq h hj]; exact Int.ofNat_lt.2 hm)
  omega⟩
theorem flat_len {α : Type} {L : List α} {z : α} (h : SpOK t.fDims l k) : ∀ j, j ≤ l.length → ((flatR (fun j => pl (nP t.fDims l k j) (fSp t.fDims l k j) L z) j).length : Int) = sA l j * rP t.fDims k
  | 0, _ => by simp [flatR_zero, sA_zero]
  | j + 1, hj => by
    have ih := flat_len (L := L) (z := z) h j (by omega)
    have e := nP_mul h (j := j) (by omega)
    rw [flatR_succ, List.length_append, pl_length, sA_succ (by omega), Int.add_mul, ← e]
    push_cast
    omega
theorem flat_back {α : Type} {L : List α} {z : α} (h : SpOK t.fDims l k) (hn : prod t.fDims = (n : Int)) (hL : L.length = n) : pl n (gG t.fDims l k) (flatR (fun j => pl (nP t.fDims l k j) (fSp t.fDims l k j) L z) l.length) z = L := by
  refine List.ext_getElem (by rw [pl_length, hL]) fun q h1 h2 => ?_
  have hq : (q : Int) < prod t.fDims := by rw [hn]; omega
  obtain ⟨a, b, c, e0, e1, e2⟩ := mG_spec h hq
  have hb := flat_len (L := L) (z := z) h (tG t.fDims l k q) (by omega)
  obtain ⟨m, hm⟩ := Int.eq_ofNat_of_zero_le e0
  rw [nP_eq h a, hm] at e1
  rw [hm, Int.toNat_natCast] at e2
  have hm2 : m < (pl (nP t.fDims l k (tG t.fDims l k q)) (fSp t.fDims l k (tG t.fDims l k q)) L z).length := by rw [pl_length]; omega
  have hg := flatR_get (Y := fun j => pl (nP t.fDims l k j) (fSp t.fDims l k j) L z) (t := tG t.fDims l k q) (m := m) hm2 l.length a
  have a1 : (pl n (gG t.fDims l k) (flatR (fun j => pl (nP t.fDims l k j) (fSp t.fDims l k j) L z) l.length) z)[q] = pkOf (flatR (fun j => pl (nP t.fDims l k j) (fSp t.fDims l k j) L z) l.length) z (gG t.fDims l k q) := by simp [pl]
  have a2 : gG t.fDims l k q = (((flatR (fun j => pl (nP t.fDims l k j) (fSp t.fDims l k j) L z) (tG t.fDims l k q)).length + m : Nat) : Int) := by
    unfold gG
    rw [hm, ← hb]
    push_cast; rfl
  rw [a1, a2]
  unfold pkOf
  rw [if_pos (by omega), Int.toNat_natCast, List.getD_eq_getElem?_getD, hg, List.getElem?_eq_getElem hm2]
  have a3 : (pl (nP t.fDims l k (tG t.fDims l k q)) (fSp t.fDims l k (tG t.fDims l k q)) L z)[m] = pkOf L z (fSp t.fDims l k (tG t.fDims l k q) m) := by simp [pl]
  rw [a3, e2, pk_get (by omega) (by omega)]
  simp
theorem gG_rng (h : SpOK t.fDims l k) (hn : prod t.fDims = (n : Int)) {q : Nat} (hq : q < n) : 0 ≤ gG t.fDims l k q ∧ gG t.fDims l k q < n := by
  obtain ⟨a, b, c, e0, e1, e2⟩ := mG_spec h (q := q) (by rw [hn]; exact Int.ofNat_lt.2 hq)
  obtain ⟨r1, r2, r3, r4⟩ := h.row a
  have hr := rP_nn (k := k) h.gd.2.1
  have m1 : 0 ≤ sA l (tG t.fDims l k q) * rP t.fDims k := Int.mul_nonneg r2 hr
  have m2 : (sA l (tG t.fDims l k q) + gI l (tG t.fDims l k q)) * rP t.fDims k ≤ gI t.fDims k * rP t.fDims k := Int.mul_le_mul_of_nonneg_right r3 hr
  rw [Int.add_mul, ← prod_rP h.hk, hn] at m2
  rw [prod_dP h.hk] at e1
  unfold gG
  omega
theorem row_flat (hc : checkV t = 0) (h : SpOK t.fDims l k) (hn : prod t.fDims = (n : Int)) : rowT t l k = if t.fType = 1 then ⟨t.fType, [prod t.fDims], flatR (fun j => pl (nP t.fDims l k j) (fSp t.fDims l k j) t.fF 0) l.length, [], []⟩
    else if t.fType = 7 then ⟨t.fType, [prod t.fDims], [], flatR (fun j => pl (nP t.fDims l k j) (fSp t.fDims l k j) t.fI 0) l.length, []⟩
    else ⟨t.fType, [prod t.fDims], [], [], flatR (fun j => pl (nP t.fDims l k j) (fSp t.fDims l k j) t.fB false) l.length⟩ := by
  have e : ∀ j, j < l.length → pP t l k j = _ := fun j hj => pT_eq (pP_ok hc h hn hj)
  unfold rowT
  by_cases t1 : t.fType = 1
  · rw [if_pos t1, flatR_congr (Y := fun j => (pP t l k j).fF) _ fun j hj => by rw [e j hj, if_pos t1], flatR_congr (Y := fun j => (pP t l k j).fI) (Z := fun _ => []) _ fun j hj => by rw [e j hj, if_pos t1], flatR_congr (Y := fun j => (pP t l k j).fB) (Z := fun _ => []) _ fun j hj => by rw [e j hj, if_pos t1], flatR_nil (Y := fun _ => ([] : List Int)) (fun _ => rfl), flatR_nil (Y := fun _ => ([] : List Bool)) (fun _ => rfl)]
  · rw [if_neg t1]
    by_cases t7 : t.fType = 7
    · rw [if_pos t7, flatR_congr (Y := fun j => (pP t l k j).fI) _ fun j hj => by rw [e j hj, if_neg t1, if_pos t7], flatR_congr (Y := fun j => (pP t l k j).fF) (Z := fun _ => []) _ fun j hj => by rw [e j hj, if_neg t1, if_pos t7], flatR_congr (Y := fun j => (pP t l k j).fB) (Z := fun _ => []) _ fun j hj => by rw [e j hj, if_neg t1, if_pos t7], flatR_nil (Y := fun _ => ([] : List Int)) (fun _ => rfl), flatR_nil (Y := fun _ => ([] : List Bool)) (fun _ => rfl)]
    · rw [if_neg t7, flatR_congr (Y := fun j => (pP t l k j).fB) _ fun j hj => by rw [e j hj, if_neg t1, if_neg t7], flatR_congr (Y := fun j => (pP t l k j).fF) (Z := fun _ => []) _ fun j hj => by rw [e j hj, if_neg t1, if_neg t7], flatR_congr (Y := fun j => (pP t l k j).fI) (Z := fun _ => []) _ fun j hj => by rw [e j hj, if_neg t1, if_neg t7], flatR_nil (Y := fun _ => ([] : List Int)) (fun _ => rfl)]
theorem flat_all {α : Type} {L : List α} {z : α} (h : SpOK t.fDims l k) : ((flatR (fun j => pl (nP t.fDims l k j) (fSp t.fDims l k j) L z) l.length).length : Int) = prod t.fDims := by
  rw [flat_len h _ (Nat.le_refl _), sA_all, h.sum, ← prod_rP h.hk]
theorem row_check (hc : checkV t = 0) (h : SpOK t.fDims l k) (hn : prod t.fDims = (n : Int)) : checkV (rowT t l k) = 0 := by
  obtain ⟨hk, hg, hL⟩ := checkV_zero.1 hc
  have h0 := prod_nonneg hg.2.1
  have h1 := hg.2.2
  refine checkV_zero.2 ⟨hk, ⟨by simp [rowT], fun x hx => by simp [rowT] at hx; omega, by simp [rowT, prod]; omega⟩, ?_⟩
  have ef := flat_all (L := t.fF) (z := 0) h
  have ei := flat_all (L := t.fI) (z := 0) h
  have eb := flat_all (L := t.fB) (z := false) h
  rw [row_flat hc h hn]
  rcases hk with e | e | e <;> simp [e, LensOK, prod] <;> assumption
theorem row_pick (hc : checkV t = 0) (h : SpOK t.fDims l k) (hn : prod t.fDims = (n : Int)) : PickOK t.fDims n n (gG t.fDims l k) (rowT t l k) := ⟨row_check hc h hn, h.gd, hn, by simp [rowT, prod]; exact hn, fun q hq => by
  have := gG_rng h hn hq
  omega⟩
theorem row_back (hc : checkV t = 0) (h : SpOK t.fDims l k) (hn : prod t.fDims = (n : Int)) : pT t.fDims n (gG t.fDims l k) (rowT t l k) = t := by
  rw [pT_eq (row_pick hc h hn)]
  have ht : (rowT t l k).fType = t.fType := rfl
  rw [ht, row_flat hc h hn]
  obtain ⟨hk, hgd, l1, l2, l3⟩ := checkV_zero.1 hc
  have bf := flat_back (L := t.fF) (z := 0) h hn
  have bi := flat_back (L := t.fI) (z := 0) h hn
  have bb := flat_back (L := t.fB) (z := false) h hn
  have et : t = ⟨t.fType, t.fDims, t.fF, t.fI, t.fB⟩ := rfl
  rcases hk with e | e | e
  · rw [e] at l1 l2 l3
    simp at l1 l2 l3
    rw [e, if_pos rfl, if_pos rfl, bf (by omega)]
    conv => rhs; rw [et, e, l2, l3]
  · rw [e] at l1 l2 l3
    simp at l1 l2 l3
    rw [e, if_neg (by decide), if_pos rfl, if_neg (by decide), if_pos rfl, bi (by omega)]
    conv => rhs; rw [et, e, l1, l3]
  · rw [e] at l1 l2 l3
    simp at l1 l2 l3
    rw [e, if_neg (by decide), if_neg (by decide), if_neg (by decide), if_neg (by decide), bb (by omega)]
    conv => rhs; rw [et, e, l1, l2]
end
end Go.Av
set_option linter.unusedVariables false
namespace Go.Av
def fI {α : Type} (q : α → Bool) : List α → Int → Int
  | [], _ => -1
  | x :: l, i => if q x = true then i else fI q l (i + 1)
theorem fI_any {α : Type} {q : α → Bool} : ∀ {l : List α} {i : Int}, 0 ≤ i → decide (0 ≤ fI q l i) = l.any q
  | [], i, h => by simp [fI]
  | x :: l, i, h => by
    unfold fI
    by_cases hx : q x = true
    · rw [if_pos hx]; simp [hx, h]
    · rw [if_neg hx, fI_any (by omega)]; simp [hx]
theorem find_loop {α : Type} {fu : Nat} {l : List α} {p : α → Option Bool} {q : α → Bool} (hp : ∀ x ∈ l, p x = some (q x)) (hl : l.length ≤ 1000000) (hf : l.length < fu) {L : (Int → Option Int) → Int → Option Int}
    (hL : ∀ nx i, L nx i = if i < (l.length : Int) then ((at? l i).bind fun x7 => (p x7).bind fun x8 => if x8 = true then (some i) else nx (wk .i64 (i + 1))) else some (-1)) : (cloop (fun next s => L next s) fu 0).bind (fun x2 => some (decide (0 ≤ x2))) = some (l.any q) := by
  rw [cloop_ind (fun (s : Int) => some (fI q (l.drop s.toNat) s)) (fun s => 0 ≤ s ∧ s ≤ l.length) (fun s => l.length - s.toNat) ?_ fu 0 (by simp) (by simp; omega)]
  · rw [ob_some, fI_any (by omega)]; simp
  · rintro s ⟨h0, h1⟩ next hn
    obtain ⟨k, rfl⟩ := Int.eq_ofNat_of_zero_le h0
    rw [hL, Int.toNat_natCast]
    by_cases hk : k < l.length
    · rw [if_pos (by omega), at?_get hk, ob_some, hp _ (List.getElem_mem hk), ob_some, List.drop_eq_getElem_cons hk, fI]
      by_cases hx : q l[k] = true
      · rw [if_pos hx, if_pos hx]
      · rw [if_neg hx, if_neg hx, wk_succ (by omega), hn _ ⟨by omega, by omega⟩ (by simp; omega), Int.toNat_natCast]
        rfl
    · rw [if_neg (by omega), List.drop_of_length_le (by omega), fI]
theorem mk_loop {β : Type} {fu N : Nat} (hl : N ≤ 1000000) (hf : N < fu) {E : Int → Option Int} {e : Nat → Int} (hE : ∀ k, k < N → E (k : Int) = some (e k)) {c : List Int → Option β} {L : (List Int → Int → Option β) → List Int → Int → Option β}
    (hL : ∀ nx m i, L nx m i = if i < (N : Int) then ((E i).bind fun x9 => chk ((m.length + 1 : Int) * 8 ≤ 140737488355328) <| nx (m ++ [x9]) (wk .i64 (i + 1))) else c m) : cloop (fun next s => L (fun a b => next (a, b)) s.1 s.2) fu (([] : List Int), (0 : Int)) = c ((List.range N).map e) := by
  have hz : (([] : List Int), (0 : Int)) = (fun k : Nat => ((List.range k).map e, (k : Int))) 0 := rfl
  rw [hz]
  refine cloop_to N (fun k : Nat => ((List.range k).map e, (k : Int))) _ ?_ ?_ hf
  · intro k hk next hn
    show L (fun a b => next (a, b)) ((List.range k).map e) (k : Int) = _
    rw [hL, if_pos (by omega), hE k hk, ob_some, chk_pos (by simp; omega), wk_succ (by omega), ← hn, List.range_succ, List.map_append]
    rfl
  · intro next
    show L (fun a b => next (a, b)) ((List.range N).map e) (N : Int) = _
    rw [hL, if_neg (by omega)]
theorem at_gI {l : List Int} {k : Nat} (h : k < l.length) : at? l (k : Int) = some (gI l k) := by rw [at?_get h, gI_get h]
def lt (l : List Int) : T_Tensor := ⟨7, [(l.length : Int)], [], l, []⟩
def lv (l : List Int) : T_Val := ⟨7, [(l.length : Int)], true, lt l⟩
theorem lt_check {l : List Int} (h : l.length ≤ 4096) : checkV (lt l) = 0 := by
  refine checkV_zero.2 ⟨.inr (.inl rfl), ⟨by simp [lt], fun x hx => by simp [lt] at hx; omega, by simp [lt, prod]; omega⟩, ?_⟩
  simp [LensOK, lt, prod]
theorem lt_good {l : List Int} (h : l.length ≤ 4096) : Good [(l.length : Int)] := (checkV_zero.1 (lt_check h)).2.1
theorem lt_bad {l : List Int} (h : 4096 < l.length) : checkV (lt l) ≠ 0 := fun e => by
  have := (checkV_zero.1 e).2.1.2.2
  simp [lt, prod] at this
  omega
section
variable {fu : Nat} {s : T_Setting} {v : T_Val} {l : List Int} {N : Int}
theorem has_s0 : infer_ask_has fu ⟨48, s, [v, lv l], N⟩ 0 = some (!(decide (v.fType = 0))) := rfl
theorem has_s1 : infer_ask_has fu ⟨48, s, [v, lv l], N⟩ 1 = some true := rfl
theorem val_s0 : infer_ask_val fu ⟨48, s, [v, lv l], N⟩ 0 = some v := rfl
theorem val_s1 : infer_ask_val fu ⟨48, s, [v, lv l], N⟩ 1 = some (lv l) := rfl
theorem complete_s : infer_ask_complete (fu + 3) ⟨48, s, [v, lv l], N⟩ = some (decide (1 ≤ N ∧ N ≤ 64 ∧ v.fType ≠ 0)) := by
  have h : infer_ask_complete (fu + 3) ⟨48, s, [v, lv l], N⟩ = if (1 : Int) = 0 then (some false) else if (2 : Int) < 1 then some false else if (2 : Int) < 2 then some false else if N < 1 then some false else if 64 < N then some false else infer_ask_complete.W1 (fu + 3) ⟨48, s, [v, lv l], N⟩ (1, 2, 1, 64) 0 := rfl
  rw [h, if_neg (by decide), if_neg (by decide), if_neg (by decide)]
  by_cases h1 : N < 1
  · rw [if_pos h1, decide_eq_false (by omega)]
  rw [if_neg h1]
  by_cases h2 : 64 < N
  · rw [if_pos h2, decide_eq_false (by omega)]
  rw [if_neg h2]
  unfold infer_ask_complete.W1
  rw [cloop_suc, infer_ask_complete.L1, if_pos (by decide)]
  show (infer_ask_has (fu + 3) ⟨48, s, [v, lv l], N⟩ 0).bind _ = _
  rw [has_s0, ob_some]
  by_cases h0 : v.fType = 0
  · rw [if_neg (by simp [h0]), decide_eq_false (fun h => h.2.2 h0)]
  · rw [if_pos (by simp [h0]), cloop_suc, show wk .i64 (0 + 1) = 1 from rfl, infer_ask_complete.L1, if_neg (by decide), decide_eq_true ⟨by omega, by omega, h0⟩]
theorem typed_s (h0 : v.fType ≠ 0) (hk : Known v.fType) : infer_ask_typed (fu + 3) ⟨48, s, [v, lv l], N⟩ = some true := by
  obtain ⟨z, hw, hw0⟩ := width_s (fu := fu + 3) hk
  have h : infer_ask_typed (fu + 3) ⟨48, s, [v, lv l], N⟩ = infer_ask_typed.W1 (fu + 3) ⟨48, s, [v, lv l], N⟩ ⟨#[97, 105]⟩ 0 := rfl
  rw [h]
  unfold infer_ask_typed.W1
  rw [cloop_suc, infer_ask_typed.L1, if_pos (by simp)]
  show (infer_ask_has (fu + 3) ⟨48, s, [v, lv l], N⟩ 0).bind _ = _
  rw [has_s0, ob_some, if_pos (by simp [h0])]
  show (infer_ask_val (fu + 3) ⟨48, s, [v, lv l], N⟩ 0).bind _ = _
  rw [val_s0, ob_some, hw, ob_some, if_neg (by omega)]
  show (some 97 : Option Int).bind _ = _
  rw [ob_some]
  have hf : infer_ask_fits (fu + 3) ⟨48, s, [v, lv l], N⟩ 0 97 = (tens_Width (fu + 3) v.fType).bind fun x8 => some (decide (0 < x8)) := rfl
  show (infer_ask_fits (fu + 3) ⟨48, s, [v, lv l], N⟩ 0 97).bind _ = _
  rw [hf, hw, ob_some, ob_some, if_pos (by simpa using hw0), cloop_suc, show wk .i64 (0 + 1) = 1 from rfl, infer_ask_typed.L1, if_pos (by simp)]
  show (infer_ask_has (fu + 3) ⟨48, s, [v, lv l], N⟩ 1).bind _ = _
  rw [has_s1, ob_some, if_pos rfl]
  show (infer_ask_val (fu + 3) ⟨48, s, [v, lv l], N⟩ 1).bind _ = _
  rw [val_s1, ob_some]
  show (some 8 : Option Int).bind _ = _
  rw [ob_some, if_neg (by decide)]
  show (some 105 : Option Int).bind _ = _
  rw [ob_some]
  have hf1 : infer_ask_fits (fu + 3) ⟨48, s, [v, lv l], N⟩ 1 105 = some true := rfl
  show (infer_ask_fits (fu + 3) ⟨48, s, [v, lv l], N⟩ 1 105).bind _ = _
  rw [hf1, ob_some, if_pos rfl, cloop_suc, show wk .i64 (1 + 1) = 2 from rfl, infer_ask_typed.L1, if_neg (by simp)]
  rfl
theorem attr_s (hn : v.fDims.length ≤ 8) : infer_ask_attributes fu ⟨48, s, [v, lv l], N⟩ = some (axisV s.fAxis v.fDims.length).isSome := by
  have h : infer_ask_attributes fu ⟨48, s, [v, lv l], N⟩ = (shape_Axis fu s.fAxis (v.fDims.length : Int)).bind fun x3 => some (decide (x3.2 = 0)) := rfl
  rw [h, Axis_spec (by omega), ob_some]
  cases axisV s.fAxis v.fDims.length <;> rfl
theorem lists_s : infer_ask_lists (fu + 3) ⟨48, s, [v, lv l], N⟩ = some [lv l] := by
  have h : infer_ask_lists (fu + 3) ⟨48, s, [v, lv l], N⟩ = infer_ask_lists.W1 (fu + 3) ⟨48, s, [v, lv l], N⟩ [] 1 := rfl
  rw [h]
  unfold infer_ask_lists.W1
  rw [cloop_suc]
  show infer_ask_lists.L1 (fu + 3) ⟨48, s, [v, lv l], N⟩ _ [] 1 = _
  rw [infer_ask_lists.L1, if_pos (by decide)]
  show (infer_ask_has (fu + 3) ⟨48, s, [v, lv l], N⟩ 1).bind _ = _
  rw [has_s1, ob_some, if_pos rfl]
  show (infer_ask_val (fu + 3) ⟨48, s, [v, lv l], N⟩ 1).bind _ = _
  rw [val_s1, ob_some, chk_pos (by simp), show wk .i64 (1 + 1) = 2 from rfl, cloop_suc]
  show infer_ask_lists.L1 (fu + 3) ⟨48, s, [v, lv l], N⟩ _ [lv l] 2 = _
  rw [infer_ask_lists.L1, if_neg (by decide)]
theorem Equal_spec {fu : Nat} {a b : List Int} (hl : Short a) (hf : a.length < fu) : slices_Equal_int fu a b = some (decide (a = b)) := by
  have h := SameInts_spec (fu := fu) (a := a) (b := b) hl hf
  exact h
theorem cfV {p : T_Val → Option Bool} {q : T_Val → Bool} {k : List T_Val} (hp : ∀ x ∈ k, p x = some (q x)) (hl : k.length ≤ 1000000) (hf : k.length < fu) : slices_ContainsFunc_api_Val_api_Val fu k p = some (k.any q) := by
  unfold slices_ContainsFunc_api_Val_api_Val slices_IndexFunc_api_Val_api_Val slices_IndexFunc_api_Val_api_Val.W1
  exact find_loop hp hl hf (fun nx i => rfl)
theorem cf64 {p : Int → Option Bool} {q : Int → Bool} {k : List Int} (hp : ∀ x ∈ k, p x = some (q x)) (hl : k.length ≤ 1000000) (hf : k.length < fu) : slices_ContainsFunc_int64 fu k p = some (k.any q) := by
  unfold slices_ContainsFunc_int64 slices_IndexFunc_int64 slices_IndexFunc_int64.W1
  exact find_loop hp hl hf (fun nx i => rfl)
theorem cfI {p : Int → Option Bool} {q : Int → Bool} {k : List Int} (hp : ∀ x ∈ k, p x = some (q x)) (hl : k.length ≤ 1000000) (hf : k.length < fu) : slices_ContainsFunc_int fu k p = some (k.any q) := by
  unfold slices_ContainsFunc_int slices_IndexFunc_int slices_IndexFunc_int.W1
  exact find_loop hp hl hf (fun nx i => rfl)
theorem held_l (hl : l.length ≤ 4096) (hf : 5000 < fu) : infer_held fu (lv l) = some true := by
  unfold infer_held
  have hs : Small (lt l) := by unfold Small lt; simp; omega
  have hft : Fuel fu (lt l) := by unfold Fuel lt; simp; omega
  rw [if_pos (show (lv l).fConst = true from rfl), show (lv l).fT = lt l from rfl, Check_spec hs hft, ob_some, lt_check hl, if_pos rfl, if_pos (show (lt l).fType = (lv l).fType from rfl)]
  show (slices_Equal_int fu [(l.length : Int)] [(l.length : Int)]).bind _ = _
  rw [Equal_spec (by unfold Short; simp) (by simp; omega), ob_some]
  simp
theorem told_s (hl : l.length ≤ 4096) (hf : 5000 < fu) : infer_ask_told (fu + 3) ⟨48, s, [v, lv l], N⟩ = some (if l.any (fun n => decide (4096 < n)) = true then 4 else 0) := by
  have h : infer_ask_told (fu + 3) ⟨48, s, [v, lv l], N⟩ = (infer_ask_lists (fu + 3) ⟨48, s, [v, lv l], N⟩).bind fun x2 => (slices_ContainsFunc_api_Val_api_Val (fu + 3) x2 (fun y0 => infer_ask_told_1 (fu + 3) y0)).bind fun x3 => if x3 = true then (some 15) else (slices_ContainsFunc_api_Val_api_Val (fu + 3) x2 (fun y0 => infer_ask_told_2 (fu + 3) y0)).bind fun x4 => if x4 = true then (some 3) else (slices_ContainsFunc_api_Val_api_Val (fu + 3) x2 (fun y0 => infer_ask_told_3 (fu + 3) y0)).bind fun x5 => if x5 = true then (some 4) else some 0 := rfl
  rw [h, lists_s, ob_some, cfV (q := fun _ => false) ?_ (by simp) (by simp), ob_some, if_neg (by simp), cfV (q := fun _ => false) ?_ (by simp) (by simp), ob_some, if_neg (by simp), cfV (q := fun x => x.fT.fI.any fun n => decide (4096 < n)) ?_ (by simp) (by simp), ob_some]
  · simp only [List.any_cons, List.any_nil, Bool.or_false]
    show (if l.any (fun n => decide (4096 < n)) = true then some 4 else some 0) = _
    split <;> rfl
  · intro x hx
    simp only [List.mem_singleton] at hx
    subst hx
    unfold infer_ask_told_3
    rw [cf64 (p := fun y0 => infer_ask_told_3_1 (fu + 3) y0) (q := fun n => decide (4096 < n)) (fun n _ => rfl) (by show l.length ≤ _; omega) (by show l.length < _; omega), ob_some]
  · intro x hx
    simp only [List.mem_singleton] at hx
    subst hx
    rfl
  · intro x hx
    simp only [List.mem_singleton] at hx
    subst hx
    unfold infer_ask_told_1
    rw [held_l hl (by omega), ob_some]; rfl
theorem wrong_s (h0 : v.fType ≠ 0) (hkn : Known v.fType) (hg : Good v.fDims) (hl : l.length ≤ 4096) (hf : 5000 < fu) :
    infer_ask_wrong (fu + 3) ⟨48, s, [v, lv l], N⟩ = some (if (axisV s.fAxis v.fDims.length).isSome = true then (if l.any (fun n => decide (4096 < n)) = true then 4 else 0) else 14) := by
  have h8 := hg.1
  have h : infer_ask_wrong (fu + 3) ⟨48, s, [v, lv l], N⟩ = infer_ask_wrong.W1 (fu + 3) ⟨48, s, [v, lv l], N⟩ 0 := rfl
  rw [h]
  unfold infer_ask_wrong.W1
  rw [cloop_suc, infer_ask_wrong.L1, if_pos (by simp)]
  show (some v).bind _ = _
  rw [ob_some, Size_spec (by unfold Short; omega) (by omega), ob_some]
  show (infer_ask_has (fu + 3) ⟨48, s, [v, lv l], N⟩ 0).bind _ = _
  rw [has_s0, ob_some, if_pos (by simp [h0]), sizeV, if_pos hg, if_pos rfl, cloop_suc, show wk .i64 (0 + 1) = 1 from rfl, infer_ask_wrong.L1, if_pos (by simp)]
  show (some (lv l)).bind _ = _
  rw [ob_some]
  show (shape_Size (fu + 3) [(l.length : Int)]).bind _ = _
  rw [Size_spec (by unfold Short; simp) (by simp), ob_some]
  show (infer_ask_has (fu + 3) ⟨48, s, [v, lv l], N⟩ 1).bind _ = _
  rw [has_s1, ob_some, if_pos rfl, sizeV, if_pos (lt_good hl), if_pos rfl, cloop_suc, show wk .i64 (1 + 1) = 2 from rfl, infer_ask_wrong.L1, if_neg (by simp)]
  have e : infer_ask_wrong.k1 (fu + 3) ⟨48, s, [v, lv l], N⟩ = (infer_ask_typed (fu + 3) ⟨48, s, [v, lv l], N⟩).bind fun x2 => if x2 = true then ((infer_ask_attributes (fu + 3) ⟨48, s, [v, lv l], N⟩).bind fun x3 => if x3 = true then ((infer_ask_told (fu + 3) ⟨48, s, [v, lv l], N⟩).bind fun x4 => some x4) else some 14) else some 5 := rfl
  rw [e, typed_s h0 hkn, ob_some, if_pos rfl, attr_s h8, ob_some]
  by_cases hx : (axisV s.fAxis v.fDims.length).isSome = true
  · rw [if_pos hx, if_pos hx, told_s hl hf, ob_some]
  · rw [if_neg hx, if_neg hx]
theorem numbers_s (hl : l.length ≤ 4096) (hf : 5000 < fu) : infer_ask_numbers fu ⟨48, s, [v, lv l], N⟩ 1 = some l := by
  have h : infer_ask_numbers fu ⟨48, s, [v, lv l], N⟩ 1 = infer_ask_numbers.W1 fu (lv l) [] 0 := rfl
  rw [h]; unfold infer_ask_numbers.W1
  refine (mk_loop (N := l.length) (by omega) (by omega) (E := fun i => at? l i) (e := gI l) (fun k hk => at_gI hk) (c := fun m => some m) (L := infer_ask_numbers.L1 fu (lv l)) (fun nx m i => rfl)).trans ?_
  rw [range_gI]
theorem sA_le {l : List Int} (h : ∀ y ∈ l, y ≤ 4096) : ∀ j, j ≤ l.length → sA l j ≤ 4096 * j
  | 0, _ => by simp [sA_zero]
  | j + 1, hj => by
    have ih := sA_le h j (by omega)
    have := h l[j] (List.getElem_mem _)
    rw [sA_succ (by omega), gI_get (by omega)]; push_cast; omega
theorem split_s {k : Nat} (hg : Good v.fDims) (hk : axisV s.fAxis v.fDims.length = some (k : Int)) (l2 : l.length ≤ 64) (hr : ∀ y ∈ l, y ≤ 4096) (hf : 5000 < fu) :
    infer_ask_split fu ⟨48, s, [v, lv l], (l.length : Int)⟩ = if (l.any fun n => decide (n < 0)) = true then some ([], 3) else if sumI l = gI v.fDims k then some ((List.range l.length).map (dP v.fDims l k), 0) else some ([], 3) := by
  have h8 := hg.1
  have hkl := axisV_rng hk
  have h : infer_ask_split fu ⟨48, s, [v, lv l], (l.length : Int)⟩ = ((shape_Axis fu s.fAxis (v.fDims.length : Int)).bind fun x3 => some x3.1).bind fun x3 => (infer_ask_numbers fu ⟨48, s, [v, lv l], (l.length : Int)⟩ 1).bind fun x4 => infer_ask_split.k1 fu ⟨48, s, [v, lv l], (l.length : Int)⟩ v.fDims x3 x4 := rfl
  rw [h, Axis_spec (by omega), hk, ob_some, ob_some, numbers_s (by omega) hf, ob_some]
  unfold infer_ask_split.k1 jn
  rw [if_pos rfl]
  unfold infer_below
  rw [cfI (p := fun y0 => infer_below_1 fu y0 0) (q := fun n => decide (n < 0)) (fun n _ => rfl) (by omega) (by omega), ob_some, ob_some]
  by_cases hn : (l.any fun n => decide (n < 0)) = true
  · rw [if_pos hn, if_pos hn]; rfl
  rw [if_neg hn, if_neg hn]
  have hnn : ∀ y ∈ l, 0 ≤ y := fun y hy => by
    by_cases h : y < 0
    · exact absurd (List.any_eq_true.2 ⟨y, hy, by simpa using h⟩) hn
    · omega
  show infer_ask_split.k2 fu v.fDims (k : Int) l = _
  unfold infer_ask_split.k2 jn infer_ask_split.W1
  have hz : (([] : List (List Int)), (0 : Int), (0 : Int)) = (fun j : Nat => ((List.range j).map (dP v.fDims l k), sA l j, (j : Int))) 0 := rfl
  rw [hz]
  refine cloop_to l.length (fun j : Nat => ((List.range j).map (dP v.fDims l k), sA l j, (j : Int))) _ ?_ ?_ (by omega)
  · intro j hj next hnx
    show infer_ask_split.L1 fu v.fDims (k : Int) l (fun a b c => next (a, b, c)) ((List.range j).map (dP v.fDims l k)) (sA l j) (j : Int) = _
    have q1 := sA_le hr j (by omega)
    have q2 := sA_nn hnn j (by omega)
    have q3 := hr l[j] (List.getElem_mem hj)
    have q4 := hnn l[j] (List.getElem_mem hj)
    rw [← gI_get hj] at q3 q4
    rw [infer_ask_split.L1, if_pos (by omega), at_gI hj, ob_some, Clone_spec (by omega), ob_some, chk_pos (by omega), chk_pos (by simp; omega), Int.toNat_natCast, wk_eq (x := sA l j + gI l j) (by omega) (by omega), wk_succ (by omega), ← hnx, List.range_succ, List.map_append, sA_succ hj]
    rfl
  · intro next
    show infer_ask_split.L1 fu v.fDims (k : Int) l (fun a b c => next (a, b, c)) ((List.range l.length).map (dP v.fDims l k)) (sA l l.length) (l.length : Int) = _
    rw [infer_ask_split.L1, if_neg (by omega)]
    unfold infer_ask_split.k3
    rw [at_gI (by omega), ob_some, sA_all]
    split <;> rfl
theorem out_s {ds : List (List Int)} (hd : ∀ d ∈ ds, Good d) (hl : ds.length ≤ 64) (hf : 200 < fu) : infer_Node.W1 fu s [v, lv l] N (ds, 0) [] 0 = some (ds.map (outV v.fType), 0) := by
  unfold infer_Node.W1
  have hz : (([] : List T_Val), (0 : Int)) = (fun j : Nat => ((ds.take j).map (outV v.fType), (j : Int))) 0 := rfl
  rw [hz]
  refine cloop_to ds.length (fun j : Nat => ((ds.take j).map (outV v.fType), (j : Int))) _ ?_ ?_ (by omega)
  · intro j hj next hnx
    show infer_Node.L1 fu s [v, lv l] N (ds, 0) (fun a b => next (a, b)) ((ds.take j).map (outV v.fType)) (j : Int) = _
    have hg := hd ds[j] (List.getElem_mem hj)
    have h8 := hg.1
    have hgt : at? ds (j : Int) = some ds[j] := at?_get hj
    have ho : infer_ask_out fu (T_infer_ask.mk 48 s [v, lv l] N) = some v.fType := rfl
    rw [infer_Node.L1, if_pos (show (j : Int) < (ds.length : Int) by omega), hgt, ob_some, Size_spec (by unfold Short; omega) (by omega), ob_some, sizeV, if_pos hg, if_pos rfl, ho, ob_some, Clone_spec (by omega), ob_some, chk_pos (by simp; omega), wk_succ (by omega), ← hnx, List.take_succ_eq_append_getElem hj, List.map_append]
    rfl
  · intro next
    show infer_Node.L1 fu s [v, lv l] N (ds, 0) (fun a b => next (a, b)) ((ds.take ds.length).map (outV v.fType)) (ds.length : Int) = _
    rw [infer_Node.L1, if_neg (show ¬ (ds.length : Int) < (ds.length : Int) by omega), List.take_length]
theorem Node_s : infer_Node (fu + 3) 48 s [v, lv l] N = (infer_ask_complete (fu + 3) ⟨48, s, [v, lv l], N⟩).bind fun x5 => if x5 = true then ((infer_ask_wrong (fu + 3) ⟨48, s, [v, lv l], N⟩).bind fun x6 => if x6 = 0 then
    ((((infer_ask_split (fu + 3) ⟨48, s, [v, lv l], N⟩).bind fun x3 => some (x3.1, x3.2)).bind fun x3 => some (x3.1, x3.2)).bind fun x7 => if x7.2 = 0 then (infer_Node.W1 (fu + 3) s [v, lv l] N x7 ([] : List T_Val) 0) else some ([], x7.2)) else some ([], x6)) else some ([], 1) := rfl
theorem Node_s_ok {k : Nat} (h0 : v.fType ≠ 0) (hkn : Known v.fType) (hk : axisV s.fAxis v.fDims.length = some (k : Int)) (h : SpOK v.fDims l k) (hf : 6000 < fu) :
    infer_Node (fu + 3) 48 s [v, lv l] (l.length : Int) = some (((List.range l.length).map (dP v.fDims l k)).map (outV v.fType), 0) := by
  have l1 := h.l1
  have l2 := h.l2
  have hr : ∀ y ∈ l, y ≤ 4096 := fun y hy => by
    obtain ⟨j, hj, rfl⟩ := List.getElem_of_mem hy
    have := h.row hj
    rw [← gI_get hj]; omega
  have hbig : ¬ (l.any fun n => decide (4096 < n)) = true := fun hb => by
    obtain ⟨x, hx, hx2⟩ := List.any_eq_true.1 hb
    have := hr x hx
    simp at hx2
    omega
  have hneg : ¬ (l.any fun n => decide (n < 0)) = true := fun hb => by
    obtain ⟨x, hx, hx2⟩ := List.any_eq_true.1 hb
    have := h.nn x hx
    simp at hx2
    omega
  rw [Node_s, complete_s, ob_some, if_pos (by simp; omega), wrong_s h0 hkn h.gd (by omega) (by omega), if_pos (by rw [hk]; rfl), if_neg hbig, ob_some, if_pos rfl, split_s h.gd hk l2 hr (by omega), if_neg hneg, if_pos h.sum, ob_some, ob_some, ob_some, if_pos rfl, out_s (fun d hd => by
    obtain ⟨j, hj, rfl⟩ := List.mem_map.1 hd
    exact h.good (List.mem_range.1 hj)) (by simp; omega) (by omega)]
theorem Node_s_bad (hkn : v.fType ≠ 0 → Known v.fType ∧ Good v.fDims) (hl : l.length ≤ 4096) (hn : ¬ (v.fType ≠ 0 ∧ ∃ k : Nat, axisV s.fAxis v.fDims.length = some (k : Int) ∧ SpOK v.fDims l k)) (hf : 6000 < fu) :
    ∃ e, e ≠ 0 ∧ infer_Node (fu + 3) 48 s [v, lv l] (l.length : Int) = some ([], e) := by
  by_cases hc : 1 ≤ (l.length : Int) ∧ (l.length : Int) ≤ 64 ∧ v.fType ≠ 0
  · obtain ⟨hk, hg⟩ := hkn hc.2.2
    rw [Node_s, complete_s, ob_some, if_pos (decide_eq_true hc), wrong_s hc.2.2 hk hg hl (by omega), ob_some]
    by_cases hx : (axisV s.fAxis v.fDims.length).isSome = true
    · obtain ⟨a, ha⟩ := Option.isSome_iff_exists.1 hx
      have hr := axisV_rng ha
      obtain ⟨k, rfl⟩ := Int.eq_ofNat_of_zero_le hr.1
      rw [if_pos hx]
      by_cases hb : (l.any fun n => decide (4096 < n)) = true
      · rw [if_pos hb]; exact ⟨4, by decide, rfl⟩
      rw [if_neg hb, if_pos rfl, split_s hg ha (by omega) (fun y hy => by
        by_cases h : y ≤ 4096
        · exact h
        · exact absurd (List.any_eq_true.2 ⟨y, hy, by simp; omega⟩) hb) (by omega)]
      by_cases hb2 : (l.any fun n => decide (n < 0)) = true
      · rw [if_pos hb2]; exact ⟨3, by decide, rfl⟩
      rw [if_neg hb2]
      by_cases hs : sumI l = gI v.fDims k
      · exact absurd ⟨hc.2.2, k, ha, hg, by omega, fun y hy => by
          by_cases h : y < 0
          · exact absurd (List.any_eq_true.2 ⟨y, hy, by simpa using h⟩) hb2
          · omega, hs, by omega, by omega⟩ hn
      · rw [if_neg hs]; exact ⟨3, by decide, rfl⟩
    · rw [if_neg hx]; exact ⟨14, by decide, rfl⟩
  · rw [Node_s, complete_s, ob_some, if_neg (by rw [decide_eq_false hc]; decide)]
    exact ⟨1, by decide, rfl⟩
end
end Go.Av
set_option linter.unusedVariables false
namespace Go.Av
def vC (ty : Int) (d l : List Int) (k : Nat) (p : Nat → T_Tensor) (j : Nat) : T_Val := ⟨ty, dP d l k j, true, p j⟩
def vsC (ty : Int) (d l : List Int) (k : Nat) (p : Nat → T_Tensor) : List T_Val := (List.range l.length).map (vC ty d l k p)
section
variable {fu : Nat} {s : T_Setting} {ty : Int} {d l : List Int} {k : Nat} {p : Nat → T_Tensor}
theorem vsC_len : (vsC ty d l k p).length = l.length := by simp [vsC]
theorem vsC_at {j : Nat} (hj : j < l.length) : at? (vsC ty d l k p) (j : Int) = some (vC ty d l k p j) := by
  rw [at?_get (by rw [vsC_len]; exact hj)]
  simp [vsC]
theorem val_c {j : Nat} (hj : j < l.length) : infer_ask_val fu ⟨47, s, vsC ty d l k p, 1⟩ (j : Int) = some (vC ty d l k p j) := by
  have h : infer_ask_val fu ⟨47, s, vsC ty d l k p, 1⟩ (j : Int) = if (j : Int) < ((vsC ty d l k p).length : Int) then ((at? (vsC ty d l k p) (j : Int)).bind fun x4 => some x4) else some (T_Val.mk 0 ([]) false (T_Tensor.mk 0 ([]) ([]) ([]) ([]))) := rfl
  rw [h, if_pos (by rw [vsC_len]; omega), vsC_at hj, ob_some]
theorem has_c {j : Nat} (hj : j < l.length) (h0 : ty ≠ 0) : infer_ask_has fu ⟨47, s, vsC ty d l k p, 1⟩ (j : Int) = some true := by
  have h : infer_ask_has fu ⟨47, s, vsC ty d l k p, 1⟩ (j : Int) = (infer_ask_val fu ⟨47, s, vsC ty d l k p, 1⟩ (j : Int)).bind fun x4 => some (!(decide (x4.fType = 0))) := rfl
  rw [h, val_c hj, ob_some]
  have : (vC ty d l k p j).fType = ty := rfl
  rw [this, decide_eq_false h0]; rfl
theorem dims_c {j : Nat} (hj : j < l.length) : infer_ask_dims fu ⟨47, s, vsC ty d l k p, 1⟩ (j : Int) = some (dP d l k j) := by
  have h : infer_ask_dims fu ⟨47, s, vsC ty d l k p, 1⟩ (j : Int) = (infer_ask_val fu ⟨47, s, vsC ty d l k p, 1⟩ (j : Int)).bind fun x4 => some x4.fDims := rfl
  rw [h, val_c hj, ob_some]
  rfl
theorem complete_c (h0 : ty ≠ 0) (l1 : 1 ≤ l.length) (l2 : l.length ≤ 64) : infer_ask_complete (fu + 3) ⟨47, s, vsC ty d l k p, 1⟩ = some true := by
  have h : infer_ask_complete (fu + 3) ⟨47, s, vsC ty d l k p, 1⟩ = if (1 : Int) = 0 then (some false) else if ((vsC ty d l k p).length : Int) < 1 then some false else if 64 < ((vsC ty d l k p).length : Int) then some false else if (1 : Int) < 1 then some false else if (1 : Int) < 1 then some false else infer_ask_complete.W2 (fu + 3) ⟨47, s, vsC ty d l k p, 1⟩ (1, 64, 1, 1) 0 := rfl
  rw [h, vsC_len, if_neg (by decide), if_neg (by omega), if_neg (by omega), if_neg (by decide), if_neg (by decide)]
  unfold infer_ask_complete.W2
  rw [cloop_suc, infer_ask_complete.L2, if_pos (by decide)]
  have h1 : infer_ask_has (fu + 3) ⟨47, s, vsC ty d l k p, 1⟩ 0 = some true := has_c (j := 0) (by omega) h0
  show (infer_ask_has (fu + 3) ⟨47, s, vsC ty d l k p, 1⟩ 0).bind _ = _
  rw [h1, ob_some, if_pos rfl, cloop_suc, show wk .i64 (0 + 1) = 1 from rfl, infer_ask_complete.L2, if_neg (by decide)]
theorem typed_c (h0 : ty ≠ 0) (hk : Known ty) (l1 : 1 ≤ l.length) (l2 : l.length ≤ 64) (hf : 200 < fu) : infer_ask_typed fu ⟨47, s, vsC ty d l k p, 1⟩ = some true := by
  obtain ⟨z, hw, hw0⟩ := width_s (fu := fu) hk
  have h : infer_ask_typed fu ⟨47, s, vsC ty d l k p, 1⟩ = infer_ask_typed.W2 fu ⟨47, s, vsC ty d l k p, 1⟩ ⟨#[97, 61]⟩ 0 := rfl
  rw [h]
  unfold infer_ask_typed.W2
  have hz : (0 : Int) = (fun j : Nat => (j : Int)) 0 := rfl
  conv => lhs; arg 3; rw [hz]
  refine cloop_to l.length (fun j : Nat => (j : Int)) _ ?_ ?_ (by omega)
  · intro j hj next hn
    show infer_ask_typed.L2 fu ⟨47, s, vsC ty d l k p, 1⟩ ⟨#[97, 61]⟩ (fun a => next a) (j : Int) = _
    have ht : (vC ty d l k p j).fType = ty := rfl
    rw [infer_ask_typed.L2, if_pos (show (j : Int) < ((vsC ty d l k p).length : Int) by rw [vsC_len]; omega)]
    show (infer_ask_has fu ⟨47, s, vsC ty d l k p, 1⟩ (j : Int)).bind _ = _
    rw [has_c hj h0, ob_some, if_pos rfl]
    show (infer_ask_val fu ⟨47, s, vsC ty d l k p, 1⟩ (j : Int)).bind _ = _
    rw [val_c hj, ob_some, ht, hw, ob_some, if_neg (by omega), wk_succ (by omega)]
    by_cases e : j = 0
    · subst e
      show (some 97 : Option Int).bind _ = _
      have hf : infer_ask_fits fu ⟨47, s, vsC ty d l k p, 1⟩ ((0 : Nat) : Int) 97 = (infer_ask_val fu ⟨47, s, vsC ty d l k p, 1⟩ ((0 : Nat) : Int)).bind fun x9 => (tens_Width fu x9.fType).bind fun x8 => some (decide (0 < x8)) := rfl
      rw [ob_some]
      show (infer_ask_fits fu ⟨47, s, vsC ty d l k p, 1⟩ ((0 : Nat) : Int) 97).bind _ = _
      rw [hf, val_c hj, ob_some, ht, hw, ob_some, ob_some, if_pos (by simpa using hw0)]
      exact hn
    · have hm : imin (j : Int) (wk .i64 (2 - 1)) = 1 := by
        show imin (j : Int) 1 = 1
        unfold imin; split <;> omega
      show (sat? ⟨#[97, 61]⟩ (imin (j : Int) (wk .i64 (2 - 1)))).bind _ = _
      rw [hm]
      show (some 61 : Option Int).bind _ = _
      have hf : infer_ask_fits fu ⟨47, s, vsC ty d l k p, 1⟩ (j : Int) 61 = (infer_ask_val fu ⟨47, s, vsC ty d l k p, 1⟩ (j : Int)).bind fun x9 => (infer_ask_val fu ⟨47, s, vsC ty d l k p, 1⟩ ((0 : Nat) : Int)).bind fun x11 => some (decide (x9.fType = x11.fType)) := rfl
      rw [ob_some]
      show (infer_ask_fits fu ⟨47, s, vsC ty d l k p, 1⟩ (j : Int) 61).bind _ = _
      rw [hf, val_c hj, ob_some, val_c (j := 0) (by omega), ob_some, ob_some, if_pos (by simp [vC])]
      exact hn
  · intro next
    show infer_ask_typed.L2 fu ⟨47, s, vsC ty d l k p, 1⟩ ⟨#[97, 61]⟩ (fun a => next a) (l.length : Int) = _
    rw [infer_ask_typed.L2, if_neg (show ¬ (l.length : Int) < ((vsC ty d l k p).length : Int) by rw [vsC_len]; omega)]
    rfl
theorem attr_c (h : SpOK d l k) (hk : axisV s.fAxis d.length = some (k : Int)) : infer_ask_attributes fu ⟨47, s, vsC ty d l k p, 1⟩ = some true := by
  have l1 := h.l1
  have h8 := h.gd.1
  have e : infer_ask_attributes fu ⟨47, s, vsC ty d l k p, 1⟩ = ((infer_ask_dims fu ⟨47, s, vsC ty d l k p, 1⟩ ((0 : Nat) : Int)).bind fun x3 => some (x3.length : Int)).bind fun x2 => (shape_Axis fu s.fAxis x2).bind fun x3 => some (decide (x3.2 = 0)) := rfl
  rw [e, dims_c (by omega), ob_some, ob_some, dP_len, Axis_spec (by omega), hk, ob_some]
  rfl
theorem wrong_c (h0 : ty ≠ 0) (hkn : Known ty) (h : SpOK d l k) (hk : axisV s.fAxis d.length = some (k : Int)) (hf : 200 < fu) : infer_ask_wrong (fu + 3) ⟨47, s, vsC ty d l k p, 1⟩ = some 0 := by
  have l1 := h.l1
  have l2 := h.l2
  have h8 := h.gd.1
  have e0 : infer_ask_wrong (fu + 3) ⟨47, s, vsC ty d l k p, 1⟩ = infer_ask_wrong.W2 (fu + 3) ⟨47, s, vsC ty d l k p, 1⟩ 0 := rfl
  rw [e0]
  unfold infer_ask_wrong.W2
  have hz : (0 : Int) = (fun j : Nat => (j : Int)) 0 := rfl
  conv => lhs; arg 3; rw [hz]
  refine cloop_to l.length (fun j : Nat => (j : Int)) _ ?_ ?_ (by omega)
  · intro j hj next hn
    show infer_ask_wrong.L2 (fu + 3) ⟨47, s, vsC ty d l k p, 1⟩ (fun a => next a) (j : Int) = _
    have hg := h.good hj
    have hg8 := hg.1
    rw [infer_ask_wrong.L2, if_pos (show (j : Int) < ((vsC ty d l k p).length : Int) by rw [vsC_len]; omega)]
    show (at? (vsC ty d l k p) (j : Int)).bind _ = _
    rw [vsC_at hj, ob_some]
    show (shape_Size (fu + 3) (dP d l k j)).bind _ = _
    rw [Size_spec (by unfold Short; omega) (by omega), ob_some]
    show (infer_ask_has (fu + 3) ⟨47, s, vsC ty d l k p, 1⟩ (j : Int)).bind _ = _
    rw [has_c hj h0, ob_some, if_pos rfl, sizeV, if_pos hg, if_pos rfl, wk_succ (by omega)]
    exact hn
  · intro next
    show infer_ask_wrong.L2 (fu + 3) ⟨47, s, vsC ty d l k p, 1⟩ (fun a => next a) (l.length : Int) = _
    rw [infer_ask_wrong.L2, if_neg (show ¬ (l.length : Int) < ((vsC ty d l k p).length : Int) by rw [vsC_len]; omega)]
    have e : infer_ask_wrong.k2 (fu + 3) ⟨47, s, vsC ty d l k p, 1⟩ = (infer_ask_typed (fu + 3) ⟨47, s, vsC ty d l k p, 1⟩).bind fun x2 => if x2 = true then ((infer_ask_attributes (fu + 3) ⟨47, s, vsC ty d l k p, 1⟩).bind fun x3 => if x3 = true then ((infer_ask_told (fu + 3) ⟨47, s, vsC ty d l k p, 1⟩).bind fun x4 => some x4) else some 14) else some 5 := rfl
    rw [e, typed_c h0 hkn l1 l2 (by omega), ob_some, if_pos rfl, attr_c h hk, ob_some, if_pos rfl]
    rfl
theorem concat_c (h : SpOK d l k) (hk : axisV s.fAxis d.length = some (k : Int)) (hf : 200 < fu) : infer_ask_concat fu ⟨47, s, vsC ty d l k p, 1⟩ = some ([d], 0) := by
  have l1 := h.l1
  have l2 := h.l2
  have h8 := h.gd.1
  have hkl := h.hk
  have e : infer_ask_concat fu ⟨47, s, vsC ty d l k p, 1⟩ = (infer_ask_dims fu ⟨47, s, vsC ty d l k p, 1⟩ ((0 : Nat) : Int)).bind fun x2 => (slices_Clone_int fu x2).bind fun x3 => (((infer_ask_dims fu ⟨47, s, vsC ty d l k p, 1⟩ ((0 : Nat) : Int)).bind fun x3 => some (x3.length : Int)).bind fun x2 => (shape_Axis fu s.fAxis x2).bind fun x3 => some x3.1).bind fun x4 => infer_ask_concat.W1 fu ⟨47, s, vsC ty d l k p, 1⟩ x4 x3 1 := rfl
  rw [e, dims_c (by omega), ob_some, Clone_spec (by rw [dP_len]; omega), ob_some, ob_some, ob_some, dP_len, Axis_spec (by omega), hk, ob_some, ob_some]
  show infer_ask_concat.W1 fu ⟨47, s, vsC ty d l k p, 1⟩ (k : Int) (dP d l k 0) 1 = _
  unfold infer_ask_concat.W1
  have hz : (dP d l k 0, (1 : Int)) = (fun i : Nat => (d.set k (sA l (i + 1)), ((i + 1 : Nat) : Int))) 0 := by
    show _ = (d.set k (sA l 1), (1 : Int))
    rw [sA_succ (by omega), sA_zero, Int.zero_add]
    rfl
  rw [hz]
  refine cloop_to (l.length - 1) (fun i : Nat => (d.set k (sA l (i + 1)), ((i + 1 : Nat) : Int))) _ ?_ ?_ (by omega)
  · intro i hi next hn
    show infer_ask_concat.L1 fu ⟨47, s, vsC ty d l k p, 1⟩ (k : Int) (fun a b => next (a, b)) (d.set k (sA l (i + 1))) ((i + 1 : Nat) : Int) = _
    obtain ⟨r1, r2, r3, r4⟩ := h.row (j := i + 1) (by omega)
    rw [infer_ask_concat.L1, if_pos (show ((i + 1 : Nat) : Int) < ((vsC ty d l k p).length : Int) by rw [vsC_len]; omega)]
    show (infer_ask_dims fu ⟨47, s, vsC ty d l k p, 1⟩ ((i + 1 : Nat) : Int)).bind _ = _
    have ls : (d.set k (sA l (i + 1))).length = d.length := by simp
    rw [dims_c (by omega), ob_some, Clone_spec (by rw [dP_len]; omega), ob_some, if_pos (by rw [dP_len, ls]), at_gI (by rw [dP_len]; exact hkl), ob_some, at_gI (by rw [ls]; exact hkl), ob_some, chk_pos (by rw [dP_len]; omega), Int.toNat_natCast]
    have e1 : (dP d l k (i + 1)).set k (gI (d.set k (sA l (i + 1))) k) = d.set k (sA l (i + 1)) := by
      unfold dP
      rw [List.set_set, gI_set hkl, if_pos rfl]
    have e2 : gI (d.set k (sA l (i + 1))) k = sA l (i + 1) := by rw [gI_set hkl, if_pos rfl]
    have e3 : gI (dP d l k (i + 1)) k = gI l (i + 1) := by rw [dP_at hkl, if_pos rfl]
    rw [e1, Equal_spec (by unfold Short; omega) (by omega), ob_some, if_pos (by simp), chk_pos (by omega), e2, e3, List.set_set, wk_eq (x := sA l (i + 1) + gI l (i + 1)) (by omega) (by omega), wk_succ (by omega), ← sA_succ (by omega)]
    exact hn
  · intro next
    show infer_ask_concat.L1 fu ⟨47, s, vsC ty d l k p, 1⟩ (k : Int) (fun a b => next (a, b)) (d.set k (sA l (l.length - 1 + 1))) ((l.length - 1 + 1 : Nat) : Int) = _
    rw [infer_ask_concat.L1, if_neg (show ¬ ((l.length - 1 + 1 : Nat) : Int) < ((vsC ty d l k p).length : Int) by rw [vsC_len]; omega), show l.length - 1 + 1 = l.length by omega, sA_all, h.sum, set_gI hkl]
    rfl
theorem Node_c (h0 : ty ≠ 0) (hkn : Known ty) (h : SpOK d l k) (hk : axisV s.fAxis d.length = some (k : Int)) (hf : 6000 < fu) :
    infer_Node (fu + 3) 47 s (vsC ty d l k p) 1 = some ([outV ty d], 0) := by
  have l1 := h.l1
  have l2 := h.l2
  have h8 := h.gd.1
  have e : infer_Node (fu + 3) 47 s (vsC ty d l k p) 1 = (infer_ask_complete (fu + 3) ⟨47, s, vsC ty d l k p, 1⟩).bind fun x5 => if x5 = true then ((infer_ask_wrong (fu + 3) ⟨47, s, vsC ty d l k p, 1⟩).bind fun x6 => if x6 = 0 then
    ((infer_ask_dims (fu + 3) ⟨47, s, vsC ty d l k p, 1⟩ ((0 : Nat) : Int)).bind fun _ => ((infer_ask_dims (fu + 3) ⟨47, s, vsC ty d l k p, 1⟩ ((0 : Nat) : Int)).bind fun _ => (infer_ask_concat (fu + 3) ⟨47, s, vsC ty d l k p, 1⟩).bind fun x3 => some (x3.1, x3.2)).bind fun x3 => some (x3.1, x3.2)).bind fun x7 => if x7.2 = 0 then (infer_Node.W2 (fu + 3) s (vsC ty d l k p) 1 x7 ([] : List T_Val) 0) else some ([], x7.2) else some ([], x6)) else some ([], 1) := rfl
  rw [e, complete_c h0 l1 l2, ob_some, if_pos rfl, wrong_c h0 hkn h hk (by omega), ob_some, if_pos rfl, dims_c (by omega), ob_some, ob_some, concat_c h hk (by omega), ob_some, ob_some, ob_some, if_pos rfl]
  unfold infer_Node.W2
  rw [cloop_suc]
  show infer_Node.L2 (fu + 3) s (vsC ty d l k p) 1 ([d], 0) _ [] 0 = _
  rw [infer_Node.L2, if_pos (show (0 : Int) < ((([d], 0) : List (List Int) × Int).1.length : Int) by simp)]
  show (some d).bind _ = _
  rw [ob_some, Size_spec (by unfold Short; omega) (by omega), ob_some]
  have ho : infer_ask_out (fu + 3) (T_infer_ask.mk 47 s (vsC ty d l k p) 1) = (infer_ask_val (fu + 3) ⟨47, s, vsC ty d l k p, 1⟩ ((0 : Nat) : Int)).bind fun x3 => some x3.fType := rfl
  rw [sizeV, if_pos h.gd, if_pos rfl, ho, val_c (by omega), ob_some, ob_some, Clone_spec (by omega), ob_some, chk_pos (by simp), cloop_suc]
  rfl
end
end Go.Av
set_option linter.unusedVariables false
namespace Go.Av
theorem cat_uint32 {fu : Nat} {a b : List Int} (hl : a.length + b.length ≤ 1000000) : moves_joined_uint32 (fu + 4) [a, b] = some (a ++ b) := by
  have w0 : wk .i64 (0 + 1) = 1 := rfl
  have w1 : wk .i64 (1 + 1) = 2 := rfl
  have g0 : at? [a, b] 0 = some a := rfl
  have g1 : at? [a, b] 1 = some b := rfl
  have hW1 : slices_Concat_uint32.W1 (fu + 4) [a, b] [] 0 = some (a ++ b) := by
    unfold slices_Concat_uint32.W1
    rw [cloop_suc]
    show slices_Concat_uint32.L1 (fu + 4) [a, b] _ [] 0 = _
    rw [slices_Concat_uint32.L1, if_pos (by simp), g0, ob_some, chk_pos (by simp; omega), w0, cloop_suc]
    show slices_Concat_uint32.L1 (fu + 4) [a, b] _ ([] ++ a) 1 = _
    rw [slices_Concat_uint32.L1, if_pos (by simp), g1, ob_some, chk_pos (by simp; omega), w1, cloop_suc]
    show slices_Concat_uint32.L1 (fu + 4) [a, b] _ ([] ++ a ++ b) 2 = _
    rw [slices_Concat_uint32.L1, if_neg (by simp), List.nil_append]
  have hW2 : slices_Concat_uint32.W2 (fu + 4) [a, b] [] 0 = some (a ++ b) := by
    unfold slices_Concat_uint32.W2
    rw [cloop_suc]
    show slices_Concat_uint32.L2 (fu + 4) [a, b] _ [] 0 = _
    rw [slices_Concat_uint32.L2, if_pos (by simp), g0, ob_some, chk_pos (by simp; omega), w0, cloop_suc]
    show slices_Concat_uint32.L2 (fu + 4) [a, b] _ ([] ++ a) 1 = _
    rw [slices_Concat_uint32.L2, if_pos (by simp), g1, ob_some, chk_pos (by simp; omega), w1, cloop_suc]
    show slices_Concat_uint32.L2 (fu + 4) [a, b] _ ([] ++ a ++ b) 2 = _
    rw [slices_Concat_uint32.L2, if_neg (by simp), List.nil_append]
  have hk : ∀ n : Nat, n ≤ 1000000 → slices_Concat_uint32.k1 (fu + 4) [a, b] (n : Int) = some (a ++ b) := fun n hn => by
    unfold slices_Concat_uint32.k1 jn
    rw [if_neg (by omega)]
    unfold slices_Concat_uint32.k2
    have e0 : wk .i64 (0 - 0) = 0 := rfl
    have e00 : wk .i64 0 = 0 := rfl
    rw [e00, wk_eq (x := (n : Int) - 0) (by omega) (by omega)]
    by_cases h : 0 < (n : Int) - 0
    · rw [if_pos h, chk_pos (by omega), chk_pos (by omega), hW1]
    · rw [if_neg h, hW2]
  unfold moves_joined_uint32 slices_Concat_uint32 jn slices_Concat_uint32.W3
  rw [cloop_suc]
  have e1 : wk .i64 (0 + (a.length : Int)) = (a.length : Int) := by rw [wk_eq (by omega) (by omega)]; omega
  have e2 : wk .i64 ((a.length : Int) + (b.length : Int)) = ((a.length + b.length : Nat) : Int) := by rw [wk_eq (by omega) (by omega)]; omega
  show (slices_Concat_uint32.L3 (fu + 4) [a, b] _ 0 0).bind _ = _
  rw [slices_Concat_uint32.L3, if_pos (by simp), g0, ob_some, e1, if_neg (by omega), w0, cloop_suc]
  show (slices_Concat_uint32.L3 (fu + 4) [a, b] _ (a.length : Int) 1).bind _ = _
  rw [slices_Concat_uint32.L3, if_pos (by simp), g1, ob_some, e2, if_neg (by omega), w1, cloop_suc]
  show (slices_Concat_uint32.L3 (fu + 4) [a, b] _ ((a.length + b.length : Nat) : Int) 2).bind _ = _
  rw [slices_Concat_uint32.L3, if_neg (by simp), hk _ (by omega), ob_some]
theorem cat_int64 {fu : Nat} {a b : List Int} (hl : a.length + b.length ≤ 1000000) : moves_joined_int64 (fu + 4) [a, b] = some (a ++ b) := by
  have w0 : wk .i64 (0 + 1) = 1 := rfl
  have w1 : wk .i64 (1 + 1) = 2 := rfl
  have g0 : at? [a, b] 0 = some a := rfl
  have g1 : at? [a, b] 1 = some b := rfl
  have hW1 : slices_Concat_int64.W1 (fu + 4) [a, b] [] 0 = some (a ++ b) := by
    unfold slices_Concat_int64.W1
    rw [cloop_suc]
    show slices_Concat_int64.L1 (fu + 4) [a, b] _ [] 0 = _
    rw [slices_Concat_int64.L1, if_pos (by simp), g0, ob_some, chk_pos (by simp; omega), w0, cloop_suc]
    show slices_Concat_int64.L1 (fu + 4) [a, b] _ ([] ++ a) 1 = _
    rw [slices_Concat_int64.L1, if_pos (by simp), g1, ob_some, chk_pos (by simp; omega), w1, cloop_suc]
    show slices_Concat_int64.L1 (fu + 4) [a, b] _ ([] ++ a ++ b) 2 = _
    rw [slices_Concat_int64.L1, if_neg (by simp), List.nil_append]
  have hW2 : slices_Concat_int64.W2 (fu + 4) [a, b] [] 0 = some (a ++ b) := by
    unfold slices_Concat_int64.W2
    rw [cloop_suc]
    show slices_Concat_int64.L2 (fu + 4) [a, b] _ [] 0 = _
    rw [slices_Concat_int64.L2, if_pos (by simp), g0, ob_some, chk_pos (by simp; omega), w0, cloop_suc]
    show slices_Concat_int64.L2 (fu + 4) [a, b] _ ([] ++ a) 1 = _
    rw [slices_Concat_int64.L2, if_pos (by simp), g1, ob_some, chk_pos (by simp; omega), w1, cloop_suc]
    show slices_Concat_int64.L2 (fu + 4) [a, b] _ ([] ++ a ++ b) 2 = _
    rw [slices_Concat_int64.L2, if_neg (by simp), List.nil_append]
  have hk : ∀ n : Nat, n ≤ 1000000 → slices_Concat_int64.k1 (fu + 4) [a, b] (n : Int) = some (a ++ b) := fun n hn => by
    unfold slices_Concat_int64.k1 jn
    rw [if_neg (by omega)]
    unfold slices_Concat_int64.k2
    have e0 : wk .i64 (0 - 0) = 0 := rfl
    have e00 : wk .i64 0 = 0 := rfl
    rw [e00, wk_eq (x := (n : Int) - 0) (by omega) (by omega)]
    by_cases h : 0 < (n : Int) - 0
    · rw [if_pos h, chk_pos (by omega), chk_pos (by omega), hW1]
    · rw [if_neg h, hW2]
  unfold moves_joined_int64 slices_Concat_int64 jn slices_Concat_int64.W3
  rw [cloop_suc]
  have e1 : wk .i64 (0 + (a.length : Int)) = (a.length : Int) := by rw [wk_eq (by omega) (by omega)]; omega
  have e2 : wk .i64 ((a.length : Int) + (b.length : Int)) = ((a.length + b.length : Nat) : Int) := by rw [wk_eq (by omega) (by omega)]; omega
  show (slices_Concat_int64.L3 (fu + 4) [a, b] _ 0 0).bind _ = _
  rw [slices_Concat_int64.L3, if_pos (by simp), g0, ob_some, e1, if_neg (by omega), w0, cloop_suc]
  show (slices_Concat_int64.L3 (fu + 4) [a, b] _ (a.length : Int) 1).bind _ = _
  rw [slices_Concat_int64.L3, if_pos (by simp), g1, ob_some, e2, if_neg (by omega), w1, cloop_suc]
  show (slices_Concat_int64.L3 (fu + 4) [a, b] _ ((a.length + b.length : Nat) : Int) 2).bind _ = _
  rw [slices_Concat_int64.L3, if_neg (by simp), hk _ (by omega), ob_some]
theorem cat_bool {fu : Nat} {a b : List Bool} (hl : a.length + b.length ≤ 1000000) : moves_joined_bool (fu + 4) [a, b] = some (a ++ b) := by
  have w0 : wk .i64 (0 + 1) = 1 := rfl
  have w1 : wk .i64 (1 + 1) = 2 := rfl
  have g0 : at? [a, b] 0 = some a := rfl
  have g1 : at? [a, b] 1 = some b := rfl
  have hW1 : slices_Concat_bool.W1 (fu + 4) [a, b] [] 0 = some (a ++ b) := by
    unfold slices_Concat_bool.W1
    rw [cloop_suc]
    show slices_Concat_bool.L1 (fu + 4) [a, b] _ [] 0 = _
    rw [slices_Concat_bool.L1, if_pos (by simp), g0, ob_some, chk_pos (by simp; omega), w0, cloop_suc]
    show slices_Concat_bool.L1 (fu + 4) [a, b] _ ([] ++ a) 1 = _
    rw [slices_Concat_bool.L1, if_pos (by simp), g1, ob_some, chk_pos (by simp; omega), w1, cloop_suc]
    show slices_Concat_bool.L1 (fu + 4) [a, b] _ ([] ++ a ++ b) 2 = _
    rw [slices_Concat_bool.L1, if_neg (by simp), List.nil_append]
  have hW2 : slices_Concat_bool.W2 (fu + 4) [a, b] [] 0 = some (a ++ b) := by
    unfold slices_Concat_bool.W2
    rw [cloop_suc]
    show slices_Concat_bool.L2 (fu + 4) [a, b] _ [] 0 = _
    rw [slices_Concat_bool.L2, if_pos (by simp), g0, ob_some, chk_pos (by simp; omega), w0, cloop_suc]
    show slices_Concat_bool.L2 (fu + 4) [a, b] _ ([] ++ a) 1 = _
    rw [slices_Concat_bool.L2, if_pos (by simp), g1, ob_some, chk_pos (by simp; omega), w1, cloop_suc]
    show slices_Concat_bool.L2 (fu + 4) [a, b] _ ([] ++ a ++ b) 2 = _
    rw [slices_Concat_bool.L2, if_neg (by simp), List.nil_append]
  have hk : ∀ n : Nat, n ≤ 1000000 → slices_Concat_bool.k1 (fu + 4) [a, b] (n : Int) = some (a ++ b) := fun n hn => by
    unfold slices_Concat_bool.k1 jn
    rw [if_neg (by omega)]
    unfold slices_Concat_bool.k2
    have e0 : wk .i64 (0 - 0) = 0 := rfl
    have e00 : wk .i64 0 = 0 := rfl
    rw [e00, wk_eq (x := (n : Int) - 0) (by omega) (by omega)]
    by_cases h : 0 < (n : Int) - 0
    · rw [if_pos h, chk_pos (by omega), chk_pos (by omega), hW1]
    · rw [if_neg h, hW2]
  unfold moves_joined_bool slices_Concat_bool jn slices_Concat_bool.W3
  rw [cloop_suc]
  have e1 : wk .i64 (0 + (a.length : Int)) = (a.length : Int) := by rw [wk_eq (by omega) (by omega)]; omega
  have e2 : wk .i64 ((a.length : Int) + (b.length : Int)) = ((a.length + b.length : Nat) : Int) := by rw [wk_eq (by omega) (by omega)]; omega
  show (slices_Concat_bool.L3 (fu + 4) [a, b] _ 0 0).bind _ = _
  rw [slices_Concat_bool.L3, if_pos (by simp), g0, ob_some, e1, if_neg (by omega), w0, cloop_suc]
  show (slices_Concat_bool.L3 (fu + 4) [a, b] _ (a.length : Int) 1).bind _ = _
  rw [slices_Concat_bool.L3, if_pos (by simp), g1, ob_some, e2, if_neg (by omega), w1, cloop_suc]
  show (slices_Concat_bool.L3 (fu + 4) [a, b] _ ((a.length + b.length : Nat) : Int) 2).bind _ = _
  rw [slices_Concat_bool.L3, if_neg (by simp), hk _ (by omega), ob_some]
theorem flat_le {α : Type} {Y : Nat → List α} {B : Nat} : ∀ n, (∀ j, j < n → (Y j).length ≤ B) → (flatR Y n).length ≤ B * n
  | 0, _ => by simp [flatR_zero]
  | n + 1, h => by
    have ih := flat_le (Y := Y) (B := B) n fun j hj => h j (by omega)
    have := h n (by omega)
    rw [flatR_succ, List.length_append, Nat.mul_add]; omega
theorem gI_strV : ∀ {d : List Int} {k : Nat}, k < d.length → gI (strV d) k = prod (d.drop (k + 1))
  | e :: d, 0, _ => by simp [strV, gI]
  | e :: d, k + 1, h => by
    have ih := gI_strV (d := d) (k := k) (by simpa using h)
    simpa [strV, gI] using ih
theorem str_rng {d : List Int} {k : Nat} (hp : ∀ x ∈ d, 1 ≤ x) (hg : Good d) (hk : k < d.length) : 1 ≤ gI (strV d) k ∧ gI (strV d) k ≤ 4096 := by
  have := prod_drop_le hp (k + 1)
  have := hg.2.2
  rw [gI_strV hk]; omega
theorem ixk_str {d i : List Int} {k : Nat} (hp : ∀ x ∈ d, 1 ≤ x) (hl : i.length = d.length) (hk : k < d.length) (hi : ∀ x ∈ i, 0 ≤ x) : gI i k * gI (strV d) k ≤ offV d i := by
  have h := offV_set (d := d) (i := i) (k := k) (y := 0) hl hk
  have h2 : 0 ≤ offV d (i.set k 0) := by
    rw [← dot_strV]
    refine dotV_nonneg (fun x hx => ?_) (strV_nonneg hp)
    rcases List.mem_or_eq_of_mem_set hx with h1 | h1
    · exact hi x h1
    · omega
  have h3 : (0 - gI i k) * gI (strV d) k = -(gI i k * gI (strV d) k) := by rw [Int.zero_sub, Int.neg_mul]
  omega
def aW (d l : List Int) (k : Nat) : Nat → Int
  | 0 => 0
  | j + 1 => wk .i64 (aW d l k j + (wk .i64 (gI l j * gI (strdW d) k)))
section
variable {fu : Nat} {s : T_Setting} {x : T_Tensor} {l : List Int} {k n : Nat} {L : List T_Tensor}
theorem aW_pos {d : List Int} (h : SpOK d l k) (hp : ∀ x ∈ d, 1 ≤ x) : ∀ j, j ≤ l.length → aW d l k j = sA l j * gI (strV d) k
  | 0, _ => by rw [sA_zero, Int.zero_mul]; rfl
  | j + 1, hj => by
    have ih := aW_pos h hp j (by omega)
    obtain ⟨r1, r2, r3, r4⟩ := h.row (j := j) (by omega)
    obtain ⟨s1, s2⟩ := str_rng hp h.gd h.hk
    have hpr := h.gd.2.2
    have m1 : 0 ≤ gI l j * gI (strV d) k := Int.mul_nonneg r1 (by omega)
    have m2 : gI l j * gI (strV d) k ≤ 4096 * 4096 := Int.mul_le_mul (by omega) s2 (by omega) (by omega)
    have m3 : 0 ≤ sA l j * gI (strV d) k := Int.mul_nonneg r2 (by omega)
    have m4 : sA l j * gI (strV d) k ≤ 4096 * 4096 := Int.mul_le_mul (by omega) s2 (by omega) (by omega)
    rw [aW, ih, strdW_pos hp (by omega), wk_eq (x := gI l j * gI (strV d) k) (by omega) (by omega), wk_eq (x := sA l j * gI (strV d) k + gI l j * gI (strV d) k) (by omega) (by omega), sA_succ (by omega), Int.add_mul]
theorem split_clo {d : List Int} (h : SpOK d l k) {j m : Nat} (hj : j < l.length) (hm : (m : Int) < prod (dP d l k j)) (hf : 200 < fu) :
    moves_move_split_1 fu (idxV (dP d l k j) (m : Int)) (aW d l k j) (strdW d) = some (fSp d l k j m) := by
  have hp := h.pos hj (m := (m : Int)) (by omega) hm
  have hg := h.good hj
  have hpp := pos_of_good hg (by omega)
  have h8 := h.gd.1
  have hpr := h.gd.2.2
  obtain ⟨r1, r2, r3, r4⟩ := h.row hj
  obtain ⟨s1, s2⟩ := str_rng hp h.gd h.hk
  have hil : (idxV (dP d l k j) (m : Int)).length = d.length := by rw [idxV_length, dP_len]
  have hr := fSp_rng h hj hm
  have m3 : 0 ≤ sA l j * gI (strV d) k := Int.mul_nonneg r2 (by omega)
  have hd0 : dotV (idxV (dP d l k j) (m : Int)) (strV d) = offV d (idxV (dP d l k j) (m : Int)) := dot_strV
  have hn := idxV_nonneg hpp (k := (m : Int)) (by omega) hm
  have hdn : 0 ≤ dotV (idxV (dP d l k j) (m : Int)) (strV d) := dotV_nonneg hn (strV_nonneg hp)
  have he : fSp d l k j m = sA l j * gI (strV d) k + offV d (idxV (dP d l k j) (m : Int)) := rfl
  unfold moves_move_split_1
  rw [aW_pos h hp j (by omega), strdW_pos hp (by omega), dot_spec (by rw [hil, strV_length]) hn (strV_nonneg hp) (by omega) (by rw [strV_length]; omega) hf, ob_some, wk_eq (by omega) (by omega), hd0, ← he]
theorem one_split {ty : Int} (hs : Small x) (hft : Fuel fu x) (hc : checkV x = 0) (h : SpOK x.fDims l k) (hn : prod x.fDims = (n : Int)) (hf : 5000 < fu) :
    moves_move_split fu ⟨48, s, L, x, (k : Int)⟩ (((List.range l.length).map (dP x.fDims l k)).map (outV ty)) = some (partsT x l k) := by
  have l2 := h.l2
  have h8 := h.gd.1
  have hkl := h.hk
  have hvl : (((List.range l.length).map (dP x.fDims l k)).map (outV ty)).length = l.length := by simp
  have hva : ∀ j, j < l.length → at? (((List.range l.length).map (dP x.fDims l k)).map (outV ty)) (j : Int) = some (outV ty (dP x.fDims l k j)) := fun j hj => by
    rw [at?_get (by rw [hvl]; exact hj)]; simp
  have e : moves_move_split fu ⟨48, s, L, x, (k : Int)⟩ (((List.range l.length).map (dP x.fDims l k)).map (outV ty)) = (moves_strides fu x.fDims).bind fun x3 => moves_move_split.W1 fu ⟨48, s, L, x, (k : Int)⟩ (((List.range l.length).map (dP x.fDims l k)).map (outV ty)) x3 [] 0 0 := rfl
  rw [e, strides_m h.gd (by omega), ob_some]
  unfold moves_move_split.W1
  have hz : (([] : List T_Tensor), (0 : Int), (0 : Int)) = (fun j : Nat => ((List.range j).map (pP x l k), aW x.fDims l k j, (j : Int))) 0 := rfl
  rw [hz]
  refine cloop_to l.length (fun j : Nat => ((List.range j).map (pP x l k), aW x.fDims l k j, (j : Int))) _ ?_ ?_ (by omega)
  · intro j hj next hnx
    show moves_move_split.L1 fu ⟨48, s, L, x, (k : Int)⟩ (((List.range l.length).map (dP x.fDims l k)).map (outV ty)) (strdW x.fDims) (fun a b c => next (a, b, c)) ((List.range j).map (pP x l k)) (aW x.fDims l k j) (j : Int) = _
    have hg := h.good hj
    have hod : (outV ty (dP x.fDims l k j)).fDims = dP x.fDims l k j := rfl
    rw [moves_move_split.L1, if_pos (by rw [hvl]; omega), hva j hj, ob_some, hod, picked_spec (N := nP x.fDims l k j) (f := fSp x.fDims l k j) hs hft hg (nP_eq h hj) hf (fun m hm => split_clo h hj (by rw [nP_eq h hj]; exact Int.ofNat_lt.2 hm) (by omega)), ob_some, chk_pos (by simp; omega)]
    show (at? (dP x.fDims l k j) (k : Int)).bind _ = _
    rw [at_gI (by rw [dP_len]; exact hkl), ob_some]
    show (at? (strdW x.fDims) (k : Int)).bind _ = _
    rw [at_gI (by rw [strdW_length]; exact hkl), ob_some, dP_at hkl, if_pos rfl, wk_succ (by omega), ← hnx, List.range_succ, List.map_append]
    rfl
  · intro next
    show moves_move_split.L1 fu ⟨48, s, L, x, (k : Int)⟩ (((List.range l.length).map (dP x.fDims l k)).map (outV ty)) (strdW x.fDims) (fun a b c => next (a, b, c)) ((List.range l.length).map (pP x l k)) (aW x.fDims l k l.length) (l.length : Int) = _
    rw [moves_move_split.L1, if_neg (by rw [hvl]; omega)]
    rfl
theorem parts_len : (partsT x l k).length = l.length := by simp [partsT]
theorem parts_at {j : Nat} (hj : j < l.length) : at? (partsT x l k) (j : Int) = some (pP x l k j) := by
  rw [at?_get (by rw [parts_len]; exact hj)]; simp [partsT]
theorem pP_check (hc : checkV x = 0) (h : SpOK x.fDims l k) (hn : prod x.fDims = (n : Int)) {j : Nat} (hj : j < l.length) : checkV (pP x l k j) = 0 := pT_check (pP_ok hc h hn hj)
theorem pP_type (hc : checkV x = 0) (h : SpOK x.fDims l k) (hn : prod x.fDims = (n : Int)) {j : Nat} (hj : j < l.length) : (pP x l k j).fType = x.fType ∧ (pP x l k j).fDims = dP x.fDims l k j := pT_type (pP_ok hc h hn hj)
theorem row_spec (hc : checkV x = 0) (h : SpOK x.fDims l k) (hn : prod x.fDims = (n : Int)) (hf : 200 < fu) : moves_row (fu + 4) (partsT x l k) = some (rowT x l k) := by
  have l1 := h.l1
  have l2 := h.l2
  have hb : ∀ j, j < l.length → (pP x l k j).fF.length ≤ 4096 ∧ (pP x l k j).fI.length ≤ 4096 ∧ (pP x l k j).fB.length ≤ 4096 := fun j hj => (len_small (pP_check hc h hn hj)).2
  have e : moves_row (fu + 4) (partsT x l k) = (at? (partsT x l k) ((0 : Nat) : Int)).bind fun x2 => moves_row.W1 (fu + 4) (partsT x l k) x2 [] [] [] 0 := rfl
  rw [e, parts_at (by omega), ob_some]
  unfold moves_row.W1
  have hz : (([] : List Int), ([] : List Int), ([] : List Bool), (0 : Int)) = (fun j : Nat => (flatR (fun j => (pP x l k j).fF) j, flatR (fun j => (pP x l k j).fI) j, flatR (fun j => (pP x l k j).fB) j, (j : Int))) 0 := rfl
  rw [hz]
  refine cloop_to l.length (fun j : Nat => (flatR (fun j => (pP x l k j).fF) j, flatR (fun j => (pP x l k j).fI) j, flatR (fun j => (pP x l k j).fB) j, (j : Int))) _ ?_ ?_ (by omega)
  · intro j hj next hnx
    show moves_row.L1 (fu + 4) (partsT x l k) (pP x l k 0) (fun a b c d => next (a, b, c, d)) (flatR (fun j => (pP x l k j).fF) j) (flatR (fun j => (pP x l k j).fI) j) (flatR (fun j => (pP x l k j).fB) j) (j : Int) = _
    obtain ⟨b1, b2, b3⟩ := hb j hj
    have c1 := flat_le (Y := fun j => (pP x l k j).fF) (B := 4096) j fun i hi => (hb i (by omega)).1
    have c2 := flat_le (Y := fun j => (pP x l k j).fI) (B := 4096) j fun i hi => (hb i (by omega)).2.1
    have c3 := flat_le (Y := fun j => (pP x l k j).fB) (B := 4096) j fun i hi => (hb i (by omega)).2.2
    rw [moves_row.L1, if_pos (by rw [parts_len]; omega), parts_at hj, ob_some, cat_uint32 (by omega), ob_some, cat_int64 (by omega), ob_some, cat_bool (by omega), ob_some, wk_succ (by omega), ← hnx, flatR_succ, flatR_succ, flatR_succ]
  · intro next
    show moves_row.L1 (fu + 4) (partsT x l k) (pP x l k 0) (fun a b c d => next (a, b, c, d)) (flatR (fun j => (pP x l k j).fF) l.length) (flatR (fun j => (pP x l k j).fI) l.length) (flatR (fun j => (pP x l k j).fB) l.length) (l.length : Int) = _
    rw [moves_row.L1, if_neg (by rw [parts_len]; omega)]
    have hrc := row_check hc h hn
    obtain ⟨hk, hg, z1, z2, z3⟩ := checkV_zero.1 hrc
    have zs := len_small hrc
    have ht := (pP_type hc h hn (j := 0) (by omega)).1
    unfold moves_row.k1
    have hsum : ((flatR (fun j => (pP x l k j).fF) l.length).length : Int) + (flatR (fun j => (pP x l k j).fI) l.length).length + (flatR (fun j => (pP x l k j).fB) l.length).length = prod x.fDims := by
      have e1 : (rowT x l k).fDims = [prod x.fDims] := rfl
      have e2 : (rowT x l k).fType = x.fType := rfl
      have e3 : (rowT x l k).fF = flatR (fun j => (pP x l k j).fF) l.length := rfl
      have e4 : (rowT x l k).fI = flatR (fun j => (pP x l k j).fI) l.length := rfl
      have e5 : (rowT x l k).fB = flatR (fun j => (pP x l k j).fB) l.length := rfl
      have e6 : prod [prod x.fDims] = prod x.fDims := by simp [prod]
      rw [e1, e2, e6, e3] at z1
      rw [e1, e2, e6, e4] at z2
      rw [e1, e2, e6, e5] at z3
      rw [e2] at hk
      rcases hk with e | e | e <;> rw [e] at z1 z2 z3 <;> simp at z1 z2 z3 <;> simp [z1, z2, z3]
    rw [sumW (by have := zs.2.1; simp only [rowT] at this; omega) (by have := zs.2.2.1; simp only [rowT] at this; omega) (by have := zs.2.2.2; simp only [rowT] at this; omega), hsum, ht]
    rfl
end
end Go.Av
set_option linter.unusedVariables false
namespace Go.Av
section
variable {fu : Nat} {s : T_Setting} {x y : T_Tensor} {l : List Int} {k n : Nat}
def fst4 (d l : List Int) (k j : Nat) : List Int := (List.range j).map fun j => sA l j * rP d k
def frm4 (l : List Int) (j : Nat) : List Int := (List.range j).map (sA l)
theorem fst4_at {d : List Int} {j m : Nat} (h : j < m) : at? (fst4 d l k m) (j : Int) = some (sA l j * rP d k) := by
  rw [at?_get (by simp [fst4]; exact h)]; simp [fst4]
theorem frm4_at {j m : Nat} (h : j < m) : at? (frm4 l m) (j : Int) = some (sA l j) := by
  rw [at?_get (by simp [frm4]; exact h)]; simp [frm4]
theorem clo_c (hc : checkV x = 0) (h : SpOK x.fDims l k) (hn : prod x.fDims = (n : Int)) {q : Nat} (hq : (q : Int) < prod x.fDims) (hf : 5000 < fu) :
    moves_move_concat_1 fu (idxV x.fDims (q : Int)) (frm4 l l.length) ⟨47, s, partsT x l k, y, (k : Int)⟩ (fst4 x.fDims l k l.length) = some (gG x.fDims l k q) := by
  have l1 := h.l1
  have l2 := h.l2
  have hkl := h.hk
  have h8 := h.gd.1
  have hpr := h.gd.2.2
  have hp := pos_of_good h.gd (by omega)
  obtain ⟨t1, t2, t3, m1, m2, m3⟩ := mG_spec h hq
  have hil := idxV_length x.fDims (q : Int)
  have hik := okIx_at hil (okIx_idx hp (by omega) hq) k hkl
  have hin := idxV_nonneg hp (k := (q : Int)) (by omega) hq
  have hii : at? (idxV x.fDims (q : Int)) (k : Int) = some (gI (idxV x.fDims (q : Int)) k) := at_gI (by omega)
  have hg := h.good t1
  have hpp := pos_of_good hg (by omega)
  obtain ⟨r1, r2, r3, r4⟩ := h.row t1
  have K : moves_move_concat_1.k1 fu (idxV x.fDims (q : Int)) (frm4 l l.length) ⟨47, s, partsT x l k, y, (k : Int)⟩ (fst4 x.fDims l k l.length) ((tG x.fDims l k q : Nat) : Int) = some (gG x.fDims l k q) := by
    unfold moves_move_concat_1.k1
    show (at? (partsT x l k) ((tG x.fDims l k q : Nat) : Int)).bind _ = _
    have hg8 := hg.1
    have hgp := hg.2.2
    rw [parts_at t1, ob_some, (pP_type hc h hn t1).2, strides_m hg (by omega), ob_some, fst4_at t1, ob_some, strdW_pos hpp (by omega)]
    have ho := off_mv (d := dP x.fDims l k (tG x.fDims l k q)) (i := idxV x.fDims (q : Int)) (k := k) (a := -(sA l (tG x.fDims l k q))) (by rw [hil, dP_len]) (by rw [dP_len]; exact hkl)
    have hs := strV_set (d := x.fDims) (k := k) (y := gI l (tG x.fDims l k q)) hkl
    have hs' : gI (strV (dP x.fDims l k (tG x.fDims l k q))) k = gI (strV x.fDims) k := hs
    have hm : mG x.fDims l k q = offV (dP x.fDims l k (tG x.fDims l k q)) (mvI (idxV x.fDims (q : Int)) k (-(sA l (tG x.fDims l k q)))) := rfl
    rw [hs'] at ho
    obtain ⟨s1, s2⟩ := str_rng hp h.gd hkl
    have hx := ixk_str hp hil hkl hin
    rw [offV_idx hp (by omega) hq] at hx
    have hax : sA l (tG x.fDims l k q) * gI (strV x.fDims) k ≤ gI (idxV x.fDims (q : Int)) k * gI (strV x.fDims) k := Int.mul_le_mul_of_nonneg_right t2 (by omega)
    have ha0 : 0 ≤ sA l (tG x.fDims l k q) * gI (strV x.fDims) k := Int.mul_nonneg r2 (by omega)
    have hneg : -(sA l (tG x.fDims l k q)) * gI (strV x.fDims) k = -(sA l (tG x.fDims l k q) * gI (strV x.fDims) k) := Int.neg_mul _ _
    have hd0 : dotV (idxV x.fDims (q : Int)) (strV (dP x.fDims l k (tG x.fDims l k q))) = offV (dP x.fDims l k (tG x.fDims l k q)) (idxV x.fDims (q : Int)) := dot_strV
    have hgr := gG_rng h hn (q := q) (by omega)
    have hge : gG x.fDims l k q = sA l (tG x.fDims l k q) * rP x.fDims k + mG x.fDims l k q := rfl
    have hr0 : 0 ≤ sA l (tG x.fDims l k q) * rP x.fDims k := Int.mul_nonneg r2 (rP_nn h.gd.2.1)
    rw [dot_spec (by rw [hil, strV_length, dP_len]) hin (strV_nonneg hpp) (by omega) (by rw [strV_length, dP_len]; omega) (by omega), ob_some, frm4_at t1, ob_some]
    show (at? (strV (dP x.fDims l k (tG x.fDims l k q))) (k : Int)).bind _ = _
    rw [at_gI (by rw [strV_length, dP_len]; exact hkl), ob_some, hs', hd0]
    rw [wk_eq (x := sA l (tG x.fDims l k q) * gI (strV x.fDims) k) (by omega) (by omega), wk_eq (x := sA l (tG x.fDims l k q) * rP x.fDims k + offV (dP x.fDims l k (tG x.fDims l k q)) (idxV x.fDims (q : Int))) (by omega) (by omega), wk_eq (by omega) (by omega)]
    congr 1
    omega
  have hfl : (frm4 l l.length).length = l.length := by simp [frm4]
  unfold moves_move_concat_1 jn moves_move_concat_1.W1
  rw [hfl, wk_eq (x := (l.length : Int) - 1) (by omega) (by omega)]
  have hz : (l.length : Int) - 1 = (fun i : Nat => (l.length : Int) - 1 - (i : Int)) 0 := by simp
  rw [hz]
  refine cloop_to (l.length - 1 - tG x.fDims l k q) (fun i : Nat => (l.length : Int) - 1 - (i : Int)) _ ?_ ?_ (by omega)
  · intro i hi next hnx
    show moves_move_concat_1.L1 fu (idxV x.fDims (q : Int)) (frm4 l l.length) ⟨47, s, partsT x l k, y, (k : Int)⟩ (fst4 x.fDims l k l.length) (fun a => next a) ((l.length : Int) - 1 - (i : Int)) = _
    have e : (l.length : Int) - 1 - (i : Int) = ((l.length - 1 - i : Nat) : Int) := by omega
    have hmo := sA_mono h.nn (j := tG x.fDims l k q + 1) (l.length - 1 - i) (by omega) (by omega)
    rw [sA_succ t1] at hmo
    rw [moves_move_concat_1.L1, e, frm4_at (by omega), ob_some]
    show (at? (idxV x.fDims (q : Int)) (k : Int)).bind _ = _
    rw [hii, ob_some, if_pos (by omega), wk_eq (by omega) (by omega), ← hnx]
    congr 1
    omega
  · intro next
    show moves_move_concat_1.L1 fu (idxV x.fDims (q : Int)) (frm4 l l.length) ⟨47, s, partsT x l k, y, (k : Int)⟩ (fst4 x.fDims l k l.length) (fun a => next a) ((l.length : Int) - 1 - ((l.length - 1 - tG x.fDims l k q : Nat) : Int)) = _
    have e : (l.length : Int) - 1 - ((l.length - 1 - tG x.fDims l k q : Nat) : Int) = ((tG x.fDims l k q : Nat) : Int) := by omega
    rw [moves_move_concat_1.L1, e, frm4_at t1, ob_some]
    show (at? (idxV x.fDims (q : Int)) (k : Int)).bind _ = _
    rw [hii, ob_some, if_neg (by omega)]
    show (at? (partsT x l k) ((tG x.fDims l k q : Nat) : Int)).bind _ = _
    rw [parts_at t1, ob_some, (pP_type hc h hn t1).2]
    show (at? (dP x.fDims l k (tG x.fDims l k q)) (k : Int)).bind _ = _
    rw [at_gI (by rw [dP_len]; exact hkl), ob_some, dP_at hkl, if_pos rfl, if_neg (by omega)]
    exact K
theorem row_small (hc : checkV x = 0) (h : SpOK x.fDims l k) (hn : prod x.fDims = (n : Int)) (hf : 5000 < fu) : Small (rowT x l k) ∧ Fuel fu (rowT x l k) := by
  obtain ⟨a, b, c, e⟩ := len_small (row_check hc h hn)
  exact ⟨⟨by omega, by omega, by omega, by omega⟩, by omega, by omega, by omega, by omega⟩
theorem one_c (hc : checkV x = 0) (h : SpOK x.fDims l k) (hn : prod x.fDims = (n : Int)) (hf : 6000 < fu) :
    moves_move_one (fu + 4) ⟨47, s, partsT x l k, y, (k : Int)⟩ x.fDims [] = some x := by
  have l1 := h.l1
  have l2 := h.l2
  have hkl := h.hk
  have h8 := h.gd.1
  have hpr := h.gd.2.2
  have hrn := rP_nn (k := k) h.gd.2.1
  have e : moves_move_one (fu + 4) ⟨47, s, partsT x l k, y, (k : Int)⟩ x.fDims [] = (moves_move_concat.W1 (fu + 4) ⟨47, s, partsT x l k, y, (k : Int)⟩ x.fDims [] [] 0 0 0).bind fun x4 => some x4 := rfl
  rw [e]
  have key : moves_move_concat.W1 (fu + 4) ⟨47, s, partsT x l k, y, (k : Int)⟩ x.fDims [] [] 0 0 0 = some x := by
    unfold moves_move_concat.W1
    have hz : (([] : List Int), ([] : List Int), (0 : Int), (0 : Int), (0 : Int)) = (fun j : Nat => (fst4 x.fDims l k j, frm4 l j, sA l j * rP x.fDims k, sA l j, (j : Int))) 0 := by
      simp [fst4, frm4, sA_zero]
    rw [hz]
    refine cloop_to l.length (fun j : Nat => (fst4 x.fDims l k j, frm4 l j, sA l j * rP x.fDims k, sA l j, (j : Int))) _ ?_ ?_ (by omega)
    · intro j hj next hnx
      show moves_move_concat.L1 (fu + 4) ⟨47, s, partsT x l k, y, (k : Int)⟩ x.fDims (fun a b c d e => next (a, b, c, d, e)) (fst4 x.fDims l k j) (frm4 l j) (sA l j * rP x.fDims k) (sA l j) (j : Int) = _
      obtain ⟨r1, r2, r3, r4⟩ := h.row hj
      have hg := h.good hj
      have hg8 := hg.1
      have w1 : 0 ≤ sA l j * rP x.fDims k := Int.mul_nonneg r2 hrn
      have w2 : 0 ≤ gI l j * rP x.fDims k := Int.mul_nonneg r1 hrn
      have w3 : (sA l j + gI l j) * rP x.fDims k ≤ gI x.fDims k * rP x.fDims k := Int.mul_le_mul_of_nonneg_right r3 hrn
      rw [← prod_rP hkl, Int.add_mul] at w3
      rw [moves_move_concat.L1, if_pos (show (j : Int) < ((partsT x l k).length : Int) by rw [parts_len]; omega)]
      show (at? (partsT x l k) (j : Int)).bind _ = _
      rw [parts_at hj, ob_some, chk_pos (by simp [fst4]; omega), chk_pos (by simp [frm4]; omega), (pP_type hc h hn hj).2, Size_spec (by unfold Short; omega) (by omega), ob_some, sizeV, if_pos hg]
      show (at? (dP x.fDims l k j) (k : Int)).bind _ = _
      rw [at_gI (by rw [dP_len]; exact hkl), ob_some, dP_at hkl, if_pos rfl, prod_dP hkl, wk_eq (x := sA l j * rP x.fDims k + gI l j * rP x.fDims k) (by omega) (by omega), wk_eq (x := sA l j + gI l j) (by omega) (by omega), wk_succ (by omega), ← hnx]
      congr 1
      simp only [fst4, frm4, List.range_succ, List.map_append, sA_succ hj, Int.add_mul]
      rfl
    · intro next
      show moves_move_concat.L1 (fu + 4) ⟨47, s, partsT x l k, y, (k : Int)⟩ x.fDims (fun a b c d e => next (a, b, c, d, e)) (fst4 x.fDims l k l.length) (frm4 l l.length) (sA l l.length * rP x.fDims k) (sA l l.length) (l.length : Int) = _
      rw [moves_move_concat.L1, if_neg (show ¬ (l.length : Int) < ((partsT x l k).length : Int) by rw [parts_len]; omega)]
      obtain ⟨hs, hft⟩ := row_small (fu := fu + 4) hc h hn (by omega)
      unfold moves_move_concat.k1
      show (moves_row (fu + 4) (partsT x l k)).bind _ = _
      rw [row_spec hc h hn (by omega), ob_some, picked_spec (N := n) (f := gG x.fDims l k) hs hft h.gd hn (by omega) (fun q hq => clo_c hc h hn (by rw [hn]; exact Int.ofNat_lt.2 hq) (by omega)), ob_some]
      exact congrArg some (row_back hc h hn)
  rw [key]; rfl
end
end Go.Av
set_option linter.unusedVariables false
namespace Go.Av
theorem lt_ten {l : List Int} (h : l.length * 8 ≤ 140737488351232) : Ten (lt l) := ⟨by simp [lt], by simp [lt], by simp only [lt]; omega, by simp [lt], by simp [lt]⟩
theorem lt_fuel {fu : Nat} {l : List Int} (h : l.length < fu) (h1 : 1 < fu) : Fuel fu (lt l) := ⟨by simpa [lt] using h1, by simp [lt]; omega, by simpa [lt] using h, by simp [lt]; omega⟩
theorem lt_val {l : List Int} : valOf (lt l) = lv l := if_neg (show ¬ (lt l).fType = 0 from (by decide : ¬ (7 : Int) = 0))
theorem badV_all : ∀ {l : List T_Tensor}, (∀ t ∈ l, checkV t = 0) → badV l = none
  | [], _ => rfl
  | t :: l, h => by
    unfold badV
    rw [if_pos (.inr (h t (by simp))), badV_all fun u hu => h u (by simp [hu])]
section
variable {fu : Nat} {s : T_Setting} {t : T_Tensor} {l : List Int} {k n : Nat}
theorem Do_48 (ht : Ten t) (hft : Fuel fu t) (h0 : t.fType ≠ 0) (hc : checkV t = 0) (hk : axisV s.fAxis t.fDims.length = some (k : Int)) (h : SpOK t.fDims l k) (hn : prod t.fDims = (n : Int)) (hf : 7000 < fu) :
    moves_Do fu 48 s [t, lt l] (l.length : Int) = some (partsT (canonT t) l k, 0) := by
  obtain ⟨f, rfl⟩ : ∃ f, fu = f + 3 := ⟨fu - 3, by omega⟩
  obtain ⟨hkn, hg, hL⟩ := checkV_zero.1 hc
  have h8 := hg.1
  have l2 := h.l2
  have hT : Tens (f + 3) [t, lt l] := ⟨by simp, by simp, fun x hx => by
    simp at hx
    rcases hx with rfl | rfl
    · exact ⟨ht, hft⟩
    · exact ⟨lt_ten (by omega), lt_fuel (by omega) (by omega)⟩⟩
  have e : moves_Do (f + 3) 48 s [t, lt l] (l.length : Int) = moves_Do.W1 (f + 3) s [t, lt l] (l.length : Int) [] 0 := rfl
  rw [e]; unfold moves_Do.W1
  have hbd : badV [t, lt l] = none := badV_all fun x hx => by
    simp at hx
    rcases hx with rfl | rfl
    · exact hc
    · exact lt_check (by omega)
  rw [head_loop hT (L := moves_Do.L1 (f + 3) s [t, lt l] (l.length : Int)) (k1 := moves_Do.k1 (f + 3) s [t, lt l] (l.length : Int)) (er := fun e => some ([], e)) (fun nx acc i => rfl), hbd]
  show moves_Do.k1 (f + 3) s [t, lt l] (l.length : Int) [canonT t, lt l] = _
  have hv : valOf t = ⟨t.fType, t.fDims, true, t⟩ := if_neg h0
  unfold moves_Do.k1
  rw [Vals_all hT, ob_some]
  show (infer_Node (f + 3) 48 s [valOf t, valOf (lt l)] (l.length : Int)).bind _ = _
  have hvt : (valOf t).fType = t.fType := by rw [hv]
  have hvd : (valOf t).fDims = t.fDims := by rw [hv]
  rw [lt_val, Node_s_ok (k := k) (by rw [hvt]; exact h0) (by rw [hvt]; exact hkn) (by rw [hvd]; exact hk) (by rw [hvd]; exact h) (by omega), ob_some, if_pos rfl, hvd, hvt]
  show (some (canonT t)).bind _ = _
  have hax : shape_Axis (f + 3) s.fAxis ((canonT t).fDims.length : Int) = some ((k : Int), 0) := by
    have e4 : (canonT t).fDims = t.fDims := rfl
    rw [e4, Axis_spec (by omega), hk]
  rw [ob_some, hax, ob_some]
  unfold jn moves_Do.k2
  have hone := one_split (fu := f + 3) (s := s) (L := [canonT t, lt l]) (x := canonT t) (l := l) (k := k) (ty := t.fType) (canonT_small ht) (canonT_fuel hft) (by rw [canonT_check]; exact hc) h hn (by omega)
  show (moves_move_split (f + 3) ⟨48, s, [canonT t, lt l], canonT t, (k : Int)⟩ (((List.range l.length).map (dP (canonT t).fDims l k)).map (outV t.fType))).bind _ = _
  rw [hone, ob_some]
theorem Do_48_bad (ht : Ten t) (hft : Fuel fu t) (hl8 : l.length * 8 ≤ 140737488351232) (hlf : l.length < fu) (hn : ¬ (t.fType ≠ 0 ∧ checkV t = 0 ∧ ∃ k : Nat, axisV s.fAxis t.fDims.length = some (k : Int) ∧ SpOK t.fDims l k)) (hf : 7000 < fu) :
    ∃ e, e ≠ 0 ∧ moves_Do fu 48 s [t, lt l] (l.length : Int) = some ([], e) := by
  obtain ⟨f, rfl⟩ : ∃ f, fu = f + 3 := ⟨fu - 3, by omega⟩
  have hT : Tens (f + 3) [t, lt l] := ⟨by simp, by simp, fun x hx => by
    simp at hx
    rcases hx with rfl | rfl
    · exact ⟨ht, hft⟩
    · exact ⟨lt_ten hl8, lt_fuel hlf (by omega)⟩⟩
  have e : moves_Do (f + 3) 48 s [t, lt l] (l.length : Int) = moves_Do.W1 (f + 3) s [t, lt l] (l.length : Int) [] 0 := rfl
  rw [e]; unfold moves_Do.W1
  rw [head_loop hT (L := moves_Do.L1 (f + 3) s [t, lt l] (l.length : Int)) (k1 := moves_Do.k1 (f + 3) s [t, lt l] (l.length : Int)) (er := fun e => some ([], e)) (fun nx acc i => rfl)]
  cases hb : badV [t, lt l] with
  | some e => exact ⟨e, badV_some hb, rfl⟩
  | none =>
    show ∃ e, e ≠ 0 ∧ moves_Do.k1 (f + 3) s [t, lt l] (l.length : Int) [canonT t, lt l] = _
    have hlc := (badV_none hb (lt l) (by simp)).resolve_left (by decide : ¬ (7 : Int) = 0)
    have hl : l.length ≤ 4096 := by
      by_cases h : l.length ≤ 4096
      · exact h
      · exact absurd hlc (lt_bad (by omega))
    unfold moves_Do.k1
    rw [Vals_all hT, ob_some]
    show ∃ e, e ≠ 0 ∧ (infer_Node (f + 3) 48 s [valOf t, valOf (lt l)] (l.length : Int)).bind _ = _
    rw [lt_val]
    have hv : t.fType ≠ 0 → valOf t = ⟨t.fType, t.fDims, true, t⟩ := fun h0 => if_neg h0
    have hvt : (valOf t).fType = t.fType := by
      by_cases h0 : t.fType = 0
      · unfold valOf; rw [if_pos h0, h0]; rfl
      · rw [hv h0]
    obtain ⟨er, h1, h2⟩ := Node_s_bad (fu := f) (s := s) (v := valOf t) (l := l) (fun h0 => by
      rw [hvt] at h0
      have hc := (badV_none hb t (by simp)).resolve_left h0
      obtain ⟨hkn, hg, hL⟩ := checkV_zero.1 hc
      rw [hv h0]
      exact ⟨hkn, hg⟩) hl (fun h => by
      have h0 := h.1
      rw [hvt] at h0
      have h2 := h.2
      rw [hv h0] at h2
      exact hn ⟨h0, (badV_none hb t (by simp)).resolve_left h0, h2⟩) (by omega)
    refine ⟨er, h1, ?_⟩
    rw [h2, ob_some, if_neg h1]
theorem Do_47 (ht : Ten t) (h0 : t.fType ≠ 0) (hc : checkV t = 0) (hk : axisV s.fAxis t.fDims.length = some (k : Int)) (h : SpOK t.fDims l k) (hn : prod t.fDims = (n : Int)) (hf : 8000 < fu) :
    moves_Do fu 47 s (partsT (canonT t) l k) 1 = some ([canonT t], 0) := by
  obtain ⟨f, rfl⟩ : ∃ f, fu = f + 4 := ⟨fu - 4, by omega⟩
  have hcc : checkV (canonT t) = 0 := by rw [canonT_check]; exact hc
  obtain ⟨hkn, hg, hL⟩ := checkV_zero.1 hcc
  have h' : SpOK (canonT t).fDims l k := h
  have hn' : prod (canonT t).fDims = (n : Int) := hn
  have h8 := hg.1
  have l1 := h.l1
  have l2 := h.l2
  have hok : ∀ j, j < l.length → PickOK (dP t.fDims l k j) (nP t.fDims l k j) n (fSp t.fDims l k j) (canonT t) := fun j hj => pP_ok hcc h' hn' hj
  have hmem : ∀ u ∈ partsT (canonT t) l k, ∃ j, j < l.length ∧ u = pP (canonT t) l k j := fun u hu => by
    obtain ⟨j, hj, rfl⟩ := List.mem_map.1 hu
    exact ⟨j, List.mem_range.1 hj, rfl⟩
  have hchk : ∀ u ∈ partsT (canonT t) l k, checkV u = 0 := fun u hu => by
    obtain ⟨j, hj, rfl⟩ := hmem u hu
    exact pP_check hcc h' hn' hj
  have hT : Tens (f + 4) (partsT (canonT t) l k) := ⟨by rw [parts_len]; omega, by rw [parts_len]; omega, fun u hu => by
    have hcu := hchk u hu
    obtain ⟨j, hj, rfl⟩ := hmem u hu
    obtain ⟨a, b, c, d⟩ := len_small hcu
    exact ⟨pT_ten ht (hok j hj), by omega, by omega, by omega, by omega⟩⟩
  have hcan : (partsT (canonT t) l k).map canonT = partsT (canonT t) l k := by
    conv => rhs; rw [← List.map_id (partsT (canonT t) l k)]
    refine List.map_congr_left fun u hu => ?_
    obtain ⟨j, hj, rfl⟩ := hmem u hu
    exact pT_canon (hok j hj)
  have hval : (partsT (canonT t) l k).map valOf = vsC t.fType t.fDims l k (pP (canonT t) l k) := by
    unfold partsT vsC
    rw [List.map_map]
    refine List.map_congr_left fun j hj => ?_
    obtain ⟨e1, e2⟩ := pP_type hcc h' hn' (List.mem_range.1 hj)
    show valOf (pP (canonT t) l k j) = vC t.fType t.fDims l k (pP (canonT t) l k) j
    unfold valOf vC
    have e3 : (canonT t).fType = t.fType := rfl
    have e4 : (canonT t).fDims = t.fDims := rfl
    rw [if_neg (by rw [e1]; exact h0), e1, e2, e3, e4]
  have e : moves_Do (f + 4) 47 s (partsT (canonT t) l k) 1 = moves_Do.W2 (f + 4) s (partsT (canonT t) l k) 1 [] 0 := rfl
  rw [e]; unfold moves_Do.W2
  rw [head_loop hT (L := moves_Do.L2 (f + 4) s (partsT (canonT t) l k) 1) (k1 := moves_Do.k3 (f + 4) s (partsT (canonT t) l k) 1) (er := fun e => some ([], e)) (fun nx acc i => rfl), badV_all hchk, hcan]
  show moves_Do.k3 (f + 4) s (partsT (canonT t) l k) 1 (partsT (canonT t) l k) = _
  unfold moves_Do.k3
  rw [Vals_all hT, ob_some, hval, Node_c (fu := f + 1) h0 hkn h hk (by omega), ob_some, if_pos rfl]
  show (at? (partsT (canonT t) l k) ((0 : Nat) : Int)).bind _ = _
  have hax : shape_Axis (f + 4) s.fAxis ((pP (canonT t) l k 0).fDims.length : Int) = some ((k : Int), 0) := by
    have e4 : (canonT t).fDims = t.fDims := rfl
    rw [(pP_type hcc h' hn' (j := 0) (by omega)).2, dP_len, e4, Axis_spec (by have : (canonT t).fDims.length = t.fDims.length := rfl; omega), hk]
  rw [parts_at (by omega), ob_some, hax, ob_some]
  unfold jn moves_Do.k4
  show (some (outV t.fType t.fDims)).bind _ = _
  rw [ob_some]
  show (moves_move_one (f + 4) ⟨47, s, partsT (canonT t) l k, pP (canonT t) l k 0, (k : Int)⟩ (canonT t).fDims []).bind _ = _
  rw [one_c hcc h' hn' (by omega), ob_some]
end
end Go.Av
