/- Layer 4, shapes: what the plain functions come to. Strides, indices, offsets. Copies. Layer 5: sameness, whether a tensor may be, copies whose no numbers are one. Lists of numbers alike. Sameness of two tensors. Any tensors: as constant values; whether each may be. New tensors, elements picked. Orders of axes: sums and products in another order, places there and back. All indices of dims in row order; elements picked by a place of each. Sums of indices by strides; axes; copies. What infer tells of SpaceToDepth and DepthToSpace. Picks that lead back; the places of SpaceToDepth and DepthToSpace. What SpaceToDepth and DepthToSpace make of a tensor. Conditions: those that each names. -/
import Derived.Test.YtnpnomlnajgbcaaGreatQS
import Derived.Test.YtnpnomlnajgbcaaGreatPl
set_option linter.unusedVariables false
namespace Go.Av

/-- where the first stands that fits; -1 -/
def fstAt (p : Int → Bool) : Nat → List Int → Int
  | _, [] => -1
  | i, x :: l => if p x = true then i else fstAt p (i + 1) l
theorem fstAt_any (p : Int → Bool) : ∀ (l : List Int) (i : Nat), decide (0 ≤ fstAt p i l) = l.any p
  | [], i => rfl
  | x :: l, i => by
    simp only [fstAt, List.any_cons]
    by_cases h : p x = true
    · simp [h]
    · simp [h, ← fstAt_any p l (i + 1)]
def Short (l : List Int) : Prop := l.length ≤ 140737488355328

/-- one round: a counter goes on -/
theorem wk_succ {k : Nat} (h : k ≤ 140737488355328) : wk .i64 ((k : Int) + 1) = ((k + 1 : Nat) : Int) := by rw [wk_eq (by omega) (by omega)]; omega

theorem IndexFunc_spec {fu : Nat} {l : List Int} {p : Int → Option Bool} {q : Int → Bool} (hp : ∀ x, p x = some (q x)) (hl : Short l) (hf : l.length < fu) : slices_IndexFunc_int fu l p = some (fstAt q 0 l) := by
  unfold slices_IndexFunc_int slices_IndexFunc_int.W1
  refine cloop_ind (fun (i : Int) => some (fstAt q i.toNat (l.drop i.toNat))) (fun i => 0 ≤ i ∧ i ≤ l.length) (fun i => l.length - i.toNat) ?_ fu 0 (by omega) (by simp; omega)
  rintro i ⟨h0, h1⟩ next hn
  obtain ⟨k, rfl⟩ := Int.eq_ofNat_of_zero_le h0
  unfold slices_IndexFunc_int.L1
  simp only [Int.toNat_natCast]
  by_cases hk : k < l.length
  · rw [if_pos (by omega), at?_get hk, ob_some, hp, ob_some, List.drop_eq_getElem_cons hk]
    simp only [fstAt]
    by_cases hq : q l[k] = true
    · rw [if_pos hq, if_pos hq]
    · rw [if_neg hq, if_neg hq, wk_succ (by unfold Short at hl; omega), hn _ (by omega) (by simp; omega)]
      simp
  · rw [if_neg (by omega), List.drop_of_length_le (by omega)]; rfl
theorem ContainsFunc_spec {fu : Nat} {l : List Int} {p : Int → Option Bool} {q : Int → Bool} (hp : ∀ x, p x = some (q x)) (hl : Short l) (hf : l.length < fu) : slices_ContainsFunc_int fu l p = some (l.any q) := by
  unfold slices_ContainsFunc_int
  rw [IndexFunc_spec hp hl hf, ob_some, fstAt_any]
theorem IndexI_spec {fu : Nat} {l : List Int} {x : Int} (hl : Short l) (hf : l.length < fu) : slices_Index_int fu l x = some (fstAt (fun y => decide (x = y)) 0 l) := by
  unfold slices_Index_int slices_Index_int.W1
  refine cloop_ind (fun (i : Int) => some (fstAt (fun y => decide (x = y)) i.toNat (l.drop i.toNat))) (fun i => 0 ≤ i ∧ i ≤ l.length) (fun i => l.length - i.toNat) ?_ fu 0 (by omega) (by simp; omega)
  rintro i ⟨h0, h1⟩ next hn
  obtain ⟨k, rfl⟩ := Int.eq_ofNat_of_zero_le h0
  unfold slices_Index_int.L1
  simp only [Int.toNat_natCast]
  by_cases hk : k < l.length
  · rw [if_pos (by omega), at?_get hk, ob_some, List.drop_eq_getElem_cons hk]
    simp only [fstAt]
    by_cases hq : x = l[k]
    · rw [if_pos hq, if_pos (by simpa using hq)]
    · rw [if_neg hq, if_neg (by simpa using hq), wk_succ (by unfold Short at hl; omega), hn _ (by omega) (by simp; omega)]
      simp
  · rw [if_neg (by omega), List.drop_of_length_le (by omega)]; rfl
theorem Contains_spec {fu : Nat} {l : List Int} {x : Int} (hl : Short l) (hf : l.length < fu) : slices_Contains_int fu l x = some (l.any fun y => decide (x = y)) := by
  unfold slices_Contains_int
  rw [IndexI_spec hl hf, ob_some, fstAt_any]

/-- the product -/
def prod : List Int → Int
  | [] => 1
  | x :: l => x * prod l
def Rng (l : List Int) : Prop := ∀ x ∈ l, 0 ≤ x ∧ x ≤ 4096
/-- dims that may be -/
def Good (l : List Int) : Prop := l.length ≤ 8 ∧ Rng l ∧ prod l ≤ 4096
instance (l : List Int) : Decidable (Rng l) := by unfold Rng; infer_instance
instance (l : List Int) : Decidable (Good l) := by unfold Good; infer_instance
def errS (l : List Int) : Int := if l.any (fun x => decide (x < 0)) = true then 1 else 4
def sizeV (l : List Int) : Int × Int := if Good l then (prod l, 0) else (0, errS l)
theorem errS_ne (l : List Int) : errS l ≠ 0 := by unfold errS; split <;> decide
theorem prod_nonneg : ∀ {l : List Int}, Rng l → 0 ≤ prod l
  | [], _ => by decide
  | x :: l, h => Int.mul_nonneg (h x (by simp)).1 (prod_nonneg fun y hy => h y (by simp [hy]))
theorem prod_pos : ∀ {l : List Int}, (∀ x ∈ l, 1 ≤ x) → 1 ≤ prod l
  | [], _ => by decide
  | x :: l, h => by
    have h1 := h x (by simp)
    have h2 := prod_pos (l := l) fun y hy => h y (by simp [hy])
    have := Int.mul_le_mul h1 h2 (by decide) (by omega)
    simpa [prod] using this
theorem prod_zero : ∀ {l : List Int}, 0 ∈ l → prod l = 0
  | x :: l, h => by
    rcases List.mem_cons.1 h with rfl | h
    · simp [prod]
    · simp [prod, prod_zero h]
theorem prod_zero_mem : ∀ {l : List Int}, prod l = 0 → 0 ∈ l
  | [], h => by simp [prod] at h
  | x :: l, h => by
    rcases Int.mul_eq_zero.1 h with rfl | h
    · simp
    · simp [prod_zero_mem h]
theorem div_lt_iff {m d : Int} (hm : 1 ≤ m) (hd : 0 ≤ d) : (Int.tdiv 4096 m < d) ↔ 4096 < m * d := by
  rw [Int.tdiv_eq_ediv_of_nonneg (by decide)]
  constructor
  · intro h
    have := Int.lt_mul_of_ediv_lt (by omega : 0 < m) h
    rwa [Int.mul_comm] at this
  · intro h
    exact Int.ediv_lt_of_lt_mul (by omega) (by rwa [Int.mul_comm])
theorem SizeW_spec {fu : Nat} {l : List Int} (hp : ∀ x ∈ l, 1 ≤ x ∧ x ≤ 4096) (hl : l.length ≤ 8) (hf : l.length < fu) : shape_Size.W1 fu l 1 0 = some (if prod l ≤ 4096 then (prod l, 0) else (0, 4)) := by
  unfold shape_Size.W1
  refine (cloop_ind (fun (s : Int × Int) => some (if s.1 * prod (l.drop s.2.toNat) ≤ 4096 then (s.1 * prod (l.drop s.2.toNat), 0) else (0, 4))) (fun s => 0 ≤ s.2 ∧ s.2 ≤ l.length ∧ 1 ≤ s.1 ∧ s.1 ≤ 4096) (fun s => l.length - s.2.toNat) ?_ fu (1, 0) (by simp) (by simp; omega)).trans (by simp)
  rintro ⟨m, i⟩ ⟨h0, h1, h2, h3⟩ next hn
  simp only at h0 h1 h2 h3 hn ⊢
  obtain ⟨k, rfl⟩ := Int.eq_ofNat_of_zero_le h0
  unfold shape_Size.L1
  simp only [Int.toNat_natCast]
  by_cases hk : k < l.length
  · obtain ⟨q1, q2⟩ := hp _ (List.getElem_mem hk)
    have t0 : 0 ≤ Int.tdiv 4096 m ∧ Int.tdiv 4096 m ≤ 4096 := by
      rw [Int.tdiv_eq_ediv_of_nonneg (by decide)]
      exact ⟨Int.ediv_nonneg (by decide) (by omega), Int.ediv_le_self _ (by decide)⟩
    rw [if_pos (by omega), at?_get hk, ob_some, chk_pos (by omega), wk_eq (by omega) (by omega), List.drop_eq_getElem_cons hk]
    have hpos : 1 ≤ prod (l.drop (k + 1)) := prod_pos fun x hx => (hp x (List.mem_of_mem_drop hx)).1
    have hge : 1 ≤ m * l[k] := by have := Int.mul_le_mul h2 q1 (by decide) (by omega); simpa using this
    simp only [prod, ← Int.mul_assoc]
    by_cases hd : Int.tdiv 4096 m < l[k]
    · rw [if_pos hd]
      rw [div_lt_iff h2 (by omega)] at hd
      have : m * l[k] * 1 ≤ m * l[k] * prod (l.drop (k + 1)) := Int.mul_le_mul_of_nonneg_left hpos (by omega)
      rw [if_neg (by omega)]
    · rw [if_neg hd]
      rw [div_lt_iff h2 (by omega)] at hd
      rw [wk_eq (by omega) (by omega), wk_succ (by omega), hn (m * l[k], ((k + 1 : Nat) : Int)) ⟨by simp only []; omega, by simp only []; omega, hge, by simp only []; omega⟩ (by simp; omega)]
      simp
  · rw [if_neg (by omega), List.drop_of_length_le (by omega)]
    simp only [prod, Int.mul_one]
    rw [if_pos h3]
theorem Size_spec {fu : Nat} {l : List Int} (hl : Short l) (hf : l.length < fu) : shape_Size fu l = some (sizeV l) := by
  unfold shape_Size; try unfold jn
  rw [ContainsFunc_spec (p := fun y0 => shape_Size_1 fu y0) (q := fun x => decide (x < 0)) (fun x => rfl) hl hf, ob_some]
  by_cases h1 : l.any (fun x => decide (x < 0)) = true
  · rw [if_pos h1]
    have hg : ¬ Good l := fun hg => by
      obtain ⟨x, hx, hx2⟩ := List.any_eq_true.1 h1
      have := (hg.2.1 x hx).1
      simp at hx2; omega
    simp only [sizeV, if_neg hg, errS, if_pos h1]
  rw [if_neg h1]
  have he : errS l = 4 := by simp only [errS, if_neg h1]
  by_cases h2 : 8 < (l.length : Int)
  · rw [if_pos h2]
    have hg : ¬ Good l := fun hg => by have := hg.1; omega
    simp only [sizeV, if_neg hg, he]
  rw [if_neg h2, ContainsFunc_spec (p := fun y0 => shape_Size_2 fu y0) (q := fun x => decide (4096 < x)) (fun x => rfl) hl hf, ob_some]
  by_cases h3 : l.any (fun x => decide (4096 < x)) = true
  · rw [if_pos h3]
    have hg : ¬ Good l := fun hg => by
      obtain ⟨x, hx, hx2⟩ := List.any_eq_true.1 h3
      have := (hg.2.1 x hx).2
      simp at hx2; omega
    simp only [sizeV, if_neg hg, he]
  rw [if_neg h3]
  have hr : Rng l := fun x hx => by
    simp only [List.any_eq_true, decide_eq_true_eq, not_exists, not_and] at h1 h3
    have := h1 x hx; have := h3 x hx; omega
  unfold shape_Size.k1
  rw [Contains_spec hl hf, ob_some]
  by_cases h4 : (l.any fun y => decide ((0 : Int) = y)) = true
  · rw [if_pos h4]
    have hz : (0 : Int) ∈ l := by
      obtain ⟨x, hx, hx2⟩ := List.any_eq_true.1 h4
      simp at hx2; subst hx2; exact hx
    have hg : Good l := ⟨by omega, hr, by rw [prod_zero hz]; decide⟩
    simp only [sizeV, if_pos hg, prod_zero hz]
  rw [if_neg h4]
  have hp : ∀ x ∈ l, 1 ≤ x ∧ x ≤ 4096 := fun x hx => by
    have := hr x hx
    simp only [List.any_eq_true, decide_eq_true_eq, not_exists, not_and] at h4
    have := h4 x hx; omega
  rw [SizeW_spec hp (by omega) hf]
  by_cases h5 : prod l ≤ 4096
  · have hg : Good l := ⟨by omega, hr, h5⟩
    simp only [sizeV, if_pos hg, if_pos h5]
  · have hg : ¬ Good l := fun hg => h5 hg.2.2
    simp only [sizeV, if_neg hg, if_neg h5, he]
end Go.Av
set_option linter.unusedVariables false
namespace Go.Av
def strdW : List Int → List Int
  | [] => []
  | _ :: l => wk .i64 (prod l) :: strdW l
theorem strdW_length : ∀ l, (strdW l).length = l.length
  | [] => rfl
  | _ :: l => by simp [strdW, strdW_length l]
theorem strdW_get : ∀ {l : List Int} {i : Nat} (h : i < l.length), (strdW l)[i]? = some (wk .i64 (prod (l.drop (i + 1))))
  | _ :: l, 0, _ => by simp [strdW]
  | _ :: l, i + 1, h => by
    have := strdW_get (l := l) (i := i) (by simpa using h)
    simpa [strdW] using this
theorem rep_set (i : Nat) (x : Int) (s : List Int) : (List.replicate (i + 1) 0 ++ s).set i x = List.replicate i 0 ++ x :: s := by
  rw [List.replicate_succ', List.append_assoc, List.set_append_right _ _ (by simp)]
  simp
theorem strides_spec {fu : Nat} {l : List Int} (hl : l.length * 8 ≤ 140737488355328) (hf : l.length < fu) : shape_strides fu l = some (strdW l) := by
  unfold shape_strides shape_strides.W1
  rw [chk_pos (by omega)]
  have hw : wk .i64 ((l.length : Int) - 1) = ((l.length : Int) - 1) := wk_eq (by omega) (by omega)
  rw [hw, Int.toNat_natCast]
  refine (cloop_ind (fun _ => some (strdW l)) (fun (s : List Int × Int × Int) => ∃ k : Nat, k ≤ l.length ∧ s = (List.replicate k 0 ++ strdW (l.drop k), wk .i64 (prod (l.drop k)), (k : Int) - 1)) (fun s => (s.2.2 + 1).toNat) ?_ fu _ ⟨l.length, Nat.le_refl _, by simp [strdW, prod]; decide⟩ (by simp; omega))
  rintro _ ⟨k, hk, rfl⟩ next hn
  unfold shape_strides.L1
  simp only
  match k, hk with
  | 0, _ => rw [if_neg (by decide)]; simp
  | k + 1, hk =>
    have e1 : (((k + 1 : Nat) : Int) - 1) = (k : Int) := by omega
    have hlen : (List.replicate (k + 1) (0 : Int) ++ strdW (l.drop (k + 1))).length = l.length := by simp [strdW_length]; omega
    rw [e1, if_pos (by omega), hlen, chk_pos (by omega), at?_get (by omega), ob_some, Int.toNat_natCast, rep_set, wk_mul_l, wk_eq (x := (k : Int) - 1) (by omega) (by omega)]
    refine hn _ ⟨k, by omega, ?_⟩ (by simp)
    rw [List.drop_eq_getElem_cons (by omega : k < l.length)]
    simp only [strdW, prod]
    rw [Int.mul_comm]

/-- all strides and indices of dims without noughts are small -/
theorem prod_drop_le {l : List Int} (hp : ∀ x ∈ l, 1 ≤ x) : ∀ k, 1 ≤ prod (l.drop k) ∧ prod (l.drop k) ≤ prod l := by
  induction l with
  | nil => intro k; simp [prod]
  | cons x l ih =>
    intro k
    have hx := hp x (by simp)
    have ih' := ih fun y hy => hp y (by simp [hy])
    cases k with
    | zero => exact ⟨by simpa using prod_pos hp, by simp⟩
    | succ k =>
      obtain ⟨h1, h2⟩ := ih' k
      have h3 := prod_pos (l := l) fun y hy => hp y (by simp [hy])
      refine ⟨by simpa using h1, ?_⟩
      simp only [List.drop_succ_cons, prod]
      have : 1 * prod l ≤ x * prod l := Int.mul_le_mul_of_nonneg_right hx (by omega)
      omega
theorem pos_of_good {l : List Int} (hg : Good l) (h0 : prod l ≠ 0) : ∀ x ∈ l, 1 ≤ x := fun x hx => by
  have := (hg.2.1 x hx).1
  by_cases h : x = 0
  · subst h; exact absurd (prod_zero hx) h0
  · omega
theorem good_short {l : List Int} (hg : Good l) : l.length * 8 ≤ 140737488355328 := by have := hg.1; omega

def idxV : List Int → Int → List Int
  | [], _ => []
  | _ :: l, a => a / prod l :: idxV l (a % prod l)
theorem idxV_length : ∀ l a, (idxV l a).length = l.length
  | [], _ => rfl
  | _ :: l, a => by simp [idxV, idxV_length l]
/-- do indices stand within dims? -/
def okIx : List Int → List Int → Bool
  | d :: l, x :: xs => decide (0 ≤ x) && decide (x < d) && okIx l xs
  | _, _ => true
def offV : List Int → List Int → Int
  | _ :: l, x :: xs => x * prod l + offV l xs
  | _, _ => 0
/-- from a place to its indices and back -/
theorem okIx_idx : ∀ {l : List Int} {a : Int}, (∀ x ∈ l, 1 ≤ x) → 0 ≤ a → a < prod l → okIx l (idxV l a) = true
  | [], _, _, _, _ => rfl
  | d :: l, a, hp, h0, h1 => by
    have hq : 1 ≤ prod l := prod_pos fun x hx => hp x (by simp [hx])
    have h2 : 0 ≤ a / prod l := Int.ediv_nonneg h0 (by omega)
    have h3 : a / prod l < d := Int.ediv_lt_of_lt_mul (by omega) h1
    have h4 := okIx_idx (l := l) (a := a % prod l) (fun x hx => hp x (by simp [hx])) (Int.emod_nonneg _ (by omega)) (Int.emod_lt_of_pos _ (by omega))
    simp [idxV, okIx, h2, h3, h4]
theorem offV_idx : ∀ {l : List Int} {a : Int}, (∀ x ∈ l, 1 ≤ x) → 0 ≤ a → a < prod l → offV l (idxV l a) = a
  | [], a, _, h0, h1 => by simp [prod] at h1; simp [offV]; omega
  | d :: l, a, hp, h0, h1 => by
    have hq : 1 ≤ prod l := prod_pos fun x hx => hp x (by simp [hx])
    have h4 := offV_idx (l := l) (a := a % prod l) (fun x hx => hp x (by simp [hx])) (Int.emod_nonneg _ (by omega)) (Int.emod_lt_of_pos _ (by omega))
    simp only [idxV, offV, h4]
    rw [Int.mul_comm]
    exact Int.mul_ediv_add_emod a (prod l)
end Go.Av
set_option linter.unusedVariables false
namespace Go.Av
theorem Clone_spec {fu : Nat} {l : List Int} (h : l.length * 8 ≤ 140737488355328) : slices_Clone_int fu l = some l := by
  unfold slices_Clone_int
  rw [chk_pos (by omega)]
end Go.Av
set_option linter.unusedVariables false
namespace Go.Av
def sameT (a b : T_Tensor) : Bool := decide (a.fType = b.fType) && decide (a.fDims = b.fDims) && decide (a.fF = b.fF) && decide (a.fI = b.fI) && decide (a.fB = b.fB)
def Small (t : T_Tensor) : Prop := t.fDims.length * 8 ≤ 140737488351232 ∧ t.fF.length ≤ 140737488351232 ∧ t.fI.length ≤ 140737488351232 ∧ t.fB.length ≤ 140737488351232
def Fuel (fu : Nat) (t : T_Tensor) : Prop := t.fDims.length < fu ∧ t.fF.length < fu ∧ t.fI.length < fu ∧ t.fB.length < fu
theorem sameT_self (a : T_Tensor) : sameT a a = true := by simp [sameT]
def noT : T_Tensor := ⟨0, [], [], [], []⟩
theorem known_spec {fu : Nat} {k : Int} : tens_known fu k = some (decide (k = 1 ∨ k = 7 ∨ k = 9)) := by
  unfold tens_known tens_Width
  by_cases h1 : k = 1
  · simp [h1]
  · by_cases h2 : k = 7
    · simp [h2]
    · by_cases h3 : k = 9 <;> simp [h1, h2, h3]
def Known (k : Int) : Prop := k = 1 ∨ k = 7 ∨ k = 9
instance (k : Int) : Decidable (Known k) := by unfold Known; infer_instance
def LensOK (t : T_Tensor) : Prop := (t.fF.length : Int) = (if t.fType = 1 then prod t.fDims else 0) ∧ (t.fI.length : Int) = (if t.fType = 7 then prod t.fDims else 0) ∧ (t.fB.length : Int) = (if t.fType = 9 then prod t.fDims else 0)
instance (t : T_Tensor) : Decidable (LensOK t) := by unfold LensOK; infer_instance
def checkV (t : T_Tensor) : Int := if Known t.fType then (if Good t.fDims then (if LensOK t then 0 else 3) else errS t.fDims) else 5
theorem Check_spec {fu : Nat} {t : T_Tensor} (hs : Small t) (hf : Fuel fu t) : tens_Check fu t = some (checkV t) := by
  obtain ⟨s1, s2, s3, s4⟩ := hs
  unfold tens_Check checkV; try unfold jn
  rw [known_spec, ob_some, Size_spec (by unfold Short; omega) hf.1]
  by_cases hk : Known t.fType
  · rw [if_pos (by simpa [Known] using hk), ob_some, if_pos hk]
    simp only [sizeV]
    by_cases hg : Good t.fDims
    · simp only [if_pos hg, if_true]
      have hp := prod_nonneg hg.2.1
      have hsum : wk .i64 ((wk .i64 ((t.fF.length : Int) + (t.fI.length : Int))) + (t.fB.length : Int)) = t.fF.length + t.fI.length + t.fB.length := by
        rw [wk_add_l, wk_eq (by omega) (by omega)]
      unfold tens_Check.k1 LensOK
      simp only [hsum]
      rcases hk with e | e | e
      · simp only [e, show ¬ (1 : Int) = 7 by decide, show ¬ (1 : Int) = 9 by decide, if_false, if_true]
        by_cases h1 : (t.fF.length : Int) = prod t.fDims
        · by_cases h2 : (t.fF.length : Int) + t.fI.length + t.fB.length = prod t.fDims
          · rw [if_pos h1, if_pos h2, if_pos ⟨h1, by omega, by omega⟩]
          · rw [if_pos h1, if_neg h2, if_neg (fun h => h2 (by omega))]
        · rw [if_neg h1, if_neg (fun h => h1 h.1)]
      · simp only [e, show ¬ (7 : Int) = 1 by decide, show ¬ (7 : Int) = 9 by decide, if_false, if_true]
        by_cases h1 : (t.fI.length : Int) = prod t.fDims
        · by_cases h2 : (t.fF.length : Int) + t.fI.length + t.fB.length = prod t.fDims
          · rw [if_pos h1, if_pos h2, if_pos ⟨by omega, h1, by omega⟩]
          · rw [if_pos h1, if_neg h2, if_neg (fun h => h2 (by omega))]
        · rw [if_neg h1, if_neg (fun h => h1 h.2.1)]
      · simp only [e, show ¬ (9 : Int) = 1 by decide, show ¬ (9 : Int) = 7 by decide, if_false, if_true]
        by_cases h1 : (t.fB.length : Int) = prod t.fDims
        · by_cases h2 : (t.fF.length : Int) + t.fI.length + t.fB.length = prod t.fDims
          · rw [if_pos h1, if_pos h2, if_pos ⟨by omega, by omega, h1⟩]
          · rw [if_pos h1, if_neg h2, if_neg (fun h => h2 (by omega))]
        · rw [if_neg h1, if_neg (fun h => h1 h.2.2)]
    · simp only [if_neg hg]
      rw [if_neg (errS_ne _)]
  · rw [if_neg (by simpa [Known] using hk), if_neg hk]
theorem checkV_zero {t : T_Tensor} : checkV t = 0 ↔ Known t.fType ∧ Good t.fDims ∧ LensOK t := by
  unfold checkV
  by_cases hk : Known t.fType <;> by_cases hg : Good t.fDims <;> by_cases hl : LensOK t <;> simp [hk, hg, hl, errS_ne]

theorem map_loop {β : Type} {l : List Int} {f : Int → Int} {B : ((List Int × Int) → Option β) → (List Int × Int) → Option β} {c : List Int → Option β} {fu : Nat} (hf : l.length < fu)
    (hB : ∀ (next : List Int × Int → Option β) (k : Nat) (m : List Int) (hk : k < l.length), m.length = l.length → (hm : m[k]? = some l[k]) → B next (m, (k : Int)) = next (m.set k (f l[k]), ((k + 1 : Nat) : Int)))
    (hE : ∀ next (m : List Int), m.length = l.length → B next (m, (l.length : Int)) = c m) : cloop B fu (l, 0) = c (l.map f) := by
  have := cloop_up (body := B) (n := fu) l.length (fun k => (l.take k).map f ++ l.drop k) (c (l.map f)) ?_ ?_ hf
  · simpa using this
  · intro k hk next hn
    have hlk : ((l.take k).map f).length = k := by simp; omega
    rw [hB next k _ hk (by simp; omega) (by rw [List.getElem?_append_right (by omega), hlk, Nat.sub_self, List.getElem?_drop]; simp [hk])]
    have e : ((l.take k).map f ++ l.drop k).set k (f l[k]) = (l.take (k + 1)).map f ++ l.drop (k + 1) := by
      rw [List.set_append_right _ _ (by omega), hlk, Nat.sub_self, List.drop_eq_getElem_cons hk, List.set_cons_zero, List.take_add_one, List.getElem?_eq_getElem hk, List.map_append, List.append_assoc]
      rfl
    rw [e]
    exact hn
  · intro next
    rw [hE _ _ (by simp)]
    simp
def canonF (x : Int) : Int := if 2139095040 < x % 2147483648 then 2143289344 else x
def canonT (t : T_Tensor) : T_Tensor := ⟨t.fType, t.fDims, t.fF.map canonF, t.fI, t.fB⟩
theorem wk_eq32 {x : Int} (h0 : 0 ≤ x) (h1 : x < 4294967296) : wk .u32 x = x := by
  have : wk .u32 x = x % 4294967296 := by simp [wk, IntKind.wrap, IntKind.signed, IntKind.bits]
  rw [this, Int.emod_eq_of_lt h0 h1]
theorem abs_u32 {x : Int} (h0 : 0 ≤ x) (h1 : x < 4294967296) : bandn .u32 x 2147483648 = x % 2147483648 := by
  unfold bandn
  rw [show IntKind.u32.bits = 32 from rfl, show ~~~(BitVec.ofInt 32 2147483648) = BitVec.ofNat 32 (2 ^ 31 - 1) by decide, BitVec.toNat_and, BitVec.toNat_ofNat, BitVec.toNat_ofInt]
  have : (2 ^ 31 - 1) % 2 ^ 32 = 2 ^ 31 - 1 := by decide
  rw [this, Nat.and_two_pow_sub_one_eq_mod]
  have hw := wk_eq32 (x := (((x % ((2 ^ 32 : Nat) : Int)).toNat % 2 ^ 31 : Nat) : Int)) (by omega) (by omega)
  unfold wk at hw
  rw [hw]
  omega
theorem softCanon_spec {fu : Nat} {x : Int} (h0 : 0 ≤ x) (h1 : x < 4294967296) : soft_Canon fu x = some (canonF x) := by
  unfold soft_Canon soft_NaN soft_Abs canonF
  rw [abs_u32 h0 h1, ob_some, ob_some]
  by_cases h : 2139095040 < x % 2147483648 <;> simp [h]
def Ten (t : T_Tensor) : Prop := t.fDims.length * 8 ≤ 140737488351232 ∧ t.fF.length * 4 ≤ 140737488351232 ∧ t.fI.length * 8 ≤ 140737488351232 ∧ t.fB.length ≤ 140737488351232 ∧ ∀ x ∈ t.fF, 0 ≤ x ∧ x < 4294967296
theorem Ten.small {t : T_Tensor} (h : Ten t) : Small t := by obtain ⟨a, b, c, d, _⟩ := h; exact ⟨a, by omega, by omega, by omega⟩
theorem Copy_spec {fu : Nat} {t : T_Tensor} (h : Ten t) : tens_Copy fu t = some t := by
  obtain ⟨h1, h2, h3, h4, _⟩ := h
  unfold tens_Copy tens_own_int tens_own_uint32 tens_own_int64 tens_own_bool
  rw [chk_pos (by omega), ob_some, chk_pos (by omega), ob_some, chk_pos (by omega), ob_some, chk_pos (by omega), ob_some]
theorem Canon_spec {fu : Nat} {t : T_Tensor} (h : Ten t) (hf : t.fF.length < fu) : tens_Canon fu t = some (canonT t) := by
  have hu := h.2.2.2.2
  have hl := h.2.1
  unfold tens_Canon
  rw [Copy_spec h, ob_some]
  unfold tens_Canon.W1
  refine map_loop (f := canonF) (c := fun m => some (T_Tensor.mk t.fType t.fDims m t.fI t.fB)) hf ?_ ?_
  · intro next k m hk hm hg
    unfold tens_Canon.L1
    simp only []
    obtain ⟨u1, u2⟩ := hu _ (List.getElem_mem hk)
    rw [if_pos (by omega), at?_nat, hg, ob_some, softCanon_spec u1 u2, ob_some, chk_pos (by omega), wk_succ (by omega)]
    rfl
  · intro next m hm
    unfold tens_Canon.L1
    rw [if_neg (by simp)]
end Go.Av
set_option linter.unusedVariables false
namespace Go.Av
theorem drop_same {a b : List Int} {i : Nat} (ha : i < a.length) (hb : i < b.length) : a.drop i = b.drop i ↔ a[i] = b[i] ∧ a.drop (i + 1) = b.drop (i + 1) := by
  rw [List.drop_eq_getElem_cons ha, List.drop_eq_getElem_cons hb]
  exact List.cons_eq_cons
theorem SameInts_spec {fu : Nat} {a b : List Int} (hl : Short a) (hf : a.length < fu) : ref04_SameInts fu a b = some (decide (a = b)) := by
  unfold ref04_SameInts ref04_SameInts.W1
  by_cases hlen : a.length = b.length
  · rw [if_pos (by omega)]
    refine (cloop_ind (fun (i : Int) => some (decide (a.drop i.toNat = b.drop i.toNat))) (fun i => 0 ≤ i ∧ i ≤ a.length) (fun i => a.length - i.toNat) ?_ fu 0 (by simp) (by simp; omega)).trans (by simp)
    rintro i ⟨h0, h1⟩ next hn
    obtain ⟨k, rfl⟩ := Int.eq_ofNat_of_zero_le h0
    unfold ref04_SameInts.L1
    simp only [Int.toNat_natCast]
    by_cases hk : k < a.length
    · rw [if_pos (by omega), at?_get hk, ob_some, at?_get (by omega : k < b.length), ob_some, wk_succ (by unfold Short at hl; omega)]
      have hd := drop_same hk (by omega : k < b.length)
      by_cases he : a[k] = b[k]
      · rw [if_pos he, hn _ (by omega) (by simp; omega)]
        simp [hd, he]
      · rw [if_neg he]
        simp [hd, he]
    · rw [if_neg (by omega)]
      have e1 : a.drop k = b.drop k := by rw [List.drop_of_length_le (by omega), List.drop_of_length_le (by omega)]
      simp [e1]
  · rw [if_neg (by omega)]
    have : ¬ a = b := fun h => hlen (by rw [h])
    simp [this]
end Go.Av
set_option linter.unusedVariables false
namespace Go.Av
theorem same_loop {α : Type} [DecidableEq α] {a b : List α} (hl : a.length = b.length) {fu : Nat} (hf : a.length < fu) (hs : a.length ≤ 140737488355328) {L : (Int → Option Bool) → Int → Option Bool} {c : Option Bool}
    (hL : ∀ nx i, L nx i = if i < (a.length : Int) then ((at? a i).bind fun x => (at? b i).bind fun y => if x = y then (nx (wk .i64 (i + 1))) else some false) else c) : cloop L fu 0 = if a = b then c else some false := by
  refine (cloop_ind (fun (i : Int) => if a.drop i.toNat = b.drop i.toNat then c else some false) (fun i => 0 ≤ i ∧ i ≤ a.length) (fun i => a.length - i.toNat) ?_ fu 0 (by simp) (by simp; omega)).trans (by simp)
  rintro i ⟨h0, h1⟩ next hn
  obtain ⟨k, rfl⟩ := Int.eq_ofNat_of_zero_le h0
  rw [hL]
  simp only [Int.toNat_natCast]
  by_cases hk : k < a.length
  · have hkb : k < b.length := by omega
    have hd : a.drop k = b.drop k ↔ a[k] = b[k] ∧ a.drop (k + 1) = b.drop (k + 1) := by
      rw [List.drop_eq_getElem_cons hk, List.drop_eq_getElem_cons hkb]; exact List.cons_eq_cons
    rw [if_pos (by omega), at?_get hk, ob_some, at?_get hkb, ob_some, wk_succ (by omega)]
    by_cases he : a[k] = b[k]
    · rw [if_pos he, hn _ (by omega) (by simp; omega)]
      by_cases h2 : a.drop (k + 1) = b.drop (k + 1)
      · rw [if_pos (by simpa using h2), if_pos (hd.2 ⟨he, h2⟩)]
      · rw [if_neg (by simpa using h2), if_neg (fun h => h2 (hd.1 h).2)]
    · rw [if_neg he, if_neg (fun h => he (hd.1 h).1)]
  · rw [if_neg (by omega), if_pos (by rw [List.drop_of_length_le (by omega), List.drop_of_length_le (by omega)])]
theorem refSame_spec {fu : Nat} {a b : T_Tensor} (hs : Small a) (hf : Fuel fu a) : ref05_Same fu a b = some (sameT a b) := by
  obtain ⟨s1, s2, s3, s4⟩ := hs
  obtain ⟨f1, f2, f3, f4⟩ := hf
  unfold ref05_Same sameT; try unfold jn
  by_cases h1 : a.fType = b.fType
  · rw [if_pos h1, SameInts_spec (by unfold Short; omega) f1, ob_some]
    by_cases h2 : a.fDims = b.fDims
    · rw [if_pos (by simpa using h2)]
      by_cases l3 : a.fF.length = b.fF.length
      · rw [if_pos (by omega)]
        by_cases l4 : a.fI.length = b.fI.length
        · rw [if_pos (by omega)]
          by_cases l5 : a.fB.length = b.fB.length
          · rw [if_pos (by omega)]
            unfold ref05_Same.k1 ref05_Same.W3; try unfold jn
            rw [same_loop (L := fun next s => ref05_Same.L3 fu a b next s) (a := a.fF) (b := b.fF) l3 f2 (by omega) (c := ref05_Same.k2 fu a b) (fun nx i => rfl)]
            unfold ref05_Same.k2 ref05_Same.W2; try unfold jn
            rw [same_loop (L := fun next s => ref05_Same.L2 fu a b next s) (a := a.fI) (b := b.fI) l4 f3 (by omega) (c := ref05_Same.k3 fu a b) (fun nx i => rfl)]
            unfold ref05_Same.k3 ref05_Same.W1
            rw [same_loop (L := fun next s => ref05_Same.L1 fu a b next s) (a := a.fB) (b := b.fB) l5 f4 (by omega) (c := some true) (fun nx i => by unfold ref05_Same.L1; simp only [beq_iff_eq])]
            by_cases e3 : a.fF = b.fF <;> by_cases e4 : a.fI = b.fI <;> by_cases e5 : a.fB = b.fB <;> simp [h1, h2, e3, e4, e5]
          · rw [if_neg (by omega)]
            have : ¬ a.fB = b.fB := fun h => l5 (by rw [h])
            simp [this]
        · rw [if_neg (by omega)]
          have : ¬ a.fI = b.fI := fun h => l4 (by rw [h])
          simp [this]
      · rw [if_neg (by omega)]
        have : ¬ a.fF = b.fF := fun h => l3 (by rw [h])
        simp [this]
    · rw [if_neg (by simpa using h2)]
      simp [h2]
  · rw [if_neg h1]
    simp [h1]
end Go.Av
set_option linter.unusedVariables false
namespace Go.Av
theorem cloop_succ {σ β : Type} {body : (σ → Option β) → σ → Option β} {n : Nat} {s : σ} : cloop body (n + 1) s = body (cloop body n) s := rfl
def zeroVal : T_Val := ⟨0, [], false, ⟨0, [], [], [], []⟩⟩
def valOf (t : T_Tensor) : T_Val := if t.fType = 0 then zeroVal else ⟨t.fType, t.fDims, true, t⟩
/-- tensors that memory holds -/
def Tens (fu : Nat) (l : List T_Tensor) : Prop := l.length ≤ 1048576 ∧ l.length < fu ∧ ∀ t ∈ l, Ten t ∧ Fuel fu t
theorem CloneI_spec {fu : Nat} {l : List Int} (h : l.length * 8 ≤ 140737488351232) : slices_Clone_int fu l = some l := by
  unfold slices_Clone_int; rw [chk_pos (by omega)]
theorem take_next {α β : Type} {f : α → β} {l : List α} {k : Nat} (hk : k < l.length) : (l.take (k + 1)).map f = (l.take k).map f ++ [f l[k]] := by
  rw [List.take_add_one, List.getElem?_eq_getElem hk, List.map_append]; rfl
theorem Vals_all {fu : Nat} {l : List T_Tensor} (h : Tens fu l) : ewise_Vals fu l = some (l.map valOf) := by
  unfold ewise_Vals ewise_Vals.W1
  have hl0 := h.1
  refine cloop_up l.length (fun k => (l.take k).map valOf) _ ?_ ?_ h.2.1
  · intro k hk next hn
    have ht := (h.2.2 _ (List.getElem_mem hk)).1
    show ewise_Vals.L1 fu l _ _ (k : Int) = _
    have hl : ((l.take k).map valOf).length = k := by simp; omega
    rw [take_next hk] at hn
    rw [ewise_Vals.L1, if_pos (by omega), at?_get hk, ob_some, wk_succ (by omega)]
    by_cases h0 : l[k].fType = 0
    · rw [if_pos h0, chk_pos (by rw [hl]; omega)]
      rw [valOf, if_pos h0] at hn
      exact hn
    · rw [if_neg h0, CloneI_spec ht.1, ob_some, Copy_spec ht, ob_some, chk_pos (by rw [hl]; omega)]
      rw [valOf, if_neg h0] at hn
      exact hn
  · intro next
    show ewise_Vals.L1 fu l _ _ (l.length : Int) = _
    rw [ewise_Vals.L1, if_neg (by omega), List.take_length]
/-- the first that may not be -/
def badV : List T_Tensor → Option Int
  | [] => none
  | t :: l => if t.fType = 0 ∨ checkV t = 0 then badV l else some (checkV t)
theorem badV_none {l : List T_Tensor} (h : badV l = none) : ∀ t ∈ l, t.fType = 0 ∨ checkV t = 0 := by
  induction l with
  | nil => intro t ht; cases ht
  | cons x l ih =>
    unfold badV at h
    split at h
    · rename_i hx
      intro t ht
      rcases List.mem_cons.1 ht with rfl | ht
      · exact hx
      · exact ih h t ht
    · cases h
theorem badV_some {l : List T_Tensor} {e : Int} (h : badV l = some e) : e ≠ 0 := by
  induction l with
  | nil => cases h
  | cons x l ih =>
    unfold badV at h
    split at h
    · exact ih h
    · rename_i hx
      injection h with h
      subst h
      exact fun h0 => hx (.inr h0)
/-- the loop at the head of each layer's operations: each tensor is looked at, and copied -/
theorem head_loop {β : Type} {fu : Nat} {l : List T_Tensor} (h : Tens fu l) {k1 : List T_Tensor → Option β} {er : Int → Option β} {L : (List T_Tensor → Int → Option β) → List T_Tensor → Int → Option β}
    (hL : ∀ nx acc i, L nx acc i = if i < (l.length : Int) then ((at? l i).bind fun x => if x.fType = 0 then ((tens_Canon fu x).bind fun y => chk ((acc.length + 1 : Int) * 104 ≤ 140737488355328) <| nx (acc ++ ([y])) (wk .i64 (i + 1))) else
      (tens_Check fu x).bind fun c => if c = 0 then ((tens_Canon fu x).bind fun y => chk ((acc.length + 1 : Int) * 104 ≤ 140737488355328) <| nx (acc ++ ([y])) (wk .i64 (i + 1))) else er c) else k1 acc) :
    cloop (fun next s => L (fun a b => next (a, b)) s.1 s.2) fu (([] : List T_Tensor), (0 : Int)) = match badV l with | some e => er e | none => k1 (l.map canonT) := by
  have hl0 := h.1
  have key : ∀ m q k : Nat, l.length - k = m → k ≤ l.length → m < q → cloop (fun next s => L (fun a b => next (a, b)) s.1 s.2) q ((l.take k).map canonT, (k : Int)) = match badV (l.drop k) with | some e => er e | none => k1 (l.map canonT) := by
    intro m
    induction m with
    | zero =>
      intro q k h1 h2 h3
      cases q with
      | zero => omega
      | succ q =>
        have : k = l.length := by omega
        subst this
        rw [cloop_succ]
        show L _ _ (l.length : Int) = _
        rw [hL, if_neg (by omega), List.take_length, List.drop_length]
        rfl
    | succ m ih =>
      intro q k h1 h2 h3
      cases q with
      | zero => omega
      | succ q =>
        have hk : k < l.length := by omega
        obtain ⟨ht, hf⟩ := h.2.2 _ (List.getElem_mem hk)
        have hl : ((l.take k).map canonT).length = k := by simp; omega
        have hn := ih q (k + 1) (by omega) (by omega) (by omega)
        rw [take_next hk] at hn
        rw [cloop_succ]
        show L _ _ (k : Int) = _
        rw [hL, if_pos (by omega), at?_get hk, ob_some, wk_succ (by omega), List.drop_eq_getElem_cons hk]
        unfold badV
        by_cases h0 : l[k].fType = 0
        · rw [if_pos h0, Canon_spec ht hf.2.1, ob_some, chk_pos (by rw [hl]; omega), if_pos (.inl h0)]
          exact hn
        · rw [if_neg h0, Check_spec ht.small hf, ob_some]
          by_cases hc : checkV l[k] = 0
          · rw [if_pos hc, Canon_spec ht hf.2.1, ob_some, chk_pos (by rw [hl]; omega), if_pos (.inr hc)]
            exact hn
          · rw [if_neg hc, if_neg (fun hh => hh.elim h0 hc)]
  exact key l.length fu 0 (by omega) (by omega) h.2.1
end Go.Av
set_option linter.unusedVariables false
namespace Go.Av
def newV (k : Int) (d : List Int) : T_Tensor × Int :=
  if k = 1 ∨ k = 7 ∨ k = 9 then (if Good d then (if k = 1 then (⟨k, d, List.replicate (prod d).toNat 0, [], []⟩, 0) else if k = 7 then (⟨k, d, [], List.replicate (prod d).toNat 0, []⟩, 0) else (⟨k, d, [], [], List.replicate (prod d).toNat false⟩, 0)) else (noT, errS d)) else (noT, 5)
theorem New_spec {fu : Nat} {k : Int} {d : List Int} (hd : Short d) (hf : d.length < fu) : tens_New fu k d = some (newV k d) := by
  unfold tens_New newV
  rw [known_spec, ob_some, Size_spec hd hf, ob_some]
  by_cases hk : k = 1 ∨ k = 7 ∨ k = 9
  · rw [if_pos (by simpa using hk), if_pos hk]
    simp only [sizeV]
    by_cases hg : Good d
    · simp only [if_pos hg, if_true]
      have h1 := prod_nonneg hg.2.1
      have h2 := hg.2.2
      have h3 := hg.1
      unfold slices_Clone_int
      rw [chk_pos (by omega), ob_some, chk_pos (by omega), chk_pos (by omega), chk_pos (by omega)]
      by_cases e1 : k = 1
      · rw [if_pos e1, if_pos e1]
      · rw [if_neg e1, if_neg e1]
        by_cases e2 : k = 7
        · rw [if_pos e2, if_pos e2]
        · rw [if_neg e2, if_neg e2]
    · simp only [if_neg hg]
      rw [if_neg (errS_ne d)]
      rfl
  · rw [if_neg (by simpa using hk), if_neg hk]
    rfl
/-- elements that are written one by one into a new row -/
theorem pick_loop {σ α β : Type} (st : List α → Nat → σ) {B : (σ → Option β) → σ → Option β} {at_ : List Int} (bad : Int → Bool) (pk : Int → α) (z : α) {e : Option β} {c : List α → Option β}
    (hB : ∀ (next : σ → Option β) (k : Nat) (m : List α) (hk : k < at_.length), m.length = at_.length → B next (st m k) = if bad at_[k] = true then e else next (st (if 0 ≤ at_[k] then m.set k (pk at_[k]) else m) (k + 1)))
    (hE : ∀ (next : σ → Option β) (m : List α), m.length = at_.length → B next (st m at_.length) = c m) (hz : ∀ a, ¬ 0 ≤ a → pk a = z) {fu : Nat} (hf : at_.length < fu) :
    cloop B fu (st (List.replicate at_.length z) 0) = if at_.any bad = true then e else c (at_.map pk) := by
  have key : ∀ (f k : Nat), k ≤ at_.length → at_.length - k < f → cloop B f (st ((at_.take k).map pk ++ List.replicate (at_.length - k) z) k) = if (at_.drop k).any bad = true then e else c (at_.map pk) := by
    intro f
    induction f with
    | zero => intro k _ h; omega
    | succ f ih =>
      intro k hk hf
      by_cases hkn : k = at_.length
      · subst hkn
        show B _ _ = _
        have := hE (cloop B f) ((at_.take at_.length).map pk ++ List.replicate (at_.length - at_.length) z) (by simp)
        rw [this]
        simp
      · have hk' : k < at_.length := by omega
        show B _ _ = _
        rw [hB _ _ _ hk' (by simp; omega), List.drop_eq_getElem_cons hk', List.any_cons]
        by_cases hb : bad at_[k] = true
        · simp [hb]
        · rw [if_neg hb]
          have hm : (if 0 ≤ at_[k] then ((at_.take k).map pk ++ List.replicate (at_.length - k) z).set k (pk at_[k]) else (at_.take k).map pk ++ List.replicate (at_.length - k) z) = (at_.take (k + 1)).map pk ++ List.replicate (at_.length - (k + 1)) z := by
            have hr : List.replicate (at_.length - k) z = z :: List.replicate (at_.length - (k + 1)) z := by rw [show at_.length - k = at_.length - (k + 1) + 1 by omega, List.replicate_succ]
            have ht : at_.take (k + 1) = at_.take k ++ [at_[k]] := by rw [List.take_add_one, List.getElem?_eq_getElem hk']; rfl
            have hlen : ((at_.take k).map pk).length = k := by simp; omega
            rw [hr, ht, List.map_append, List.append_assoc]
            split
            · rw [List.set_append_right _ _ (by omega), hlen, Nat.sub_self]
              rfl
            · rename_i h0
              rw [List.map_singleton, hz _ h0]
              rfl
          rw [hm, ih (k + 1) (by omega) (by omega)]
          simp [hb]
  have := key fu 0 (by omega) (by omega)
  simpa using this
def badP (N : Int) (x : Int) : Bool := decide (x < -1) || decide (N ≤ x)
def pkOf {α : Type} (src : List α) (z : α) (a : Int) : α := if 0 ≤ a then src.getD a.toNat z else z
def pickV (t : T_Tensor) (d l : List Int) : T_Tensor × Int :=
  if checkV t = 0 then (if (newV t.fType d).2 = 0 then (if (l.length : Int) = prod d then (if l.any (badP (t.fF.length + t.fI.length + t.fB.length)) = true then (noT, 2) else
    (if t.fType = 1 then ⟨t.fType, d, l.map (pkOf t.fF 0), [], []⟩ else if t.fType = 7 then ⟨t.fType, d, [], l.map (pkOf t.fI 0), []⟩ else ⟨t.fType, d, [], [], l.map (pkOf t.fB false)⟩, 0)) else (noT, 3)) else (noT, (newV t.fType d).2)) else (noT, checkV t)
theorem at?_pk {α : Type} {src : List α} {z : α} {a : Int} (h0 : 0 ≤ a) (h : a < src.length) : at? src a = some (pkOf src z a) := by
  obtain ⟨k, rfl⟩ := Int.eq_ofNat_of_zero_le h0
  rw [at?_get (by omega), pkOf, if_pos h0, List.getD_eq_getElem?_getD, Int.toNat_natCast, List.getElem?_eq_getElem (by omega)]
  rfl
theorem pkOf_neg {α : Type} {src : List α} {z : α} {a : Int} (h : ¬ 0 ≤ a) : pkOf src z a = z := if_neg h
theorem newV_ok {k : Int} {d : List Int} (h : (newV k d).2 = 0) : Known k ∧ Good d ∧ newV k d = (if k = 1 then (⟨k, d, List.replicate (prod d).toNat 0, [], []⟩, 0) else if k = 7 then (⟨k, d, [], List.replicate (prod d).toNat 0, []⟩, 0) else (⟨k, d, [], [], List.replicate (prod d).toNat false⟩, 0)) := by
  unfold newV at h ⊢
  by_cases hk : k = 1 ∨ k = 7 ∨ k = 9
  · rw [if_pos hk] at h ⊢
    by_cases hg : Good d
    · rw [if_pos hg]
      exact ⟨hk, hg, rfl⟩
    · rw [if_neg hg] at h
      exact absurd h (errS_ne d)
  · rw [if_neg hk] at h
    cases h
theorem pred_spec {fu : Nat} {N x : Int} : tens_Pick_1 fu x N = some (badP N x) := by
  unfold tens_Pick_1 badP
  by_cases h : x < -1
  · rw [if_pos h]; simp [h]
  · rw [if_neg h]; simp [h]
theorem sumW {a b c : Nat} (h1 : a ≤ 140737488355328) (h2 : b ≤ 140737488355328) (h3 : c ≤ 140737488355328) : wk .i64 ((wk .i64 ((a : Int) + (b : Int))) + (c : Int)) = (a : Int) + b + c := by
  rw [wk_add_l, wk_eq (by omega) (by omega)]
theorem notbad {N : Int} {l : List Int} (h : ¬ l.any (badP N) = true) {k : Nat} (hk : k < l.length) : -1 ≤ l[k] ∧ l[k] < N := by
  have := h
  simp only [List.any_eq_true, not_exists, not_and, badP, Bool.or_eq_true, decide_eq_true_eq] at this
  have := this _ (List.getElem_mem hk)
  omega
theorem Pick_spec {fu : Nat} {t : T_Tensor} {d l : List Int} (hs : Small t) (hf : Fuel fu t) (hd : Short d) (hfd : d.length < fu) (hl : Short l) (hfl : l.length < fu) : tens_Pick fu t d l = some (pickV t d l) := by
  unfold tens_Pick pickV jc
  rw [Check_spec hs hf, ob_some]
  by_cases hc : checkV t = 0
  · rw [if_pos hc, if_pos hc, New_spec hd hfd, ob_some]
    obtain ⟨_, hg0, hlen⟩ := checkV_zero.1 hc
    obtain ⟨s1, s2, s3, s4⟩ := hs
    by_cases hn : (newV t.fType d).2 = 0
    · obtain ⟨hk, hg, e⟩ := newV_ok hn
      rw [if_pos hn, if_pos hn]
      rw [sumW (a := t.fF.length) (by omega) (by omega) (by omega)]
      have hpn := prod_nonneg hg.2.1
      have hp4 := hg.2.2
      have hcf : slices_ContainsFunc_int fu l (fun y0 => tens_Pick_1 fu y0 ((t.fF.length : Int) + t.fI.length + t.fB.length)) = some (l.any (badP (t.fF.length + t.fI.length + t.fB.length))) := ContainsFunc_spec (fun x => pred_spec) hl hfl
      unfold Short at hl
      rw [hcf]
      rcases hk with e1 | e1 | e1
      · obtain ⟨l1, l2, l3⟩ := hlen
        rw [e1] at e
        simp only [if_true] at e
        simp only [e1, e, if_true, List.length_replicate, List.length_nil] at l1 l2 l3 ⊢
        simp only [show ¬ (1 : Int) = 7 by decide, show ¬ (1 : Int) = 9 by decide, if_false] at l2 l3
        rw [sumW (by omega) (by omega) (by omega)]
        by_cases hll : (l.length : Int) = prod d
        · rw [if_pos (by omega), if_pos hll, ob_some]
          by_cases hb : l.any (badP (t.fF.length + t.fI.length + t.fB.length)) = true
          · rw [if_pos hb, if_pos hb]; rfl
          · rw [if_neg hb, if_neg hb]
            have hnl : (prod d).toNat = l.length := by omega
            rw [hnl]
            have fin : ∀ m : List Int, m.length = l.length → tens_Pick.c1 fu t l (⟨1, d, List.replicate l.length 0, [], []⟩, 0) m = some (⟨1, d, m, [], []⟩, 0) := fun m hm => by
              simp [tens_Pick.c1, tens_Pick.c2, tens_Pick.c3, chk, jc, hm]
            by_cases h0 : l = []
            · subst h0
              exact (if_pos rfl).trans (fin [] rfl)
            · have hpos : 0 < l.length := List.length_pos_iff.2 h0
              rw [if_neg (by omega)]
              unfold tens_Pick.W3
              refine (pick_loop (fun (m : List Int) (k : Nat) => (m, (k : Int))) (fun _ => false) (pkOf t.fF 0) 0 (e := none) (c := fun m => some (⟨1, d, m, [], []⟩, 0)) ?_ ?_ (fun a => pkOf_neg) hfl).trans (by simp)
              · intro next k m hk hm
                have hnb := notbad hb hk
                unfold tens_Pick.L3
                simp only [Int.toNat_natCast, List.length_replicate]
                rw [if_pos (by omega), at?_get hk, ob_some, wk_succ (by omega), if_neg (show ¬ (false = true) by decide)]
                by_cases ha : 0 ≤ l[k]
                · rw [if_pos ha, if_pos ha, at?_pk (z := 0) ha (by omega), ob_some, chk_pos (by omega), chk_pos (by omega)]
                · rw [if_neg ha, if_neg ha]
              · intro next m hm
                unfold tens_Pick.L3
                rw [if_neg (by simp)]
                exact fin m hm
        · rw [if_neg (by omega), if_neg hll]; rfl
      · obtain ⟨l1, l2, l3⟩ := hlen
        rw [e1] at e
        simp only [show ¬ (7 : Int) = 1 by decide, if_false, if_true] at e
        simp only [e1, e, if_true, List.length_replicate, List.length_nil, show ¬ (7 : Int) = 1 by decide, show ¬ (7 : Int) = 9 by decide, if_false] at l1 l2 l3 ⊢
        rw [sumW (by omega) (by omega) (by omega)]
        by_cases hll : (l.length : Int) = prod d
        · rw [if_pos (by omega), if_pos hll, ob_some]
          by_cases hb : l.any (badP (t.fF.length + t.fI.length + t.fB.length)) = true
          · rw [if_pos hb, if_pos hb]; rfl
          · rw [if_neg hb, if_neg hb]
            have hnl : (prod d).toNat = l.length := by omega
            rw [hnl]
            have fin : ∀ m : List Int, m.length = l.length → tens_Pick.c2 fu t l (⟨7, d, [], List.replicate l.length 0, []⟩, 0) [] m = some (⟨7, d, [], m, []⟩, 0) := fun m hm => by
              simp [tens_Pick.c2, tens_Pick.c3, chk, jc, hm]
            rw [if_pos (by simp)]
            unfold tens_Pick.c1; try unfold jc
            rw [chk_pos (by simp)]
            simp only [List.length_replicate]
            by_cases h0 : l = []
            · subst h0
              exact (if_pos rfl).trans (fin [] rfl)
            · have hpos : 0 < l.length := List.length_pos_iff.2 h0
              rw [if_neg (by omega)]
              unfold tens_Pick.W2
              refine (pick_loop (fun (m : List Int) (k : Nat) => (m, (k : Int))) (fun _ => false) (pkOf t.fI 0) 0 (e := none) (c := fun m => some (⟨7, d, [], m, []⟩, 0)) ?_ ?_ (fun a => pkOf_neg) hfl).trans (by simp)
              · intro next k m hk hm
                have hnb := notbad hb hk
                unfold tens_Pick.L2
                simp only [Int.toNat_natCast, List.length_replicate]
                rw [if_pos (by omega), at?_get hk, ob_some, wk_succ (by omega), if_neg (show ¬ (false = true) by decide)]
                by_cases ha : 0 ≤ l[k]
                · rw [if_pos ha, if_pos ha, at?_pk (z := 0) ha (by omega), ob_some, chk_pos (by omega), chk_pos (by omega)]
                · rw [if_neg ha, if_neg ha]
              · intro next m hm
                unfold tens_Pick.L2
                rw [if_neg (by simp)]
                exact fin m hm
        · rw [if_neg (by omega), if_neg hll]; rfl
      · obtain ⟨l1, l2, l3⟩ := hlen
        rw [e1] at e
        simp only [show ¬ (9 : Int) = 1 by decide, show ¬ (9 : Int) = 7 by decide, if_false] at e
        simp only [e1, e, if_true, List.length_replicate, List.length_nil, show ¬ (9 : Int) = 1 by decide, show ¬ (9 : Int) = 7 by decide, if_false] at l1 l2 l3 ⊢
        rw [sumW (by omega) (by omega) (by omega)]
        by_cases hll : (l.length : Int) = prod d
        · rw [if_pos (by omega), if_pos hll, ob_some]
          by_cases hb : l.any (badP (t.fF.length + t.fI.length + t.fB.length)) = true
          · rw [if_pos hb, if_pos hb]; rfl
          · rw [if_neg hb, if_neg hb]
            have hnl : (prod d).toNat = l.length := by omega
            rw [hnl]
            have fin : ∀ m : List Bool, m.length = l.length → tens_Pick.c3 fu (⟨9, d, [], [], List.replicate l.length false⟩, 0) [] [] m = some (⟨9, d, [], [], m⟩, 0) := fun m hm => by
              simp [tens_Pick.c3, chk, hm]
            rw [if_pos (by simp)]
            unfold tens_Pick.c1; try unfold jc
            rw [chk_pos (by simp), if_pos (by simp)]
            unfold tens_Pick.c2; try unfold jc
            rw [chk_pos (by simp)]
            simp only [List.length_replicate]
            by_cases h0 : l = []
            · subst h0
              exact (if_pos rfl).trans (fin [] rfl)
            · have hpos : 0 < l.length := List.length_pos_iff.2 h0
              rw [if_neg (by omega)]
              unfold tens_Pick.W1
              refine (pick_loop (fun (m : List Bool) (k : Nat) => (m, (k : Int))) (fun _ => false) (pkOf t.fB false) false (e := none) (c := fun m => some (⟨9, d, [], [], m⟩, 0)) ?_ ?_ (fun a => pkOf_neg) hfl).trans (by simp)
              · intro next k m hk hm
                have hnb := notbad hb hk
                unfold tens_Pick.L1
                simp only [Int.toNat_natCast, List.length_replicate]
                rw [if_pos (by omega), at?_get hk, ob_some, wk_succ (by omega), if_neg (show ¬ (false = true) by decide)]
                by_cases ha : 0 ≤ l[k]
                · rw [if_pos ha, if_pos ha, at?_pk (z := false) ha (by omega), ob_some, chk_pos (by omega), chk_pos (by omega)]
                · rw [if_neg ha, if_neg ha]
              · intro next m hm
                unfold tens_Pick.L1
                rw [if_neg (by simp)]
                exact fin m hm
        · rw [if_neg (by omega), if_neg hll]; rfl
    · rw [if_neg hn, if_neg hn]; rfl
  · rw [if_neg hc, if_neg hc]; rfl
end Go.Av
set_option linter.unusedVariables false
namespace Go.Av
theorem nodup_len : ∀ (n : Nat) (l : List Nat), l.Nodup → (∀ x ∈ l, x < n) → l.length ≤ n
  | 0, [], _, _ => Nat.le_refl _
  | 0, x :: l, _, h => by have := h x (by simp); omega
  | n + 1, l, hn, h => by
    by_cases hm : n ∈ l
    · have h1 := nodup_len n (l.erase n) (hn.erase n) fun x hx => by
        have h2 := (hn.mem_erase_iff).1 hx
        have := h x h2.2
        have := h2.1
        omega
      have := List.length_erase_of_mem hm
      omega
    · have := nodup_len n l hn fun x hx => by
        have := h x hx
        have : x ≠ n := fun e => hm (e ▸ hx)
        omega
      omega
theorem perm_range : ∀ (n : Nat) (l : List Nat), l.Nodup → (∀ x ∈ l, x < n) → l.length = n → l.Perm (List.range n)
  | 0, [], _, _, _ => .refl _
  | 0, x :: l, _, h, _ => by have := h x (by simp); omega
  | n + 1, l, hn, h, hl => by
    by_cases hm : n ∈ l
    · have h1 := perm_range n (l.erase n) (hn.erase n) (fun x hx => by
        have h2 := (hn.mem_erase_iff).1 hx
        have := h x h2.2
        have := h2.1
        omega) (by have := List.length_erase_of_mem hm; omega)
      rw [List.range_succ]
      exact ((List.perm_cons_erase hm).trans (h1.cons n)).trans (List.perm_append_singleton n _).symm
    · have := nodup_len n l hn fun x hx => by
        have := h x hx
        have : x ≠ n := fun e => hm (e ▸ hx)
        omega
      omega
def sumI : List Int → Int
  | [] => 0
  | x :: l => x + sumI l
theorem sumI_perm {l m : List Int} (h : l.Perm m) : sumI l = sumI m := by
  induction h with
  | nil => rfl
  | cons x _ ih => simp only [sumI, ih]
  | swap x y l => simp only [sumI]; omega
  | trans _ _ i1 i2 => exact i1.trans i2
theorem prod_perm {l m : List Int} (h : l.Perm m) : prod l = prod m := by
  induction h with
  | nil => rfl
  | cons x _ ih => simp only [prod, ih]
  | swap x y l => simp only [prod]; rw [← Int.mul_assoc, ← Int.mul_assoc, Int.mul_comm y x]
  | trans _ _ i1 i2 => exact i1.trans i2
def dotV : List Int → List Int → Int
  | x :: xs, y :: ys => x * y + dotV xs ys
  | _, _ => 0
def gI (l : List Int) (k : Nat) : Int := l.getD k 0
theorem gI_get {l : List Int} {k : Nat} (h : k < l.length) : gI l k = l[k] := by
  unfold gI; rw [List.getD_eq_getElem?_getD, List.getElem?_eq_getElem h]; rfl
/-- an order's turn of a list -/
def act (p l : List Int) : List Int := p.map fun k => gI l k.toNat
theorem act_length {p l : List Int} : (act p l).length = p.length := List.length_map ..
theorem act_get {p l : List Int} {j : Nat} (h : j < p.length) : gI (act p l) j = gI l (gI p j).toNat := by
  rw [gI_get (l := p) h, gI_get (by rw [act_length]; exact h)]
  simp [act]
theorem ext_gI {l m : List Int} (h : l.length = m.length) (hg : ∀ k, k < l.length → gI l k = gI m k) : l = m := by
  refine List.ext_getElem h fun k h1 h2 => ?_
  have := hg k h1
  rwa [gI_get h1, gI_get h2] at this
theorem range_gI {l : List Int} : (List.range l.length).map (gI l) = l := by
  refine List.ext_getElem (by simp) fun k h1 h2 => ?_
  simp only [List.getElem_map, List.getElem_range]
  exact gI_get h2
structure PermOK (p : List Int) (n : Nat) : Prop where
  len : p.length = n
  rng : ∀ x ∈ p, 0 ≤ x ∧ x < n
  nod : p.Nodup
theorem PermOK.nat {p : List Int} {n : Nat} (h : PermOK p n) : (p.map Int.toNat).Perm (List.range n) := by
  refine perm_range n _ ?_ (fun x hx => ?_) (by simp [h.len])
  · have : ∀ (l : List Int), l.Nodup → (∀ x ∈ l, 0 ≤ x) → (l.map Int.toNat).Nodup := by
      intro l
      induction l with
      | nil => intro _ _; simp
      | cons x l ih =>
        intro hn hr
        rw [List.nodup_cons] at hn
        rw [List.map_cons, List.nodup_cons]
        refine ⟨fun hm => ?_, ih hn.2 fun y hy => hr y (by simp [hy])⟩
        obtain ⟨y, hy, he⟩ := List.mem_map.1 hm
        have h1 := hr x (by simp)
        have h2 := hr y (by simp [hy])
        have : y = x := by omega
        exact hn.1 (this ▸ hy)
    exact this p h.nod fun x hx => (h.rng x hx).1
  · obtain ⟨y, hy, rfl⟩ := List.mem_map.1 hx
    have := h.rng y hy
    omega
theorem act_perm {p l : List Int} (h : PermOK p l.length) : (act p l).Perm l := by
  have h1 : act p l = (p.map Int.toNat).map (gI l) := by rw [List.map_map]; rfl
  have h2 := h.nat.map (gI l)
  rw [range_gI] at h2
  rw [h1]; exact h2
theorem dot_map {α : Type} {f g : α → Int} : ∀ (p : List α), dotV (p.map f) (p.map g) = sumI (p.map fun k => f k * g k)
  | [] => rfl
  | x :: p => by simp only [List.map_cons, dotV, sumI, dot_map p]
theorem dot_range {l m : List Int} (h : l.length = m.length) : dotV l m = sumI ((List.range l.length).map fun k => gI l k * gI m k) := by
  rw [← dot_map, range_gI, h, range_gI]
theorem dot_act {p l m : List Int} (hp : PermOK p l.length) (h : l.length = m.length) : dotV (act p l) (act p m) = dotV l m := by
  have h1 : dotV (act p l) (act p m) = sumI ((p.map Int.toNat).map fun k => gI l k * gI m k) := by
    rw [List.map_map]; exact dot_map p
  rw [h1, dot_range h]
  exact sumI_perm (hp.nat.map _)
/-- the order that undoes an order -/
structure IsBack (p b : List Int) (n : Nat) : Prop where
  len : b.length = n
  at_ : ∀ i, i < n → gI b (gI p i).toNat = i
theorem PermOK.get {p : List Int} {n : Nat} (h : PermOK p n) {i : Nat} (hi : i < n) : 0 ≤ gI p i ∧ gI p i < n := by
  have hl := h.len
  rw [gI_get (by omega)]; exact h.rng _ (List.getElem_mem _)
theorem PermOK.onto {p : List Int} {n : Nat} (h : PermOK p n) {j : Nat} (hj : j < n) : ∃ i, i < n ∧ gI p i = j := by
  have hl := h.len
  have : j ∈ p.map Int.toNat := h.nat.mem_iff.2 (List.mem_range.2 hj)
  obtain ⟨x, hx, he⟩ := List.mem_map.1 this
  obtain ⟨i, hi, rfl⟩ := List.getElem_of_mem hx
  have := h.rng _ hx
  exact ⟨i, by omega, by rw [gI_get hi]; omega⟩
theorem IsBack.inv {p b : List Int} {n : Nat} (hp : PermOK p n) (h : IsBack p b n) {j : Nat} (hj : j < n) : 0 ≤ gI b j ∧ gI b j < n ∧ gI p (gI b j).toNat = j := by
  obtain ⟨i, hi, he⟩ := hp.onto hj
  have h1 := h.at_ i hi
  rw [he, Int.toNat_natCast] at h1
  rw [h1]
  refine ⟨by omega, by omega, ?_⟩
  rw [Int.toNat_natCast]; exact he
theorem IsBack.perm {p b : List Int} {n : Nat} (hp : PermOK p n) (h : IsBack p b n) : PermOK b n := by
  have hl := h.len
  refine ⟨h.len, fun x hx => ?_, ?_⟩
  · obtain ⟨j, hj, rfl⟩ := List.getElem_of_mem hx
    have := h.inv hp (j := j) (by omega)
    rw [gI_get hj] at this
    exact ⟨this.1, this.2.1⟩
  · refine List.pairwise_iff_getElem.2 fun i j hi hjl hij he => ?_
    have h1 := (h.inv hp (j := i) (by omega)).2.2
    have h2 := (h.inv hp (j := j) (by omega)).2.2
    rw [gI_get hi] at h1
    rw [gI_get hjl, ← he, h1] at h2
    omega
theorem back_act {p b l : List Int} (hp : PermOK p l.length) (h : IsBack p b l.length) : act b (act p l) = l := by
  have hl := h.len
  have hpl := hp.len
  refine ext_gI (by rw [act_length, hl]) fun k hk => ?_
  rw [act_length] at hk
  obtain ⟨h1, h2, h3⟩ := h.inv hp (j := k) (by omega)
  rw [act_get hk, act_get (by omega), h3, Int.toNat_natCast]
/-! indices -/
theorem okIx_of : ∀ {l xs : List Int}, xs.length = l.length → (∀ j, j < l.length → 0 ≤ gI xs j ∧ gI xs j < gI l j) → okIx l xs = true
  | [], [], _, _ => rfl
  | d :: l, x :: xs, hl, h => by
    have h0 := h 0 (by simp)
    have h1 := okIx_of (l := l) (xs := xs) (by simpa using hl) fun j hj => by
      have := h (j + 1) (by simp; omega)
      simpa [gI] using this
    simp [gI] at h0
    simp [okIx, h0, h1]
theorem okIx_at : ∀ {l xs : List Int}, xs.length = l.length → okIx l xs = true → ∀ j, j < l.length → 0 ≤ gI xs j ∧ gI xs j < gI l j
  | [], [], _, _, j, hj => by simp at hj
  | d :: l, x :: xs, hl, h, j, hj => by
    simp only [okIx, Bool.and_eq_true, decide_eq_true_eq] at h
    cases j with
    | zero => simpa [gI] using h.1
    | succ j =>
      have := okIx_at (l := l) (xs := xs) (by simpa using hl) h.2 j (by simpa using hj)
      simpa [gI] using this
theorem offV_lt : ∀ {l xs : List Int}, (∀ x ∈ l, 0 ≤ x) → xs.length = l.length → okIx l xs = true → 0 ≤ offV l xs ∧ offV l xs < prod l
  | [], [], _, _, _ => by simp [offV, prod]
  | d :: l, x :: xs, hp, hl, h => by
    simp only [okIx, Bool.and_eq_true, decide_eq_true_eq] at h
    obtain ⟨h1, h2⟩ := offV_lt (l := l) (xs := xs) (fun y hy => hp y (by simp [hy])) (by simpa using hl) h.2
    simp only [offV, prod]
    have m1 : (x + 1) * prod l ≤ d * prod l := Int.mul_le_mul_of_nonneg_right (by omega) (by omega)
    rw [Int.add_mul, Int.one_mul] at m1
    have m2 : 0 ≤ x * prod l := Int.mul_nonneg h.1.1 (by omega)
    omega
theorem idxV_off : ∀ {l xs : List Int}, (∀ x ∈ l, 0 ≤ x) → xs.length = l.length → okIx l xs = true → idxV l (offV l xs) = xs
  | [], [], _, _, _ => rfl
  | d :: l, x :: xs, hp, hl, h => by
    simp only [okIx, Bool.and_eq_true, decide_eq_true_eq] at h
    have hp' := fun y (hy : y ∈ l) => hp y (by simp [hy])
    have hl' : xs.length = l.length := by simpa using hl
    obtain ⟨h1, h2⟩ := offV_lt hp' hl' h.2
    have ih := idxV_off hp' hl' h.2
    simp only [offV, idxV]
    have e1 : (x * prod l + offV l xs) / prod l = x := by
      rw [Int.add_comm, Int.add_mul_ediv_right _ _ (by omega), Int.ediv_eq_zero_of_lt h1 h2]; omega
    have e2 : (x * prod l + offV l xs) % prod l = offV l xs := by
      rw [Int.add_comm, Int.add_mul_emod_self_right, Int.emod_eq_of_lt h1 h2]
    rw [e1, e2, ih]
/-- the strides of dims -/
def strV : List Int → List Int
  | [] => []
  | _ :: l => prod l :: strV l
theorem strV_length : ∀ l, (strV l).length = l.length
  | [] => rfl
  | _ :: l => by simp [strV, strV_length l]
theorem dot_strV : ∀ {l xs : List Int}, dotV xs (strV l) = offV l xs
  | [], [] => rfl
  | [], x :: xs => rfl
  | d :: l, [] => rfl
  | d :: l, x :: xs => by simp only [strV, dotV, offV, dot_strV]
/-- where the elements of the turned come from -/
def turnAt (d p : List Int) (k : Int) : Int := dotV (idxV (act p d) k) (act p (strV d))
theorem turn_good {d p : List Int} (hg : Good d) (hp : PermOK p d.length) : Good (act p d) ∧ prod (act p d) = prod d := by
  have hP := act_perm hp
  have e := prod_perm hP
  refine ⟨⟨by rw [act_length, hp.len]; exact hg.1, fun x hx => hg.2.1 x (hP.mem_iff.1 hx), by rw [e]; exact hg.2.2⟩, e⟩
theorem turn_rng {d p : List Int} (hp : PermOK p d.length) (hd : ∀ x ∈ d, 1 ≤ x) {k : Int} (h0 : 0 ≤ k) (h1 : k < prod d) :
    ∃ i : List Int, i.length = d.length ∧ okIx d i = true ∧ act p i = idxV (act p d) k ∧ turnAt d p k = offV d i := by
  have hP := act_perm hp
  have e := prod_perm hP
  have hpl := hp.len
  have hd' : ∀ x ∈ act p d, 1 ≤ x := fun x hx => hd x (hP.mem_iff.1 hx)
  have hok := okIx_idx (l := act p d) hd' h0 (by rw [e]; exact h1)
  have hil : (idxV (act p d) k).length = d.length := by rw [idxV_length, act_length, hpl]
  -- the indices in the order of old
  have hb : ∃ b, IsBack p b d.length := by
    refine ⟨(List.range d.length).map fun j => ((p.map Int.toNat).idxOf j : Int), by simp, fun i hi => ?_⟩
    have hr := hp.get hi
    have hx : (gI p i).toNat < d.length := by omega
    rw [gI_get (by simp; exact hx)]
    simp only [List.getElem_map, List.getElem_range]
    have hnod : (p.map Int.toNat).Nodup := hp.nat.nodup_iff.2 List.nodup_range
    have hil2 : i < (p.map Int.toNat).length := by simp; omega
    have : (gI p i).toNat = (p.map Int.toNat)[i] := by rw [gI_get (by omega)]; simp
    rw [this, hnod.idxOf_getElem i hil2]
  obtain ⟨b, hb⟩ := hb
  have hbl := hb.len
  have hbp := hb.perm hp
  refine ⟨act b (idxV (act p d) k), by rw [act_length, hbl], ?_, ?_, ?_⟩
  · refine okIx_of (by rw [act_length, hbl]) fun j hj => ?_
    obtain ⟨q1, q2, q3⟩ := hb.inv hp hj
    rw [act_get (by omega)]
    have := okIx_at (l := act p d) (by rw [hil, act_length, hpl]) hok (gI b j).toNat (by rw [act_length]; omega)
    rw [act_get (l := d) (by omega), q3, Int.toNat_natCast] at this
    exact this
  · refine ext_gI (by rw [act_length, hil, hpl]) fun k2 hk2 => ?_
    rw [act_length] at hk2
    have hr := hp.get (i := k2) (by omega)
    have := hb.at_ k2 (by omega)
    rw [act_get hk2, act_get (by omega), this, Int.toNat_natCast]
  · have h2 : act p (act b (idxV (act p d) k)) = idxV (act p d) k := by
      refine ext_gI (by rw [act_length, hil, hpl]) fun k2 hk2 => ?_
      rw [act_length] at hk2
      have hr := hp.get (i := k2) (by omega)
      have := hb.at_ k2 (by omega)
      rw [act_get hk2, act_get (by omega), this, Int.toNat_natCast]
    unfold turnAt
    conv => lhs; arg 1; rw [← h2]
    rw [dot_act (l := act b (idxV (act p d) k)) (m := strV d) (by rw [act_length, hbl]; exact hp) (by rw [act_length, hbl, strV_length]), dot_strV]
theorem turn_back {d p b : List Int} (hp : PermOK p d.length) (hb : IsBack p b d.length) (hd : ∀ x ∈ d, 1 ≤ x) {k : Int} (h0 : 0 ≤ k) (h1 : k < prod d) :
    0 ≤ turnAt (act p d) b k ∧ turnAt (act p d) b k < prod d ∧ turnAt d p (turnAt (act p d) b k) = k := by
  have hP := act_perm hp
  have e := prod_perm hP
  have hpl := hp.len
  have hbl := hb.len
  have hbp := hb.perm hp
  have hd0 : ∀ x ∈ d, 0 ≤ x := fun x hx => by have := hd x hx; omega
  have hd' : ∀ x ∈ act p d, 0 ≤ x := fun x hx => hd0 x (hP.mem_iff.1 hx)
  have hil : (idxV d k).length = d.length := idxV_length d k
  have hok := okIx_idx (l := d) hd h0 h1
  have hi : act b (act p (idxV d k)) = idxV d k := back_act (by rw [hil]; exact hp) (by rw [hil]; exact hb)
  have ha : turnAt (act p d) b k = offV (act p d) (act p (idxV d k)) := by
    unfold turnAt
    rw [back_act hp hb]
    conv => lhs; arg 1; rw [← hi]
    rw [dot_act (l := act p (idxV d k)) (m := strV (act p d)) (by rw [act_length, hpl]; exact hbp) (by rw [act_length, strV_length, act_length]), dot_strV]
  have hokp : okIx (act p d) (act p (idxV d k)) = true := okIx_of (by rw [act_length, act_length]) fun j hj => by
    rw [act_length] at hj
    have hr := hp.get (i := j) (by omega)
    rw [act_get hj, act_get hj]
    exact okIx_at hil hok _ (by omega)
  obtain ⟨q1, q2⟩ := offV_lt hd' (by rw [act_length, act_length]) hokp
  rw [ha]
  refine ⟨q1, by rw [e] at q2; exact q2, ?_⟩
  unfold turnAt
  rw [idxV_off hd' (by rw [act_length, act_length]) hokp, dot_act (l := idxV d k) (m := strV d) (by rw [hil]; exact hp) (by rw [hil, strV_length]), dot_strV, offV_idx hd h0 h1]
end Go.Av
set_option linter.unusedVariables false
namespace Go.Av
theorem cloop_suc {σ β : Type} {body : (σ → Option β) → σ → Option β} {n : Nat} {s : σ} : cloop body (n + 1) s = body (cloop body n) s := rfl
theorem cloop_to {τ β : Type} {body : (τ → Option β) → τ → Option β} (N : Nat) (st : Nat → τ) (r : Option β) (h : ∀ k, k < N → ∀ next, next (st (k + 1)) = r → body next (st k) = r)
    (he : ∀ next, body next (st N) = r) {n : Nat} (hn : N < n) : cloop body n (st 0) = r := by
  have : ∀ m k, k ≤ N → N - k < m → cloop body m (st k) = r := by
    intro m
    induction m with
    | zero => intro k _ h; omega
    | succ m ih =>
      intro k hk hm
      by_cases hkN : k = N
      · subst hkN; exact he _
      · exact h k (by omega) _ (ih (k + 1) (by omega) (by omega))
  exact this n 0 (by omega) (by omega)
/-- the indices behind some, in row order; by the axes ahead of 'm' -/
def incV (d i : List Int) : Nat → Option (List Int)
  | 0 => none
  | m + 1 => if gI i m + 1 < gI d m then some (i.take m ++ (gI i m + 1) :: List.replicate (d.length - (m + 1)) 0) else incV d i m
theorem incV_cons {d x : Int} {l xs : List Int} : ∀ m, incV (d :: l) (x :: xs) (m + 1) = match incV l xs m with | some ys => some (x :: ys) | none => if x + 1 < d then some ((x + 1) :: List.replicate l.length 0) else none
  | 0 => by simp [incV, gI]
  | m + 1 => by
    have ih := incV_cons (d := d) (x := x) (l := l) (xs := xs) m
    rw [incV]
    have e1 : gI (x :: xs) (m + 1) = gI xs m := by simp [gI]
    have e2 : gI (d :: l) (m + 1) = gI l m := by simp [gI]
    rw [e1, e2]
    conv => rhs; rw [incV]
    by_cases h : gI xs m + 1 < gI l m
    · rw [if_pos h, if_pos h]
      simp
    · rw [if_neg h, if_neg h, ih]
theorem idxV_zero : ∀ {l : List Int}, idxV l 0 = List.replicate l.length 0
  | [] => rfl
  | d :: l => by simp [idxV, idxV_zero, List.replicate_succ]
theorem incV_idx : ∀ {l : List Int} {k : Int}, (∀ x ∈ l, 1 ≤ x) → 0 ≤ k → k < prod l → incV l (idxV l k) l.length = if k + 1 < prod l then some (idxV l (k + 1)) else none
  | [], k, _, h0, h1 => by
    have h1' : k < 1 := h1
    rw [if_neg (show ¬ k + 1 < prod [] from fun h => by have h' : k + 1 < 1 := h; omega)]; rfl
  | d :: l, k, hp, h0, h1 => by
    have hp' : ∀ x ∈ l, 1 ≤ x := fun x hx => hp x (by simp [hx])
    have hq : 1 ≤ prod l := prod_pos hp'
    have hr0 := Int.emod_nonneg k (b := prod l) (by omega)
    have hr1 := Int.emod_lt_of_pos k (b := prod l) (by omega)
    have hq0 : 0 ≤ k / prod l := Int.ediv_nonneg h0 (by omega)
    have hq1 : k / prod l < d := Int.ediv_lt_of_lt_mul (by omega) h1
    have hk := Int.mul_ediv_add_emod k (prod l)
    have ih := incV_idx hp' hr0 hr1
    rw [List.length_cons]
    show incV (d :: l) (k / prod l :: idxV l (k % prod l)) (l.length + 1) = _
    rw [incV_cons, ih]
    have hpd : prod (d :: l) = d * prod l := rfl
    rw [hpd] at h1 ⊢
    clear hpd ih hp'
    generalize hqq : k / prod l = q at *
    generalize hrr : k % prod l = r at *
    generalize hP : prod l = P at *
    by_cases hc : r + 1 < P
    · rw [if_pos hc]
      have e : k + 1 = P * q + (r + 1) := by omega
      have e1 : (k + 1) / P = q := by rw [e, Int.add_comm, Int.add_mul_ediv_left _ _ (by omega), Int.ediv_eq_zero_of_lt (by omega) hc]; omega
      have e2 : (k + 1) % P = r + 1 := by rw [e, Int.add_comm, Int.add_mul_emod_self_left, Int.emod_eq_of_lt (by omega) hc]
      have m1 : (q + 1) * P ≤ d * P := Int.mul_le_mul_of_nonneg_right (by omega) (by omega)
      rw [Int.add_mul, Int.one_mul, Int.mul_comm q P] at m1
      rw [if_pos (show k + 1 < d * P by omega)]
      simp only [idxV, hP, e1, e2]
    · rw [if_neg hc]
      have e : k + 1 = P * (q + 1) := by rw [Int.mul_add, Int.mul_one]; omega
      have e1 : (k + 1) / P = q + 1 := by rw [e, Int.mul_ediv_cancel_left _ (by omega)]
      have e2 : (k + 1) % P = 0 := by rw [e, Int.mul_emod_right]
      simp only
      by_cases hd : q + 1 < d
      · have m1 : (q + 1 + 1) * P ≤ d * P := Int.mul_le_mul_of_nonneg_right (by omega) (by omega)
        rw [Int.add_mul, Int.one_mul, Int.mul_comm (q + 1) P] at m1
        rw [if_pos hd, if_pos (show k + 1 < d * P by omega)]
        simp only [idxV, hP, e1, e2, idxV_zero]
      · have m1 : d * P ≤ (q + 1) * P := Int.mul_le_mul_of_nonneg_right (by omega) (by omega)
        rw [Int.mul_comm (q + 1) P] at m1
        rw [if_neg hd, if_neg (show ¬ k + 1 < d * P by omega)]
theorem take_get {i : List Int} {m : Nat} (h : m < i.length) : i.take (m + 1) = i.take m ++ [gI i m] := by
  rw [List.take_add_one, List.getElem?_eq_getElem h, gI_get h]; rfl
theorem set_mid {a b : List Int} {x y : Int} {m : Nat} (h : a.length = m) : (a ++ x :: b).set m y = a ++ y :: b := by
  subst h
  rw [List.set_append_right _ _ (Nat.le_refl _)]
  simp
theorem get_mid {a b : List Int} {x : Int} {m : Nat} (h : a.length = m) : at? (a ++ x :: b) (m : Int) = some x := by
  subst h
  rw [at?_get (by simp)]
  simp
theorem inner_spec {fu : Nat} {t : T_Tensor} {d i l0 : List Int} {v : Int} {nx1 : List Int → List Int → Option T_Tensor} (hl : i.length = d.length) (hd : d.length ≤ 8) (hi : ∀ j, j < d.length → 0 ≤ gI i j ∧ gI i j ≤ 4096) :
    ∀ (m q : Nat), m ≤ d.length → m < q → cloop (fun next s => moves_picked.L2 fu nx1 t d l0 v (fun a b => next (a, b)) s.1 s.2) q (i.take m ++ List.replicate (d.length - m) 0, (m : Int) - 1) =
      match incV d i m with | some ys => nx1 (l0 ++ [v]) ys | none => (tens_Pick fu t d (l0 ++ [v])).bind fun x => some x.1
  | 0, q, hm, hq => by
    obtain ⟨q, rfl⟩ : ∃ q', q = q' + 1 := ⟨q - 1, by omega⟩
    rw [cloop_suc]
    simp only [moves_picked.L2]
    rw [if_neg (by omega)]
    rfl
  | m + 1, q, hm, hq => by
    obtain ⟨q, rfl⟩ : ∃ q', q = q' + 1 := ⟨q - 1, by omega⟩
    obtain ⟨i0, i1⟩ := hi m (by omega)
    have htl : (i.take m).length = m := by simp; omega
    rw [cloop_suc]
    simp only [moves_picked.L2]
    rw [show ((m + 1 : Nat) : Int) - 1 = (m : Int) by omega, if_pos (by omega), take_get (by omega), List.append_assoc]
    show (at? (i.take m ++ gI i m :: List.replicate (d.length - (m + 1)) 0) (m : Int)).bind _ = _
    have hlen : (i.take m ++ gI i m :: List.replicate (d.length - (m + 1)) 0).length = d.length := by simp; omega
    rw [get_mid htl, ob_some, chk_pos (by simp; omega), Int.toNat_natCast, wk_eq (x := gI i m + 1) (by omega) (by omega)]
    show (at? ((i.take m ++ gI i m :: List.replicate (d.length - (m + 1)) 0).set m (gI i m + 1)) (m : Int)).bind _ = _
    rw [set_mid htl, get_mid htl, ob_some, at?_get (by omega), ob_some]
    conv => rhs; rw [incV]
    rw [← gI_get (l := d) (by omega)]
    by_cases hc : gI i m + 1 < gI d m
    · rw [if_pos hc, if_pos hc]
      show nx1 (l0 ++ [v]) ((i.take m ++ gI i m :: List.replicate (d.length - (m + 1)) 0).set m (gI i m + 1)) = _
      rw [set_mid htl]
    · rw [if_neg hc, if_neg hc]
      show chk (0 ≤ (m : Int) ∧ (m : Int) < (((i.take m ++ gI i m :: List.replicate (d.length - (m + 1)) 0).set m (gI i m + 1)).length : Int)) (cloop _ q (((i.take m ++ gI i m :: List.replicate (d.length - (m + 1)) 0).set m (gI i m + 1)).set m 0, wk .i64 ((m : Int) - 1))) = _
      rw [chk_pos (by rw [List.length_set, hlen]; omega), set_mid htl, set_mid htl, wk_eq (by omega) (by omega)]
      have := inner_spec (nx1 := nx1) (t := t) (fu := fu) (l0 := l0) (v := v) hl hd hi m q (by omega) (by omega)
      rw [← this]
      congr 2
      rw [show d.length - m = (d.length - (m + 1)) + 1 by omega, List.replicate_succ]
theorem idx_small {l : List Int} {k : Int} (hg : Good l) (hp : ∀ x ∈ l, 1 ≤ x) (h0 : 0 ≤ k) (h1 : k < prod l) : ∀ j, j < l.length → 0 ≤ gI (idxV l k) j ∧ gI (idxV l k) j ≤ 4096 := fun j hj => by
  have h2 := okIx_at (idxV_length l k) (okIx_idx hp h0 h1) j hj
  have h3 := hg.2.1 _ (List.getElem_mem hj)
  rw [← gI_get hj] at h3
  omega
/-- elements picked, by the place of each of the indices -/
theorem picked_spec {fu : Nat} {t : T_Tensor} {d : List Int} {N : Nat} {p2 : List Int → Option Int} {f : Nat → Int} (hs : Small t) (hft : Fuel fu t) (hg : Good d) (hN : prod d = (N : Int)) (hf : 5000 < fu)
    (hp : ∀ k : Nat, k < N → p2 (idxV d (k : Int)) = some (f k)) : moves_picked fu t d p2 = some (pickV t d ((List.range N).map f)).1 := by
  have h8 := hg.1
  have h4 := hg.2.2
  unfold moves_picked
  rw [Contains_spec (by unfold Short; omega) (by omega), ob_some]
  by_cases hz : (d.any fun y => decide ((0 : Int) = y)) = true
  · have hz' : (0 : Int) ∈ d := by
      obtain ⟨x, hx, hx2⟩ := List.any_eq_true.1 hz
      simp at hx2; subst hx2; exact hx
    have : N = 0 := by have := prod_zero hz'; omega
    subst this
    rw [if_pos hz, Pick_spec hs hft (by unfold Short; omega) (by omega) (by simp [Short]) (by simp; omega)]
    rfl
  · rw [if_neg hz]
    have hpos : ∀ x ∈ d, 1 ≤ x := fun x hx => by
      have := (hg.2.1 x hx).1
      simp only [List.any_eq_true, decide_eq_true_eq, not_exists, not_and] at hz
      have := hz x hx; omega
    have h1 := prod_pos hpos
    rw [chk_pos (by omega), Int.toNat_natCast]
    unfold moves_picked.W1
    have hz0 : (([] : List Int), List.replicate d.length (0 : Int)) = ((fun k : Nat => ((List.range k).map f, idxV d (k : Int))) 0) := by simp [idxV_zero]
    rw [hz0]
    have step : ∀ (k : Nat), k < N → ∀ (next : List Int × List Int → Option T_Tensor), moves_picked.L1 fu p2 t d (fun a b => next (a, b)) ((List.range k).map f) (idxV d (k : Int)) = if k + 1 < N then next ((List.range (k + 1)).map f, idxV d ((k + 1 : Nat) : Int)) else (tens_Pick fu t d ((List.range (k + 1)).map f)).bind fun x => some x.1 := fun k hk next => by
      have hlk : ((List.range k).map f).length = k := by simp
      unfold moves_picked.L1 moves_picked.W2
      rw [hp k hk, ob_some, chk_pos (by rw [hlk]; omega), wk_eq (by omega) (by omega)]
      have hil : (idxV d (k : Int)).length = d.length := idxV_length _ _
      have := inner_spec (fu := fu) (t := t) (l0 := (List.range k).map f) (v := f k) (nx1 := fun a b => next (a, b)) hil h8 (idx_small hg hpos (by omega) (by omega)) d.length fu (Nat.le_refl _) (by omega)
      rw [Nat.sub_self, List.replicate_zero, List.append_nil, List.take_of_length_le (by omega), incV_idx hpos (by omega) (by omega)] at this
      rw [this]
      have e : (List.range k).map f ++ [f k] = (List.range (k + 1)).map f := by rw [List.range_succ, List.map_append]; rfl
      by_cases hc : k + 1 < N
      · rw [if_pos hc, if_pos (by omega), e]
        show next (_, _) = _
        rw [show ((k : Int) + 1) = ((k + 1 : Nat) : Int) by omega]
      · rw [if_neg hc, if_neg (by omega), e]
    refine cloop_to (N - 1) (fun k : Nat => ((List.range k).map f, idxV d (k : Int))) _ ?_ ?_ (by omega)
    · intro k hk next hn
      show moves_picked.L1 fu p2 t d (fun a b => next (a, b)) ((List.range k).map f) (idxV d (k : Int)) = _
      rw [step k (by omega), if_pos (by omega)]
      exact hn
    · intro next
      show moves_picked.L1 fu p2 t d (fun a b => next (a, b)) ((List.range (N - 1)).map f) (idxV d ((N - 1 : Nat) : Int)) = _
      rw [step (N - 1) (by omega), if_neg (by omega), show N - 1 + 1 = N by omega, Pick_spec hs hft (by unfold Short; omega) (by omega) (by simp [Short]; omega) (by simp; omega)]
      rfl
end Go.Av
set_option linter.unusedVariables false
namespace Go.Av
def axisV (a : Int) (n : Nat) : Option Int := if 0 ≤ a then (if a < n then some a else none) else if -(n : Int) ≤ a then some (n + a) else none
theorem Axis_spec {fu : Nat} {a : Int} {n : Nat} (hn : n ≤ 100) : shape_Axis fu a (n : Int) = some (match axisV a n with | some k => (k, 0) | none => (0, 2)) := by
  unfold shape_Axis axisV
  rw [if_neg (by omega), wk_eq (x := 0 - (n : Int)) (by omega) (by omega)]
  by_cases h : 0 ≤ a
  · rw [if_pos h, if_pos h]
    by_cases h1 : a < n
    · rw [if_pos h1, if_pos h1]
    · rw [if_neg h1, if_neg h1]
  · rw [if_neg h, if_neg h]
    by_cases h1 : 0 - (n : Int) ≤ a
    · rw [if_pos h1, if_pos (show -(n : Int) ≤ a by omega), wk_eq (by omega) (by omega)]
    · rw [if_neg h1, if_neg (show ¬ -(n : Int) ≤ a by omega)]
theorem axisV_rng {a : Int} {n : Nat} {k : Int} (h : axisV a n = some k) : 0 ≤ k ∧ k < n := by
  unfold axisV at h
  split at h
  · split at h
    · injection h with h; omega
    · cases h
  · split at h
    · injection h with h; omega
    · cases h
section
variable {fu : Nat}
theorem width_s {k : Int} (h : Known k) : ∃ w, tens_Width fu k = some w ∧ 0 < w := by
  unfold tens_Width
  rcases h with rfl | rfl | rfl
  · exact ⟨4, rfl, by decide⟩
  · exact ⟨8, rfl, by decide⟩
  · exact ⟨1, rfl, by decide⟩
end
theorem dotV_nonneg : ∀ {xs ys : List Int}, (∀ x ∈ xs, 0 ≤ x) → (∀ y ∈ ys, 0 ≤ y) → 0 ≤ dotV xs ys
  | [], _, _, _ => by simp [dotV]
  | _ :: _, [], _, _ => by simp [dotV]
  | x :: xs, y :: ys, hx, hy => by
    have h1 := dotV_nonneg (xs := xs) (ys := ys) (fun z hz => hx z (by simp [hz])) (fun z hz => hy z (by simp [hz]))
    have h2 : 0 ≤ x * y := Int.mul_nonneg (hx x (by simp)) (hy y (by simp))
    simp only [dotV]; omega
theorem dot_spec {fu : Nat} {xs ys : List Int} (hl : xs.length = ys.length) (hx : ∀ x ∈ xs, 0 ≤ x) (hy : ∀ y ∈ ys, 0 ≤ y) (hb : dotV xs ys ≤ 1000000) (hn : ys.length ≤ 100) (hf : 200 < fu) : moves_dot fu xs ys = some (dotV xs ys) := by
  unfold moves_dot moves_dot.W1
  refine (cloop_ind (fun (s : Int × Int) => some (s.1 + dotV (xs.drop s.2.toNat) (ys.drop s.2.toNat))) (fun s => 0 ≤ s.2 ∧ s.2 ≤ ys.length ∧ 0 ≤ s.1 ∧ s.1 + dotV (xs.drop s.2.toNat) (ys.drop s.2.toNat) ≤ 1000000) (fun s => ys.length - s.2.toNat) ?_ fu _ (by simp; omega) (by simp; omega)).trans (by simp)
  rintro ⟨a, i⟩ ⟨h0, h1, h2, h3⟩ next hn2
  simp only at h0 h1 h2 h3 hn2 ⊢
  obtain ⟨k, rfl⟩ := Int.eq_ofNat_of_zero_le h0
  unfold moves_dot.L1
  simp only [Int.toNat_natCast] at h3 ⊢
  by_cases hk : k < ys.length
  · have hk2 : k < xs.length := by omega
    rw [List.drop_eq_getElem_cons hk, List.drop_eq_getElem_cons hk2] at h3 ⊢
    simp only [dotV] at h3 ⊢
    have p1 : 0 ≤ xs[k] * ys[k] := Int.mul_nonneg (hx _ (List.getElem_mem hk2)) (hy _ (List.getElem_mem hk))
    have p2 : 0 ≤ dotV (xs.drop (k + 1)) (ys.drop (k + 1)) := dotV_nonneg (fun z hz => hx z (List.mem_of_mem_drop hz)) (fun z hz => hy z (List.mem_of_mem_drop hz))
    rw [if_pos (by omega), at?_get hk, ob_some, at?_get hk2, ob_some, wk_eq (x := xs[k] * ys[k]) (by omega) (by omega), wk_eq (x := a + xs[k] * ys[k]) (by omega) (by omega), wk_succ (by omega)]
    rw [hn2 (_, ((k + 1 : Nat) : Int)) ⟨by simp only []; omega, by simp only []; omega, by simp only []; omega, by simp only [Int.toNat_natCast]; omega⟩ (by simp; omega)]
    simp only [Int.toNat_natCast]
    congr 1
    omega
  · rw [if_neg (by omega), List.drop_of_length_le (by omega), List.drop_of_length_le (by omega)]
    simp [dotV]
theorem strdW_pos : ∀ {l : List Int}, (∀ x ∈ l, 1 ≤ x) → prod l ≤ 1000000 → strdW l = strV l
  | [], _, _ => rfl
  | d :: l, h, hb => by
    have h' : ∀ x ∈ l, 1 ≤ x := fun x hx => h x (by simp [hx])
    have h1 := prod_pos h'
    have h2 : 1 * prod l ≤ d * prod l := Int.mul_le_mul_of_nonneg_right (h d (by simp)) (by omega)
    simp only [prod] at hb
    have h3 : prod l ≤ 1000000 := by omega
    simp only [strdW, strV]
    rw [strdW_pos h' h3, wk_eq (by omega) (by omega)]
theorem strV_nonneg : ∀ {l : List Int}, (∀ x ∈ l, 1 ≤ x) → ∀ y ∈ strV l, 0 ≤ y
  | [], _, y, hy => by simp [strV] at hy
  | d :: l, h, y, hy => by
    have h' : ∀ x ∈ l, 1 ≤ x := fun x hx => h x (by simp [hx])
    simp only [strV, List.mem_cons] at hy
    rcases hy with rfl | hy
    · have := prod_pos h'; omega
    · exact strV_nonneg h' y hy
theorem idxV_nonneg {l : List Int} {k : Int} (hp : ∀ x ∈ l, 1 ≤ x) (h0 : 0 ≤ k) (h1 : k < prod l) : ∀ x ∈ idxV l k, 0 ≤ x := fun x hx => by
  obtain ⟨j, hj, rfl⟩ := List.getElem_of_mem hx
  have := okIx_at (idxV_length l k) (okIx_idx hp h0 h1) j (by rw [idxV_length] at hj; exact hj)
  rw [gI_get hj] at this
  exact this.1
section
variable {fu : Nat}
theorem strides_m {l : List Int} (hg : Good l) (hf : 20 < fu) : moves_strides fu l = some (strdW l) := by
  have h8 := hg.1
  unfold moves_strides shape_Strides
  rw [Size_spec (by unfold Short; omega) (by omega), ob_some, sizeV, if_pos hg, if_pos rfl, strides_spec (by omega) (by omega), ob_some, ob_some]
theorem canonT_check {t : T_Tensor} : checkV (canonT t) = checkV t := by
  unfold checkV LensOK canonT
  simp only [List.length_map]
theorem canonT_small {t : T_Tensor} (h : Ten t) : Small (canonT t) := by
  have := h.small
  unfold Small canonT at *
  simpa using this
theorem canonT_fuel {t : T_Tensor} (h : Fuel fu t) : Fuel fu (canonT t) := by
  unfold Fuel canonT at *
  simpa using h
end
theorem pk_get {α : Type} {L : List α} {z : α} {a : Int} (h0 : 0 ≤ a) (h1 : a < L.length) : pkOf L z a = L[a.toNat]'(by omega) := by
  unfold pkOf
  rw [if_pos h0, List.getD_eq_getElem?_getD, List.getElem?_eq_getElem (by omega)]
  rfl
theorem len_small {t : T_Tensor} (hc : checkV t = 0) : t.fDims.length ≤ 8 ∧ t.fF.length ≤ 4096 ∧ t.fI.length ≤ 4096 ∧ t.fB.length ≤ 4096 := by
  obtain ⟨hk, hg, l1, l2, l3⟩ := checkV_zero.1 hc
  have h8 := hg.1
  have h4 := hg.2.2
  refine ⟨h8, ?_, ?_, ?_⟩
  · split at l1 <;> omega
  · split at l2 <;> omega
  · split at l3 <;> omega
theorem refCanonF_spec {fu : Nat} {x : Int} (h0 : 0 ≤ x) : ref01_Canon fu x = some (canonF x) := by
  unfold ref01_Canon ref01_IsNone ref01_Abs canonF
  rw [Int.tmod_eq_emod_of_nonneg h0, ob_some, ob_some]
  by_cases h : 2139095040 < x % 2147483648 <;> simp [h]
theorem refCopy_spec {fu : Nat} {t : T_Tensor} (h : Ten t) : ref05_Copy fu t = some t := by
  obtain ⟨h1, h2, h3, h4, _⟩ := h
  unfold ref05_Copy
  rw [chk_pos (by omega), chk_pos (by omega), chk_pos (by omega), chk_pos (by omega)]
theorem refCanon_spec {fu : Nat} {t : T_Tensor} (h : Ten t) (hf : t.fF.length < fu) : ref05_Canon fu t = some (canonT t) := by
  have hu := h.2.2.2.2
  have hl := h.2.1
  unfold ref05_Canon
  rw [refCopy_spec h, ob_some]
  unfold ref05_Canon.W1
  refine map_loop (f := canonF) (c := fun m => some (T_Tensor.mk t.fType t.fDims m t.fI t.fB)) hf ?_ ?_
  · intro next k m hk hm hg
    unfold ref05_Canon.L1
    simp only []
    obtain ⟨u1, u2⟩ := hu _ (List.getElem_mem hk)
    rw [if_pos (by omega), at?_nat, hg, ob_some, refCanonF_spec u1, ob_some, chk_pos (by omega), wk_succ (by omega)]
    rfl
  · intro next m hm
    unfold ref05_Canon.L1
    rw [if_neg (by simp only []; omega)]
end Go.Av
set_option linter.unusedVariables false
namespace Go.Av
def outV (k : Int) (d : List Int) : T_Val := ⟨k, d, false, ⟨0, [], [], [], []⟩⟩
section
variable {fu : Nat} {s : T_Setting} {v : T_Val}
theorem has_63 : infer_ask_has fu ⟨63, s, [v], 1⟩ 0 = some (!(decide (v.fType = 0))) := rfl
theorem val_63 : infer_ask_val fu ⟨63, s, [v], 1⟩ 0 = some v := rfl
theorem dims_63 : infer_ask_dims fu ⟨63, s, [v], 1⟩ 0 = some v.fDims := rfl
theorem complete_63 : infer_ask_complete (fu + 2) ⟨63, s, [v], 1⟩ = some (!(decide (v.fType = 0))) := by
  have h : infer_ask_complete (fu + 2) ⟨63, s, [v], 1⟩ = infer_ask_complete.W1 (fu + 2) ⟨63, s, [v], 1⟩ (1, 1, 1, 1) 0 := rfl
  rw [h]
  unfold infer_ask_complete.W1
  rw [cloop_suc, infer_ask_complete.L1, if_pos (by decide)]
  show (infer_ask_has (fu + 2) ⟨63, s, [v], 1⟩ 0).bind _ = _
  rw [has_63, ob_some]
  by_cases h0 : v.fType = 0
  · simp [h0]
  · rw [if_pos (by simp [h0]), cloop_suc, show wk .i64 (0 + 1) = 1 from rfl, infer_ask_complete.L1, if_neg (by decide)]
    simp [h0]
theorem typed_63 (h0 : v.fType ≠ 0) (hk : Known v.fType) : infer_ask_typed (fu + 2) ⟨63, s, [v], 1⟩ = some true := by
  obtain ⟨w, hw, hw0⟩ := width_s (fu := fu + 2) hk
  have h : infer_ask_typed (fu + 2) ⟨63, s, [v], 1⟩ = infer_ask_typed.W1 (fu + 2) ⟨63, s, [v], 1⟩ ⟨#[97]⟩ 0 := rfl
  rw [h]
  unfold infer_ask_typed.W1
  rw [cloop_suc, infer_ask_typed.L1, if_pos (by simp)]
  show (infer_ask_has (fu + 2) ⟨63, s, [v], 1⟩ 0).bind _ = _
  rw [has_63, ob_some, if_pos (by simp [h0])]
  show (infer_ask_val (fu + 2) ⟨63, s, [v], 1⟩ 0).bind _ = _
  rw [val_63, ob_some, hw, ob_some, if_neg (by omega)]
  show (some 97 : Option Int).bind _ = _
  rw [ob_some]
  have hf : infer_ask_fits (fu + 2) ⟨63, s, [v], 1⟩ 0 97 = (tens_Width (fu + 2) v.fType).bind fun x8 => some (decide (0 < x8)) := rfl
  show (infer_ask_fits (fu + 2) ⟨63, s, [v], 1⟩ 0 97).bind _ = _
  rw [hf, hw, ob_some, ob_some, if_pos (by simpa using hw0), cloop_suc, show wk .i64 (0 + 1) = 1 from rfl, infer_ask_typed.L1, if_neg (by simp)]
  rfl
theorem attr_63 : infer_ask_attributes fu ⟨63, s, [v], 1⟩ = some (decide (1 ≤ s.fBlock ∧ s.fBlock ≤ 4096)) := by
  have h : infer_ask_attributes fu ⟨63, s, [v], 1⟩ = if 1 ≤ s.fBlock then (some (decide (s.fBlock ≤ 4096))) else some false := rfl
  rw [h]
  by_cases h1 : 1 ≤ s.fBlock
  · rw [if_pos h1]; simp [h1]
  · rw [if_neg h1]; simp [h1]
theorem wrong_63 (h0 : v.fType ≠ 0) (hk : Known v.fType) (hg : Good v.fDims) (hf : 20 < fu) :
    infer_ask_wrong (fu + 2) ⟨63, s, [v], 1⟩ = some (if 1 ≤ s.fBlock ∧ s.fBlock ≤ 4096 then 0 else 14) := by
  have h8 := hg.1
  have h : infer_ask_wrong (fu + 2) ⟨63, s, [v], 1⟩ = infer_ask_wrong.W1 (fu + 2) ⟨63, s, [v], 1⟩ 0 := rfl
  rw [h]
  unfold infer_ask_wrong.W1
  rw [cloop_suc, infer_ask_wrong.L1, if_pos (by simp)]
  show (some v).bind _ = _
  rw [ob_some, Size_spec (by unfold Short; omega) (by omega), ob_some]
  show (infer_ask_has (fu + 2) ⟨63, s, [v], 1⟩ 0).bind _ = _
  rw [has_63, ob_some, if_pos (by simp [h0]), sizeV, if_pos hg, if_pos rfl, cloop_suc, show wk .i64 (0 + 1) = 1 from rfl, infer_ask_wrong.L1, if_neg (by simp)]
  have e : infer_ask_wrong.k1 (fu + 2) ⟨63, s, [v], 1⟩ = (infer_ask_typed (fu + 2) ⟨63, s, [v], 1⟩).bind fun x2 => if x2 = true then ((infer_ask_attributes (fu + 2) ⟨63, s, [v], 1⟩).bind fun x3 => if x3 = true then ((infer_ask_told (fu + 2) ⟨63, s, [v], 1⟩).bind fun x4 => some x4) else some 14) else some 5 := rfl
  rw [e, typed_63 h0 hk, ob_some, if_pos rfl, attr_63, ob_some]
  by_cases hp : 1 ≤ s.fBlock ∧ s.fBlock ≤ 4096
  · rw [decide_eq_true hp, if_pos rfl, if_pos hp]; rfl
  · rw [decide_eq_false hp, if_neg (by decide), if_neg hp]
theorem Node_63 {r : List (List Int) × Int} (h0 : v.fType ≠ 0) (hk : Known v.fType) (hg : Good v.fDims) (hc : infer_ask_counted (fu + 2) ⟨63, s, [v], 1⟩ = some r) (hf : 100 < fu) :
    infer_Node (fu + 2) 63 s [v] 1 = if 1 ≤ s.fBlock ∧ s.fBlock ≤ 4096 then (if r.2 = 0 then infer_Node.W1 (fu + 2) s [v] 1 (r.1, r.2) [] 0 else some ([], r.2)) else some ([], 14) := by
  have h : infer_Node (fu + 2) 63 s [v] 1 = (infer_ask_complete (fu + 2) ⟨63, s, [v], 1⟩).bind fun x5 => if x5 = true then ((infer_ask_wrong (fu + 2) ⟨63, s, [v], 1⟩).bind fun x6 => if x6 = 0 then
    ((((infer_ask_counted (fu + 2) ⟨63, s, [v], 1⟩).bind fun x3 => some (x3.1, x3.2)).bind fun x3 => some (x3.1, x3.2)).bind fun x7 => if x7.2 = 0 then (infer_Node.W1 (fu + 2) s [v] 1 x7 ([] : List T_Val) 0) else some ([], x7.2)) else some ([], x6)) else some ([], 1) := rfl
  rw [h, complete_63, ob_some, if_pos (by simp [h0]), wrong_63 h0 hk hg (by omega), ob_some]
  by_cases hp : 1 ≤ s.fBlock ∧ s.fBlock ≤ 4096
  · rw [if_pos hp, if_pos rfl, hc, ob_some, ob_some, ob_some, if_pos hp]
  · rw [if_neg hp, if_neg (by decide), if_neg hp]
theorem Node_none_63 (h0 : v.fType = 0) : infer_Node (fu + 2) 63 s [v] 1 = some ([], 1) := by
  have h : infer_Node (fu + 2) 63 s [v] 1 = (infer_ask_complete (fu + 2) ⟨63, s, [v], 1⟩).bind fun x5 => if x5 = true then ((infer_ask_wrong (fu + 2) ⟨63, s, [v], 1⟩).bind fun x6 => if x6 = 0 then
    ((((infer_ask_counted (fu + 2) ⟨63, s, [v], 1⟩).bind fun x3 => some (x3.1, x3.2)).bind fun x3 => some (x3.1, x3.2)).bind fun x7 => if x7.2 = 0 then (infer_Node.W1 (fu + 2) s [v] 1 x7 ([] : List T_Val) 0) else some ([], x7.2)) else some ([], x6)) else some ([], 1) := rfl
  rw [h, complete_63, ob_some, if_neg (by simp [h0])]
theorem out_63 {d : List Int} (hd : d.length ≤ 100) (hf : 200 < fu) : infer_Node.W1 (fu + 2) s [v] 1 ([d], 0) [] 0 = if Good d then some ([outV v.fType d], 0) else some ([], 4) := by
  unfold infer_Node.W1
  rw [cloop_suc]
  show infer_Node.L1 (fu + 2) s [v] 1 ([d], 0) _ [] 0 = _
  rw [infer_Node.L1, if_pos (show (0 : Int) < ((([d], 0) : List (List Int) × Int).1.length : Int) by simp)]
  show (some d).bind _ = _
  rw [ob_some, Size_spec (by unfold Short; omega) (by omega), ob_some]
  by_cases hg : Good d
  · have ho : infer_ask_out (fu + 2) (T_infer_ask.mk 63 s [v] 1) = some v.fType := rfl
    rw [sizeV, if_pos hg, if_pos rfl, ho, ob_some, Clone_spec (by omega), ob_some, chk_pos (by simp), cloop_suc, if_pos hg]
    rfl
  · rw [sizeV, if_neg hg, if_neg (errS_ne d), if_neg hg]
theorem has_64 : infer_ask_has fu ⟨64, s, [v], 1⟩ 0 = some (!(decide (v.fType = 0))) := rfl
theorem val_64 : infer_ask_val fu ⟨64, s, [v], 1⟩ 0 = some v := rfl
theorem dims_64 : infer_ask_dims fu ⟨64, s, [v], 1⟩ 0 = some v.fDims := rfl
theorem complete_64 : infer_ask_complete (fu + 2) ⟨64, s, [v], 1⟩ = some (!(decide (v.fType = 0))) := by
  have h : infer_ask_complete (fu + 2) ⟨64, s, [v], 1⟩ = infer_ask_complete.W2 (fu + 2) ⟨64, s, [v], 1⟩ (1, 1, 1, 1) 0 := rfl
  rw [h]
  unfold infer_ask_complete.W2
  rw [cloop_suc, infer_ask_complete.L2, if_pos (by decide)]
  show (infer_ask_has (fu + 2) ⟨64, s, [v], 1⟩ 0).bind _ = _
  rw [has_64, ob_some]
  by_cases h0 : v.fType = 0
  · simp [h0]
  · rw [if_pos (by simp [h0]), cloop_suc, show wk .i64 (0 + 1) = 1 from rfl, infer_ask_complete.L2, if_neg (by decide)]
    simp [h0]
theorem typed_64 (h0 : v.fType ≠ 0) (hk : Known v.fType) : infer_ask_typed (fu + 2) ⟨64, s, [v], 1⟩ = some true := by
  obtain ⟨w, hw, hw0⟩ := width_s (fu := fu + 2) hk
  have h : infer_ask_typed (fu + 2) ⟨64, s, [v], 1⟩ = infer_ask_typed.W2 (fu + 2) ⟨64, s, [v], 1⟩ ⟨#[97]⟩ 0 := rfl
  rw [h]
  unfold infer_ask_typed.W2
  rw [cloop_suc, infer_ask_typed.L2, if_pos (by simp)]
  show (infer_ask_has (fu + 2) ⟨64, s, [v], 1⟩ 0).bind _ = _
  rw [has_64, ob_some, if_pos (by simp [h0])]
  show (infer_ask_val (fu + 2) ⟨64, s, [v], 1⟩ 0).bind _ = _
  rw [val_64, ob_some, hw, ob_some, if_neg (by omega)]
  show (some 97 : Option Int).bind _ = _
  rw [ob_some]
  have hf : infer_ask_fits (fu + 2) ⟨64, s, [v], 1⟩ 0 97 = (tens_Width (fu + 2) v.fType).bind fun x8 => some (decide (0 < x8)) := rfl
  show (infer_ask_fits (fu + 2) ⟨64, s, [v], 1⟩ 0 97).bind _ = _
  rw [hf, hw, ob_some, ob_some, if_pos (by simpa using hw0), cloop_suc, show wk .i64 (0 + 1) = 1 from rfl, infer_ask_typed.L2, if_neg (by simp)]
  rfl
theorem attr_64 : infer_ask_attributes fu ⟨64, s, [v], 1⟩ = some (decide (1 ≤ s.fBlock ∧ s.fBlock ≤ 4096)) := by
  have h : infer_ask_attributes fu ⟨64, s, [v], 1⟩ = if 1 ≤ s.fBlock then (some (decide (s.fBlock ≤ 4096))) else some false := rfl
  rw [h]
  by_cases h1 : 1 ≤ s.fBlock
  · rw [if_pos h1]; simp [h1]
  · rw [if_neg h1]; simp [h1]
theorem wrong_64 (h0 : v.fType ≠ 0) (hk : Known v.fType) (hg : Good v.fDims) (hf : 20 < fu) :
    infer_ask_wrong (fu + 2) ⟨64, s, [v], 1⟩ = some (if 1 ≤ s.fBlock ∧ s.fBlock ≤ 4096 then 0 else 14) := by
  have h8 := hg.1
  have h : infer_ask_wrong (fu + 2) ⟨64, s, [v], 1⟩ = infer_ask_wrong.W2 (fu + 2) ⟨64, s, [v], 1⟩ 0 := rfl
  rw [h]
  unfold infer_ask_wrong.W2
  rw [cloop_suc, infer_ask_wrong.L2, if_pos (by simp)]
  show (some v).bind _ = _
  rw [ob_some, Size_spec (by unfold Short; omega) (by omega), ob_some]
  show (infer_ask_has (fu + 2) ⟨64, s, [v], 1⟩ 0).bind _ = _
  rw [has_64, ob_some, if_pos (by simp [h0]), sizeV, if_pos hg, if_pos rfl, cloop_suc, show wk .i64 (0 + 1) = 1 from rfl, infer_ask_wrong.L2, if_neg (by simp)]
  have e : infer_ask_wrong.k2 (fu + 2) ⟨64, s, [v], 1⟩ = (infer_ask_typed (fu + 2) ⟨64, s, [v], 1⟩).bind fun x2 => if x2 = true then ((infer_ask_attributes (fu + 2) ⟨64, s, [v], 1⟩).bind fun x3 => if x3 = true then ((infer_ask_told (fu + 2) ⟨64, s, [v], 1⟩).bind fun x4 => some x4) else some 14) else some 5 := rfl
  rw [e, typed_64 h0 hk, ob_some, if_pos rfl, attr_64, ob_some]
  by_cases hp : 1 ≤ s.fBlock ∧ s.fBlock ≤ 4096
  · rw [decide_eq_true hp, if_pos rfl, if_pos hp]; rfl
  · rw [decide_eq_false hp, if_neg (by decide), if_neg hp]
theorem Node_64 {r : List (List Int) × Int} (h0 : v.fType ≠ 0) (hk : Known v.fType) (hg : Good v.fDims) (hc : infer_ask_counted (fu + 2) ⟨64, s, [v], 1⟩ = some r) (hf : 100 < fu) :
    infer_Node (fu + 2) 64 s [v] 1 = if 1 ≤ s.fBlock ∧ s.fBlock ≤ 4096 then (if r.2 = 0 then infer_Node.W2 (fu + 2) s [v] 1 (r.1, r.2) [] 0 else some ([], r.2)) else some ([], 14) := by
  have h : infer_Node (fu + 2) 64 s [v] 1 = (infer_ask_complete (fu + 2) ⟨64, s, [v], 1⟩).bind fun x5 => if x5 = true then ((infer_ask_wrong (fu + 2) ⟨64, s, [v], 1⟩).bind fun x6 => if x6 = 0 then
    ((((infer_ask_counted (fu + 2) ⟨64, s, [v], 1⟩).bind fun x3 => some (x3.1, x3.2)).bind fun x3 => some (x3.1, x3.2)).bind fun x7 => if x7.2 = 0 then (infer_Node.W2 (fu + 2) s [v] 1 x7 ([] : List T_Val) 0) else some ([], x7.2)) else some ([], x6)) else some ([], 1) := rfl
  rw [h, complete_64, ob_some, if_pos (by simp [h0]), wrong_64 h0 hk hg (by omega), ob_some]
  by_cases hp : 1 ≤ s.fBlock ∧ s.fBlock ≤ 4096
  · rw [if_pos hp, if_pos rfl, hc, ob_some, ob_some, ob_some, if_pos hp]
  · rw [if_neg hp, if_neg (by decide), if_neg hp]
theorem Node_none_64 (h0 : v.fType = 0) : infer_Node (fu + 2) 64 s [v] 1 = some ([], 1) := by
  have h : infer_Node (fu + 2) 64 s [v] 1 = (infer_ask_complete (fu + 2) ⟨64, s, [v], 1⟩).bind fun x5 => if x5 = true then ((infer_ask_wrong (fu + 2) ⟨64, s, [v], 1⟩).bind fun x6 => if x6 = 0 then
    ((((infer_ask_counted (fu + 2) ⟨64, s, [v], 1⟩).bind fun x3 => some (x3.1, x3.2)).bind fun x3 => some (x3.1, x3.2)).bind fun x7 => if x7.2 = 0 then (infer_Node.W2 (fu + 2) s [v] 1 x7 ([] : List T_Val) 0) else some ([], x7.2)) else some ([], x6)) else some ([], 1) := rfl
  rw [h, complete_64, ob_some, if_neg (by simp [h0])]
theorem out_64 {d : List Int} (hd : d.length ≤ 100) (hf : 200 < fu) : infer_Node.W2 (fu + 2) s [v] 1 ([d], 0) [] 0 = if Good d then some ([outV v.fType d], 0) else some ([], 4) := by
  unfold infer_Node.W2
  rw [cloop_suc]
  show infer_Node.L2 (fu + 2) s [v] 1 ([d], 0) _ [] 0 = _
  rw [infer_Node.L2, if_pos (show (0 : Int) < ((([d], 0) : List (List Int) × Int).1.length : Int) by simp)]
  show (some d).bind _ = _
  rw [ob_some, Size_spec (by unfold Short; omega) (by omega), ob_some]
  by_cases hg : Good d
  · have ho : infer_ask_out (fu + 2) (T_infer_ask.mk 64 s [v] 1) = some v.fType := rfl
    rw [sizeV, if_pos hg, if_pos rfl, ho, ob_some, Clone_spec (by omega), ob_some, chk_pos (by simp), cloop_suc, if_pos hg]
    rfl
  · rw [sizeV, if_neg hg, if_neg (errS_ne d), if_neg hg]
theorem wkc {x : Nat} (h : x ≤ 9000000000000000000) : wk .i64 (x : Int) = (x : Int) := wk_eq (by omega) (by omega)
theorem tdiv_nat {a b : Nat} : Int.tdiv (a : Int) (b : Int) = ((a / b : Nat) : Int) := by rw [Int.tdiv_eq_ediv_of_nonneg (by omega), ← Int.natCast_ediv]
theorem tmod_nat {a b : Nat} : Int.tmod (a : Int) (b : Int) = ((a % b : Nat) : Int) := by rw [Int.tmod_eq_emod_of_nonneg (by omega), ← Int.natCast_emod]
theorem mul_le4 {a b x y : Nat} (h1 : a ≤ x) (h2 : b ≤ y) : a * b ≤ x * y := Nat.mul_le_mul h1 h2
theorem counted_64 {A C H W B : Nat} (hb : s.fBlock = (B : Int)) (h1 : 1 ≤ B) (h2 : B ≤ 4096) (hd : v.fDims = [(A : Int), (C : Int), ((H * B : Nat) : Int), ((W * B : Nat) : Int)]) (hC : C ≤ 4096) (hH : H ≤ 4096) (hW : W ≤ 4096) :
    infer_ask_counted fu ⟨64, s, [v], 1⟩ = some ([[(A : Int), ((C * B * B : Nat) : Int), (H : Int), (W : Int)]], 0) := by
  have h : infer_ask_counted fu ⟨64, s, [v], 1⟩ = (some v.fDims).bind fun x10 => if (x10.length : Int) = 4 then ((at? x10 2).bind fun x12 => chk (s.fBlock ≠ 0) <| if (Int.tmod x12 s.fBlock) = 0 then ((at? x10 3).bind fun x13 => if (Int.tmod x13 s.fBlock) = 0 then ((at? x10 0).bind fun x14 => (at? x10 1).bind fun x15 => (infer_one fu ([x14, wk .i64 ((wk .i64 (x15 * s.fBlock)) * s.fBlock), wk .i64 (Int.tdiv x12 s.fBlock), wk .i64 (Int.tdiv x13 s.fBlock)])).bind fun x16 => some (x16.1, x16.2)) else infer_ask_counted.k2 fu) else infer_ask_counted.k2 fu) else (infer_misfit fu).bind fun x17 => some (x17.1, x17.2) := rfl
  have m1 : C * B ≤ 4096 * 4096 := mul_le4 hC h2
  have m2 : C * B * B ≤ 4096 * 4096 * 4096 := mul_le4 m1 h2
  rw [h, ob_some, hd, hb, if_pos (by simp)]
  show (some ((H * B : Nat) : Int)).bind _ = _
  rw [ob_some, chk_pos (by omega), tmod_nat, Nat.mul_mod_left, if_pos (by simp)]
  show (some ((W * B : Nat) : Int)).bind _ = _
  rw [ob_some, tmod_nat, Nat.mul_mod_left, if_pos (by simp)]
  show (some (A : Int)).bind _ = _
  rw [ob_some]
  show (some (C : Int)).bind _ = _
  rw [ob_some, tdiv_nat, tdiv_nat, Nat.mul_div_cancel _ (by omega), Nat.mul_div_cancel _ (by omega), ← Int.natCast_mul, wkc (by omega), ← Int.natCast_mul, wkc (by omega), wkc (by omega), wkc (by omega)]
  rfl
theorem counted_bad (hb : s.fBlock ≠ 0) (hn : ¬ ∃ d0 d1 d2 d3 : Int, v.fDims = [d0, d1, d2, d3] ∧ Int.tmod d2 s.fBlock = 0 ∧ Int.tmod d3 s.fBlock = 0) : infer_ask_counted fu ⟨64, s, [v], 1⟩ = some ([], 3) := by
  have h : infer_ask_counted fu ⟨64, s, [v], 1⟩ = (some v.fDims).bind fun x10 => if (x10.length : Int) = 4 then ((at? x10 2).bind fun x12 => chk (s.fBlock ≠ 0) <| if (Int.tmod x12 s.fBlock) = 0 then ((at? x10 3).bind fun x13 => if (Int.tmod x13 s.fBlock) = 0 then ((at? x10 0).bind fun x14 => (at? x10 1).bind fun x15 => (infer_one fu ([x14, wk .i64 ((wk .i64 (x15 * s.fBlock)) * s.fBlock), wk .i64 (Int.tdiv x12 s.fBlock), wk .i64 (Int.tdiv x13 s.fBlock)])).bind fun x16 => some (x16.1, x16.2)) else some ([], 3)) else some ([], 3)) else some ([], 3) := rfl
  rw [h, ob_some]
  generalize hdd : v.fDims = d at *
  match d, hn with
  | [d0, d1, d2, d3], hn =>
    rw [if_pos (by simp)]
    show (some d2).bind _ = _
    rw [ob_some, chk_pos hb]
    by_cases c1 : Int.tmod d2 s.fBlock = 0
    · rw [if_pos c1]
      show (some d3).bind _ = _
      rw [ob_some]
      by_cases c2 : Int.tmod d3 s.fBlock = 0
      · exact absurd ⟨d0, d1, d2, d3, rfl, c1, c2⟩ hn
      · rw [if_neg c2]
    · rw [if_neg c1]
  | [], _ => rfl
  | [_], _ => rfl
  | [_, _], _ => rfl
  | [_, _, _], _ => rfl
  | _ :: _ :: _ :: _ :: _ :: l, _ => rw [if_neg (by simp; omega)]
theorem counted_63 {A C H W B : Nat} (hb : s.fBlock = (B : Int)) (h1 : 1 ≤ B) (h2 : B ≤ 4096) (hd : v.fDims = [(A : Int), ((C * B * B : Nat) : Int), (H : Int), (W : Int)]) (hC : C ≤ 4096) (hH : H ≤ 4096) (hW : W ≤ 4096) :
    infer_ask_counted fu ⟨63, s, [v], 1⟩ = some ([[(A : Int), (C : Int), ((H * B : Nat) : Int), ((W * B : Nat) : Int)]], 0) := by
  have h : infer_ask_counted fu ⟨63, s, [v], 1⟩ = (some v.fDims).bind fun x2 => if (x2.length : Int) = 4 then ((at? x2 1).bind fun x4 => chk ((wk .i64 (s.fBlock * s.fBlock)) ≠ 0) <| if (Int.tmod x4 (wk .i64 (s.fBlock * s.fBlock))) = 0 then ((at? x2 0).bind fun x5 => (at? x2 2).bind fun x6 => (at? x2 3).bind fun x7 => (infer_one fu ([x5, wk .i64 (Int.tdiv x4 (wk .i64 (s.fBlock * s.fBlock))), wk .i64 (x6 * s.fBlock), wk .i64 (x7 * s.fBlock)])).bind fun x8 => some (x8.1, x8.2)) else infer_ask_counted.k1 fu) else (infer_misfit fu).bind fun x9 => some (x9.1, x9.2) := rfl
  have m0 : B * B ≤ 4096 * 4096 := mul_le4 h2 h2
  have m1 : H * B ≤ 4096 * 4096 := mul_le4 hH h2
  have m2 : W * B ≤ 4096 * 4096 := mul_le4 hW h2
  have p0 : 0 < B * B := Nat.mul_pos h1 h1
  have hbb : wk .i64 ((B : Int) * (B : Int)) = ((B * B : Nat) : Int) := by rw [← Int.natCast_mul, wkc (by omega)]
  rw [h, ob_some, hd, hb, hbb, if_pos (by simp)]
  show (some ((C * B * B : Nat) : Int)).bind _ = _
  rw [ob_some, chk_pos (by omega), tmod_nat, Nat.mul_assoc, Nat.mul_mod_left, if_pos (by simp)]
  show (some (A : Int)).bind _ = _
  rw [ob_some]
  show (some (H : Int)).bind _ = _
  rw [ob_some]
  show (some (W : Int)).bind _ = _
  rw [ob_some, tdiv_nat, Nat.mul_div_cancel _ p0, ← Int.natCast_mul, ← Int.natCast_mul, wkc (by omega), wkc (by omega), wkc (by omega)]
  rfl
end
end Go.Av
set_option linter.unusedVariables false
namespace Go.Av
def pl {α : Type} (n : Nat) (f : Nat → Int) (L : List α) (z : α) : List α := ((List.range n).map f).map (pkOf L z)
theorem pl_length {α : Type} {n : Nat} {f : Nat → Int} {L : List α} {z : α} : (pl n f L z).length = n := by simp [pl]
theorem pl_back {α : Type} {n : Nat} {f g : Nat → Int} {L : List α} {z : α} (hL : L.length = n) (hf : ∀ k, k < n → 0 ≤ f k ∧ f k < n) (hg : ∀ k, k < n → 0 ≤ g k ∧ g k < n ∧ f (g k).toNat = k) : pl n g (pl n f L z) z = L := by
  refine List.ext_getElem (by rw [pl_length, hL]) fun k h1 h2 => ?_
  obtain ⟨q1, q2, q3⟩ := hg k (by omega)
  have a1 : (pl n g (pl n f L z) z)[k] = pkOf (pl n f L z) z (g k) := by simp [pl]
  rw [a1, pk_get q1 (by rw [pl_length]; omega)]
  have a2 : (pl n f L z)[(g k).toNat]'(by rw [pl_length]; omega) = pkOf L z (f (g k).toNat) := by simp [pl]
  rw [a2, q3, pk_get (by omega) (by omega)]
  simp
/-- elements picked by places: as the picked tensor has them -/
def pT (e : List Int) (n : Nat) (f : Nat → Int) (t : T_Tensor) : T_Tensor := (pickV t e ((List.range n).map f)).1
structure PickOK (e : List Int) (n : Nat) (f : Nat → Int) (t : T_Tensor) : Prop where
  chk : checkV t = 0
  good : Good e
  he : prod e = (n : Int)
  hd : prod t.fDims = (n : Int)
  hf : ∀ k, k < n → 0 ≤ f k ∧ f k < n
section
variable {e : List Int} {n : Nat} {f : Nat → Int} {t : T_Tensor}
theorem pT_eq (h : PickOK e n f t) : pT e n f t = if t.fType = 1 then ⟨t.fType, e, pl n f t.fF 0, [], []⟩ else if t.fType = 7 then ⟨t.fType, e, [], pl n f t.fI 0, []⟩ else ⟨t.fType, e, [], [], pl n f t.fB false⟩ := by
  obtain ⟨hc, hge, he, hd, hf⟩ := h
  obtain ⟨hk, hg, hL⟩ := checkV_zero.1 hc
  have hnew : (newV t.fType e).2 = 0 := by
    unfold newV
    rw [if_pos (show t.fType = 1 ∨ t.fType = 7 ∨ t.fType = 9 from hk), if_pos hge]
    split
    · rfl
    · split <;> rfl
  have hlen : ((((List.range n).map f).length : Nat) : Int) = prod e := by simp; omega
  have hsum : (t.fF.length : Int) + t.fI.length + t.fB.length = prod t.fDims := by
    obtain ⟨l1, l2, l3⟩ := hL
    rcases hk with e | e | e <;> simp [e] at l1 l2 l3 <;> simp [l1, l2, l3]
  have hbad : ¬ (((List.range n).map f).any (badP (t.fF.length + t.fI.length + t.fB.length)) = true) := by
    rw [hsum]
    intro h
    obtain ⟨x, hx, hx2⟩ := List.any_eq_true.1 h
    obtain ⟨k, hk, rfl⟩ := List.mem_map.1 hx
    have := hf k (List.mem_range.1 hk)
    simp [badP] at hx2
    omega
  unfold pT pickV
  rw [if_pos hc, if_pos hnew, if_pos hlen, if_neg hbad]
  rfl
theorem pT_type (h : PickOK e n f t) : (pT e n f t).fType = t.fType ∧ (pT e n f t).fDims = e := by
  rw [pT_eq h]
  split
  · exact ⟨rfl, rfl⟩
  · split <;> exact ⟨rfl, rfl⟩
theorem pT_check (h : PickOK e n f t) : checkV (pT e n f t) = 0 := by
  obtain ⟨e1, e2⟩ := pT_type h
  obtain ⟨hk, hg, hL⟩ := checkV_zero.1 h.chk
  refine checkV_zero.2 ⟨by rw [e1]; exact hk, by rw [e2]; exact h.good, ?_⟩
  rw [pT_eq h]
  have := h.he
  rcases hk with e | e | e <;> simp [e, LensOK, pl_length] <;> omega
theorem pk_mem {α : Type} {L : List α} {z : α} {a : Int} : pkOf L z a = z ∨ pkOf L z a ∈ L := by
  unfold pkOf
  split
  · rw [List.getD_eq_getElem?_getD]
    by_cases h : a.toNat < L.length
    · rw [List.getElem?_eq_getElem h]; exact .inr (List.getElem_mem h)
    · rw [List.getElem?_eq_none (by omega)]; exact .inl rfl
  · exact .inl rfl
theorem pl_mem {α : Type} {L : List α} {z x : α} (h : x ∈ pl n f L z) : x = z ∨ x ∈ L := by
  unfold pl at h
  obtain ⟨a, _, rfl⟩ := List.mem_map.1 h
  exact pk_mem
theorem pT_F (h : PickOK e n f t) {x : Int} (hx : x ∈ (pT e n f t).fF) : x = 0 ∨ x ∈ t.fF := by
  rw [pT_eq h] at hx
  split at hx
  · exact pl_mem hx
  · split at hx <;> simp at hx
theorem canonF_canonF (x : Int) : canonF (canonF x) = canonF x := by
  unfold canonF
  by_cases h : 2139095040 < x % 2147483648
  · rw [if_pos h]; decide
  · rw [if_neg h, if_neg h]
theorem canonF_rng {x : Int} (h : 0 ≤ x ∧ x < 4294967296) : 0 ≤ canonF x ∧ canonF x < 4294967296 := by
  unfold canonF
  split
  · omega
  · exact h
theorem pT_canon (h : PickOK e n f (canonT t)) : canonT (pT e n f (canonT t)) = pT e n f (canonT t) := by
  have : (pT e n f (canonT t)).fF.map canonF = (pT e n f (canonT t)).fF := by
    conv => rhs; rw [← List.map_id (pT e n f (canonT t)).fF]
    refine List.map_congr_left fun x hx => ?_
    rcases pT_F h hx with rfl | hm
    · decide
    · obtain ⟨y, _, rfl⟩ := List.mem_map.1 (show x ∈ t.fF.map canonF from hm)
      exact canonF_canonF y
  unfold canonT at this ⊢
  rw [this]
theorem pT_ten (ht : Ten t) (h : PickOK e n f (canonT t)) : Ten (pT e n f (canonT t)) := by
  obtain ⟨h1, h2, h3, h4⟩ := len_small (pT_check h)
  refine ⟨by omega, by omega, by omega, by omega, fun x hx => ?_⟩
  rcases pT_F h hx with rfl | hm
  · decide
  · obtain ⟨y, hy, rfl⟩ := List.mem_map.1 (show x ∈ t.fF.map canonF from hm)
    exact canonF_rng (ht.2.2.2.2 y hy)
/-- places and those that lead back -/
theorem pT_back {g : Nat → Int} (h : PickOK e n f t) (hg : ∀ k, k < n → 0 ≤ g k ∧ g k < n ∧ f (g k).toNat = k) : pT t.fDims n g (pT e n f t) = t := by
  obtain ⟨hk, hgd, l1, l2, l3⟩ := checkV_zero.1 h.chk
  obtain ⟨e1, e2⟩ := pT_type h
  have hd := h.hd
  have h2 : PickOK t.fDims n g (pT e n f t) := ⟨pT_check h, hgd, hd, by rw [e2]; exact h.he, fun k hk => ⟨(hg k hk).1, (hg k hk).2.1⟩⟩
  rw [pT_eq h2, e1, pT_eq h]
  have hf := h.hf
  obtain ⟨ty, d, F, I, B⟩ := t
  simp only at *
  rcases hk with rfl | rfl | rfl
  · simp at l1 l2 l3
    subst l2 l3
    simp only [if_true]
    rw [pl_back (by omega) hf hg]
  · simp at l1 l2 l3
    subst l1 l3
    simp only [show ¬ (7 : Int) = 1 by decide, if_false, if_true]
    rw [pl_back (by omega) hf hg]
  · simp at l1 l2 l3
    subst l1 l2
    simp only [show ¬ (9 : Int) = 1 by decide, show ¬ (9 : Int) = 7 by decide, if_false]
    rw [pl_back (by omega) hf hg]
end
def dS (A C H W B : Nat) : List Int := [(A : Int), (C : Int), ((H * B : Nat) : Int), ((W * B : Nat) : Int)]
def dD (A C H W B : Nat) : List Int := [(A : Int), ((C * B * B : Nat) : Int), (H : Int), (W : Int)]
def xOf (B C : Nat) : List Int → List Int
  | [a, b, c, d] => [a, ((b.toNat % C : Nat) : Int), ((c.toNat * B + b.toNat / C / B : Nat) : Int), ((d.toNat * B + b.toNat / C % B : Nat) : Int)]
  | _ => []
def yOf (B C : Nat) : List Int → List Int
  | [a, b, c, d] => [a, (((c.toNat % B * B + d.toNat % B) * C + b.toNat : Nat) : Int), ((c.toNat / B : Nat) : Int), ((d.toNat / B : Nat) : Int)]
  | _ => []
theorem ok4 {p q r s : Nat} {i : List Int} (hl : i.length = 4) (h : okIx [(p : Int), (q : Int), (r : Int), (s : Int)] i = true) : ∃ a b c d : Nat, i = [(a : Int), (b : Int), (c : Int), (d : Int)] ∧ a < p ∧ b < q ∧ c < r ∧ d < s := by
  match i, hl with
  | [a, b, c, d], _ =>
    simp only [okIx, Bool.and_eq_true, decide_eq_true_eq, and_true] at h
    obtain ⟨⟨h1, h2⟩, ⟨h3, h4⟩, ⟨h5, h6⟩, h7, h8⟩ := h
    exact ⟨a.toNat, b.toNat, c.toNat, d.toNat, by rw [Int.toNat_of_nonneg h1, Int.toNat_of_nonneg h3, Int.toNat_of_nonneg h5, Int.toNat_of_nonneg h7], by omega, by omega, by omega, by omega⟩
theorem ok4' {p q r s a b c d : Nat} (h1 : a < p) (h2 : b < q) (h3 : c < r) (h4 : d < s) : okIx [(p : Int), (q : Int), (r : Int), (s : Int)] [(a : Int), (b : Int), (c : Int), (d : Int)] = true := by
  simp [okIx]; omega
theorem lt_row {x y n B : Nat} (h1 : x < n) (h2 : y < B) : x * B + y < n * B := by
  have : (x + 1) * B ≤ n * B := Nat.mul_le_mul_right _ h1
  rw [Nat.add_mul] at this
  omega
theorem dd_lt {b C B : Nat} (h : b < C * B * B) (hC : 1 ≤ C) (hB : 1 ≤ B) : b / C / B < B := by
  rw [Nat.div_div_eq_div_mul]
  refine (Nat.div_lt_iff_lt_mul (Nat.mul_pos hC hB)).2 ?_
  rw [Nat.mul_comm B]
  exact h
section
variable {A C H W B : Nat} {i : List Int}
theorem x_ok (hB : 1 ≤ B) (hC : 1 ≤ C) (hl : i.length = 4) (h : okIx (dD A C H W B) i = true) : (xOf B C i).length = 4 ∧ okIx (dS A C H W B) (xOf B C i) = true := by
  obtain ⟨a, b, c, d, rfl, h1, h2, h3, h4⟩ := ok4 hl h
  refine ⟨rfl, ?_⟩
  show okIx (dS A C H W B) [(a : Int), ((b % C : Nat) : Int), ((c * B + b / C / B : Nat) : Int), ((d * B + b / C % B : Nat) : Int)] = true
  exact ok4' h1 (Nat.mod_lt _ hC) (lt_row h3 (dd_lt h2 hC hB)) (lt_row h4 (Nat.mod_lt _ hB))
theorem y_ok (hB : 1 ≤ B) (hl : i.length = 4) (h : okIx (dS A C H W B) i = true) : (yOf B C i).length = 4 ∧ okIx (dD A C H W B) (yOf B C i) = true := by
  obtain ⟨a, b, c, d, rfl, h1, h2, h3, h4⟩ := ok4 hl h
  refine ⟨rfl, ?_⟩
  show okIx (dD A C H W B) [(a : Int), (((c % B * B + d % B) * C + b : Nat) : Int), ((c / B : Nat) : Int), ((d / B : Nat) : Int)] = true
  refine ok4' h1 ?_ ((Nat.div_lt_iff_lt_mul hB).2 h3) ((Nat.div_lt_iff_lt_mul hB).2 h4)
  have := lt_row (lt_row (Nat.mod_lt c hB) (Nat.mod_lt d hB)) h2
  rw [Nat.mul_assoc C, Nat.mul_comm C]
  exact this
theorem x_y (hB : 1 ≤ B) (hC : 1 ≤ C) (hl : i.length = 4) (h : okIx (dS A C H W B) i = true) : xOf B C (yOf B C i) = i := by
  obtain ⟨a, b, c, d, rfl, h1, h2, h3, h4⟩ := ok4 hl h
  have m1 : ((c % B * B + d % B) * C + b) % C = b := by rw [Nat.mul_comm, Nat.mul_add_mod, Nat.mod_eq_of_lt h2]
  have m2 : ((c % B * B + d % B) * C + b) / C = c % B * B + d % B := by rw [Nat.mul_comm, Nat.mul_add_div hC, Nat.div_eq_of_lt h2]; rfl
  have m3 : (c % B * B + d % B) / B = c % B := by rw [Nat.mul_comm, Nat.mul_add_div hB, Nat.div_eq_of_lt (Nat.mod_lt d hB)]; rfl
  have m4 : (c % B * B + d % B) % B = d % B := by rw [Nat.mul_comm, Nat.mul_add_mod, Nat.mod_mod]
  have m5 : c / B * B + c % B = c := by rw [Nat.mul_comm]; exact Nat.div_add_mod c B
  have m6 : d / B * B + d % B = d := by rw [Nat.mul_comm]; exact Nat.div_add_mod d B
  show [(a : Int), ((((c % B * B + d % B) * C + b) % C : Nat) : Int), ((c / B * B + ((c % B * B + d % B) * C + b) / C / B : Nat) : Int), ((d / B * B + ((c % B * B + d % B) * C + b) / C % B : Nat) : Int)] = _
  rw [m1, m2, m3, m4, m5, m6]
theorem prod_SD : prod (dD A C H W B) = prod (dS A C H W B) := by
  simp only [dD, dS, prod, Int.natCast_mul, Int.mul_one]
  ac_rfl
def fX (A C H W B : Nat) (k : Nat) : Int := offV (dS A C H W B) (xOf B C (idxV (dD A C H W B) (k : Int)))
def gY (A C H W B : Nat) (k : Nat) : Int := offV (dD A C H W B) (yOf B C (idxV (dS A C H W B) (k : Int)))
theorem pos_dD (h : ∀ x ∈ dS A C H W B, 1 ≤ x) : (∀ x ∈ dD A C H W B, 1 ≤ x) ∧ 1 ≤ A ∧ 1 ≤ C ∧ 1 ≤ H ∧ 1 ≤ W ∧ 1 ≤ B := by
  have h1 := h A (by simp [dS]); have h2 := h C (by simp [dS]); have h3 := h ((H * B : Nat) : Int) (by simp [dS]); have h4 := h ((W * B : Nat) : Int) (by simp [dS])
  have q1 : H * B ≠ 0 := by omega
  have q2 : W * B ≠ 0 := by omega
  have r1 := (Nat.mul_ne_zero_iff.1 q1); have r2 := (Nat.mul_ne_zero_iff.1 q2)
  have p : 1 ≤ C * B * B := Nat.mul_pos (Nat.mul_pos (by omega) (by omega)) (by omega)
  refine ⟨fun x hx => ?_, by omega, by omega, by omega, by omega, by omega⟩
  simp only [dD, List.mem_cons, List.not_mem_nil, or_false] at hx
  rcases hx with rfl | rfl | rfl | rfl <;> omega
theorem fX_rng (h : ∀ x ∈ dS A C H W B, 1 ≤ x) {k : Nat} (hk : (k : Int) < prod (dS A C H W B)) : 0 ≤ fX A C H W B k ∧ fX A C H W B k < prod (dS A C H W B) := by
  obtain ⟨h', hA, hC, hH, hW, hB⟩ := pos_dD h
  obtain ⟨q1, q2⟩ := x_ok hB hC (idxV_length _ _) (okIx_idx h' (a := (k : Int)) (by omega) (by rw [prod_SD]; exact hk))
  exact offV_lt (fun x hx => by have := h x hx; omega) q1 q2
theorem gY_rng (h : ∀ x ∈ dS A C H W B, 1 ≤ x) {k : Nat} (hk : (k : Int) < prod (dS A C H W B)) : 0 ≤ gY A C H W B k ∧ gY A C H W B k < prod (dS A C H W B) ∧ fX A C H W B (gY A C H W B k).toNat = k := by
  obtain ⟨h', hA, hC, hH, hW, hB⟩ := pos_dD h
  have ok := okIx_idx h (a := (k : Int)) (by omega) hk
  have l4 := idxV_length (dS A C H W B) (k : Int)
  obtain ⟨q1, q2⟩ := y_ok hB l4 ok
  obtain ⟨r1, r2⟩ := offV_lt (l := dD A C H W B) (fun x hx => by have := h' x hx; omega) q1 q2
  rw [prod_SD] at r2
  refine ⟨r1, r2, ?_⟩
  unfold fX
  rw [Int.toNat_of_nonneg (show 0 ≤ gY A C H W B k from r1)]
  show offV _ (xOf B C (idxV _ (offV (dD A C H W B) (yOf B C (idxV (dS A C H W B) (k : Int)))))) = _
  rw [idxV_off (fun x hx => by have := h' x hx; omega) q1 q2, x_y hB hC l4 ok]
  exact offV_idx h (by omega) hk
end
end Go.Av
set_option linter.unusedVariables false
namespace Go.Av
theorem wkc4 {x : Nat} (h : x ≤ 4096) : wk .i64 (x : Int) = (x : Int) := wkc (Nat.le_trans h (by decide))
theorem pos_dS {A C H W B : Nat} (hg : Good (dS A C H W B)) {k : Nat} (hk : (k : Int) < prod (dS A C H W B)) : ∀ x ∈ dS A C H W B, 1 ≤ x := pos_of_good hg (by omega)
section
variable {fu A C H W B : Nat} {s : T_Setting} {l : List T_Tensor} {x : T_Tensor} {ax : Int}
theorem clo_64 {i : List Int} (hb : s.fBlock = (B : Int)) (hd : x.fDims = dS A C H W B) (hg : Good (dS A C H W B)) (hp : ∀ x ∈ dS A C H W B, 1 ≤ x) (hl : i.length = 4) (h : okIx (dD A C H W B) i = true) (hge : Good (dD A C H W B)) (hf : 200 < fu) :
    moves_move_depth_1 fu i ⟨64, s, l, x, ax⟩ s.fBlock (dD A C H W B) (strdW x.fDims) = some (offV (dS A C H W B) (xOf B C i)) := by
  obtain ⟨hp', hA, hC, hH, hW, hB⟩ := pos_dD hp
  obtain ⟨q1, q2⟩ := x_ok hB hC hl h
  obtain ⟨a, b, c, d, rfl, h1, h2, h3, h4⟩ := ok4 hl h
  have g1 := hg.2.1 ((H * B : Nat) : Int) (by simp [dS])
  have g2 := hg.2.1 ((W * B : Nat) : Int) (by simp [dS])
  have g3 := hge.2.1 ((C * B * B : Nat) : Int) (by simp [dD])
  have k1 := Nat.le_trans (Nat.le_of_lt (lt_row h3 (dd_lt h2 hC hB))) (Int.ofNat_le.1 g1.2)
  have k2 := Nat.le_trans (Nat.le_of_lt (lt_row h4 (Nat.mod_lt (b / C) hB))) (Int.ofNat_le.1 g2.2)
  have b0 : b ≤ 4096 := Nat.le_trans (Nat.le_of_lt h2) (Int.ofNat_le.1 g3.2)
  have b1 : b / C ≤ 4096 := Nat.le_trans (Nat.div_le_self _ _) b0
  have b2 : b / C / B ≤ 4096 := Nat.le_trans (Nat.div_le_self _ _) b1
  have k3 : c * B ≤ 4096 := Nat.le_trans (Nat.le_add_right _ _) k1
  have k4 : d * B ≤ 4096 := Nat.le_trans (Nat.le_add_right _ _) k2
  have hxe : xOf B C [(a : Int), (b : Int), (c : Int), (d : Int)] = [(a : Int), ((b % C : Nat) : Int), ((c * B + b / C / B : Nat) : Int), ((d * B + b / C % B : Nat) : Int)] := rfl
  have e : moves_move_depth_1 fu [(a : Int), (b : Int), (c : Int), (d : Int)] ⟨64, s, l, x, ax⟩ s.fBlock (dD A C H W B) (strdW x.fDims) = (at? x.fDims 1).bind fun x6 => chk (x6 ≠ 0) <| chk (s.fBlock ≠ 0) <| (moves_dot fu ([(a : Int), Int.tmod (b : Int) x6, wk .i64 ((wk .i64 ((c : Int) * s.fBlock)) + (wk .i64 (Int.tdiv (wk .i64 (Int.tdiv (b : Int) x6)) s.fBlock))), wk .i64 ((wk .i64 ((d : Int) * s.fBlock)) + (Int.tmod (wk .i64 (Int.tdiv (b : Int) x6)) s.fBlock))]) (strdW x.fDims)).bind fun x13 => some x13 := rfl
  rw [e, hd, hb]
  show (some (C : Int)).bind _ = _
  have hpr := hg.2.2
  rw [strdW_pos hp (by omega), ob_some, chk_pos (by omega), chk_pos (by omega), tmod_nat, tdiv_nat, wkc4 b1, tdiv_nat, wkc4 b2, tmod_nat, ← Int.natCast_mul, wkc4 k3, ← Int.natCast_mul, wkc4 k4, ← Int.natCast_add, wkc4 k1, ← Int.natCast_add, wkc4 k2, ← hxe]
  obtain ⟨r1, r2⟩ := offV_lt (fun y hy => by have := hp y hy; omega) q1 q2
  rw [dot_spec (by rw [strV_length]; exact q1) (by rw [hxe]; intro y hy; simp only [List.mem_cons, List.not_mem_nil, or_false] at hy; rcases hy with rfl | rfl | rfl | rfl <;> exact Int.natCast_nonneg _) (strV_nonneg hp) (by rw [dot_strV]; omega) (by rw [strV_length]; simp [dS]) hf, ob_some, dot_strV]
theorem clo_63 {i : List Int} (hb : s.fBlock = (B : Int)) (hm : s.fMode ≠ 7) (hd : x.fDims = dD A C H W B) (hg : Good (dS A C H W B)) (hp : ∀ x ∈ dS A C H W B, 1 ≤ x) (hl : i.length = 4) (h : okIx (dS A C H W B) i = true) (hge : Good (dD A C H W B)) (hf : 200 < fu) :
    moves_move_depth_1 fu i ⟨63, s, l, x, ax⟩ s.fBlock (dS A C H W B) (strdW x.fDims) = some (offV (dD A C H W B) (yOf B C i)) := by
  obtain ⟨hp', hA, hC, hH, hW, hB⟩ := pos_dD hp
  obtain ⟨q1, q2⟩ := y_ok hB hl h
  obtain ⟨a, b, c, d, rfl, h1, h2, h3, h4⟩ := ok4 hl h
  have g1 := hg.2.1 ((H * B : Nat) : Int) (by simp [dS])
  have g2 := hg.2.1 ((W * B : Nat) : Int) (by simp [dS])
  have g3 := hge.2.1 ((C * B * B : Nat) : Int) (by simp [dD])
  have k1 := lt_row (Nat.mod_lt c hB) (Nat.mod_lt d hB)
  have b3 : B * B * C = C * B * B := by rw [Nat.mul_assoc C, Nat.mul_comm C]
  have k2 := Nat.le_trans (Nat.le_trans (Nat.le_of_lt (lt_row k1 h2)) (Nat.le_of_eq b3)) (Int.ofNat_le.1 g3.2)
  have k5 : (c % B * B + d % B) * C ≤ 4096 := Nat.le_trans (Nat.le_add_right _ _) k2
  have k4 : c % B * B + d % B ≤ 4096 := Nat.le_trans (Nat.le_mul_of_pos_right _ hC) k5
  have k3 : c % B * B ≤ 4096 := Nat.le_trans (Nat.le_add_right _ _) k4
  have c1 : c / B ≤ 4096 := Nat.le_trans (Nat.div_le_self _ _) (Nat.le_trans (Nat.le_of_lt h3) (Int.ofNat_le.1 g1.2))
  have c2 : d / B ≤ 4096 := Nat.le_trans (Nat.div_le_self _ _) (Nat.le_trans (Nat.le_of_lt h4) (Int.ofNat_le.1 g2.2))
  have hxe : yOf B C [(a : Int), (b : Int), (c : Int), (d : Int)] = [(a : Int), (((c % B * B + d % B) * C + b : Nat) : Int), ((c / B : Nat) : Int), ((d / B : Nat) : Int)] := rfl
  have e : moves_move_depth_1 fu [(a : Int), (b : Int), (c : Int), (d : Int)] ⟨63, s, l, x, ax⟩ s.fBlock (dS A C H W B) (strdW x.fDims) = (at? x.fDims 1).bind fun x6 => chk (x6 ≠ 0) <| chk (s.fBlock ≠ 0) <| if s.fMode = 7 then none else (moves_dot fu ([(a : Int), wk .i64 ((wk .i64 ((wk .i64 ((wk .i64 ((Int.tmod (c : Int) s.fBlock) * s.fBlock)) + (Int.tmod (d : Int) s.fBlock))) * (C : Int))) + (b : Int)), wk .i64 (Int.tdiv (c : Int) s.fBlock), wk .i64 (Int.tdiv (d : Int) s.fBlock)]) (strdW x.fDims)).bind fun x13 => some x13 := rfl
  rw [e, hd, hb]
  show (some ((C * B * B : Nat) : Int)).bind _ = _
  have hpr := hge.2.2
  have p1 := hp' ((C * B * B : Nat) : Int) (by simp [dD])
  rw [strdW_pos hp' (by omega), ob_some, chk_pos (by omega), chk_pos (by omega), if_neg hm, tmod_nat, tmod_nat, ← Int.natCast_mul, wkc4 k3, ← Int.natCast_add, wkc4 k4, ← Int.natCast_mul, wkc4 k5, ← Int.natCast_add, wkc4 k2, tdiv_nat, wkc4 c1, tdiv_nat, wkc4 c2, ← hxe]
  obtain ⟨r1, r2⟩ := offV_lt (fun y hy => by have := hp' y hy; omega) q1 q2
  rw [dot_spec (by rw [strV_length]; exact q1) (by rw [hxe]; intro y hy; simp only [List.mem_cons, List.not_mem_nil, or_false] at hy; rcases hy with rfl | rfl | rfl | rfl <;> exact Int.natCast_nonneg _) (strV_nonneg hp') (by rw [dot_strV]; omega) (by rw [strV_length]; simp [dD]) hf, ob_some, dot_strV]
theorem one_64 {N : Nat} (hs : Small x) (hft : Fuel fu x) (hc : checkV x = 0) (hb : s.fBlock = (B : Int)) (hd : x.fDims = dS A C H W B) (hge : Good (dD A C H W B)) (hN : prod (dS A C H W B) = (N : Int)) (hf : 5000 < fu) :
    moves_move_one fu ⟨64, s, l, x, ax⟩ (dD A C H W B) [] = some (pT (dD A C H W B) N (fX A C H W B) x) := by
  obtain ⟨hk, hg, hL⟩ := checkV_zero.1 hc
  have h : moves_move_one fu ⟨64, s, l, x, ax⟩ (dD A C H W B) [] = ((moves_strides fu x.fDims).bind fun x5 => (moves_picked fu x (dD A C H W B) (fun y0 => moves_move_depth_1 fu y0 ⟨64, s, l, x, ax⟩ s.fBlock (dD A C H W B) x5)).bind fun x6 => some x6).bind fun x5 => some x5 := rfl
  rw [h, strides_m hg (by omega), ob_some, picked_spec (N := N) (f := fX A C H W B) hs hft hge (by rw [prod_SD]; exact hN) hf ?_, ob_some, ob_some]
  · rfl
  · intro k hk
    rw [hd] at hg
    have hk' : (k : Int) < prod (dS A C H W B) := by omega
    have hp := pos_dS hg hk'
    obtain ⟨hp', _⟩ := pos_dD hp
    exact clo_64 hb hd hg hp (idxV_length _ _) (okIx_idx hp' (by omega) (by rw [prod_SD]; exact hk')) hge (by omega)
theorem one_63 {N : Nat} (hs : Small x) (hft : Fuel fu x) (hc : checkV x = 0) (hb : s.fBlock = (B : Int)) (hm : s.fMode ≠ 7) (hd : x.fDims = dD A C H W B) (hge : Good (dS A C H W B)) (hN : prod (dS A C H W B) = (N : Int)) (hf : 5000 < fu) :
    moves_move_one fu ⟨63, s, l, x, ax⟩ (dS A C H W B) [] = some (pT (dS A C H W B) N (gY A C H W B) x) := by
  obtain ⟨hk, hg, hL⟩ := checkV_zero.1 hc
  have h : moves_move_one fu ⟨63, s, l, x, ax⟩ (dS A C H W B) [] = ((moves_strides fu x.fDims).bind fun x5 => (moves_picked fu x (dS A C H W B) (fun y0 => moves_move_depth_1 fu y0 ⟨63, s, l, x, ax⟩ s.fBlock (dS A C H W B) x5)).bind fun x6 => some x6).bind fun x5 => some x5 := rfl
  rw [h, strides_m hg (by omega), ob_some, picked_spec (N := N) (f := gY A C H W B) hs hft hge hN hf ?_, ob_some, ob_some]
  · rfl
  · intro k hk
    rw [hd] at hg
    have hk' : (k : Int) < prod (dS A C H W B) := by omega
    have hp := pos_dS hge hk'
    exact clo_63 hb hm hd hge hp (idxV_length _ _) (okIx_idx hp (by omega) hk') hg (by omega)
theorem Do_64 {t : T_Tensor} {N : Nat} (ht : Ten t) (hft : Fuel fu t) (h0 : t.fType ≠ 0) (hc : checkV t = 0) (hb : s.fBlock = (B : Int)) (hB : 1 ≤ B) (hB2 : B ≤ 4096) (hd : t.fDims = dS A C H W B) (hge : Good (dD A C H W B)) (hN : prod (dS A C H W B) = (N : Int)) (hf : 6000 < fu) :
    moves_Do fu 64 s [t] 1 = some ([pT (dD A C H W B) N (fX A C H W B) (canonT t)], 0) := by
  obtain ⟨f, rfl⟩ : ∃ f, fu = f + 2 := ⟨fu - 2, by omega⟩
  obtain ⟨hk, hg, hL⟩ := checkV_zero.1 hc
  have hT : Tens (f + 2) [t] := ⟨by simp, by simp only [List.length_singleton]; omega, fun x hx => by simp at hx; subst hx; exact ⟨ht, hft⟩⟩
  have e : moves_Do (f + 2) 64 s [t] 1 = moves_Do.W2 (f + 2) s [t] 1 [] 0 := rfl
  rw [e]; unfold moves_Do.W2
  have hbd : badV [t] = none := by unfold badV; rw [if_pos (.inr hc)]; rfl
  rw [head_loop hT (L := moves_Do.L2 (f + 2) s [t] 1) (k1 := moves_Do.k3 (f + 2) s [t] 1) (er := fun e => some ([], e)) (fun nx acc i => rfl), hbd]
  show moves_Do.k3 (f + 2) s [t] 1 [canonT t] = _
  have hv : valOf t = ⟨t.fType, t.fDims, true, t⟩ := if_neg h0
  unfold moves_Do.k3
  rw [Vals_all hT, ob_some]
  show (infer_Node (f + 2) 64 s [valOf t] 1).bind _ = _
  have hvt : (valOf t).fType = t.fType := by rw [hv]
  have hvd : (valOf t).fDims = t.fDims := by rw [hv]
  have gC := (hg.2.1 (C : Int) (by rw [hd]; simp [dS])).2
  have gH := (hge.2.1 (H : Int) (by simp [dD])).2
  have gW := (hge.2.1 (W : Int) (by simp [dD])).2
  rw [Node_64 (by rw [hvt]; exact h0) (by rw [hvt]; exact hk) (by rw [hvd]; exact hg) (counted_64 (A := A) (C := C) (H := H) (W := W) hb hB hB2 (by rw [hvd, hd]; rfl) (by omega) (by omega) (by omega)) (by omega), if_pos (by omega), if_pos rfl]
  show (infer_Node.W2 (f + 2) s [valOf t] 1 ([dD A C H W B], 0) [] 0).bind _ = _
  rw [out_64 (by simp [dD]) (by omega), if_pos hge, ob_some, if_pos rfl, hvt]
  show (some (canonT t)).bind _ = _
  rw [ob_some]
  have hax : ∃ r, shape_Axis (f + 2) s.fAxis ((canonT t).fDims.length : Int) = some r := ⟨_, Axis_spec (by show t.fDims.length ≤ 100; have := hg.1; omega)⟩
  obtain ⟨r, hr⟩ := hax
  rw [hr, ob_some]
  unfold jn moves_Do.k4
  show (some (outV t.fType (dD A C H W B))).bind _ = _
  rw [ob_some]
  show (moves_move_one (f + 2) ⟨64, s, [canonT t], canonT t, r.1⟩ (dD A C H W B) []).bind _ = _
  rw [one_64 (canonT_small ht) (canonT_fuel hft) (by rw [canonT_check]; exact hc) hb hd hge hN (by omega)]
  rfl
theorem Do_63 {t : T_Tensor} {N : Nat} (ht : Ten t) (hft : Fuel fu t) (h0 : t.fType ≠ 0) (hc : checkV t = 0) (hb : s.fBlock = (B : Int)) (hm : s.fMode ≠ 7) (hB : 1 ≤ B) (hB2 : B ≤ 4096) (hC : C ≤ 4096) (hd : t.fDims = dD A C H W B) (hge : Good (dS A C H W B)) (hN : prod (dS A C H W B) = (N : Int)) (hf : 6000 < fu) :
    moves_Do fu 63 s [t] 1 = some ([pT (dS A C H W B) N (gY A C H W B) (canonT t)], 0) := by
  obtain ⟨f, rfl⟩ : ∃ f, fu = f + 2 := ⟨fu - 2, by omega⟩
  obtain ⟨hk, hg, hL⟩ := checkV_zero.1 hc
  have hT : Tens (f + 2) [t] := ⟨by simp, by simp only [List.length_singleton]; omega, fun x hx => by simp at hx; subst hx; exact ⟨ht, hft⟩⟩
  have e : moves_Do (f + 2) 63 s [t] 1 = moves_Do.W1 (f + 2) s [t] 1 [] 0 := rfl
  rw [e]; unfold moves_Do.W1
  have hbd : badV [t] = none := by unfold badV; rw [if_pos (.inr hc)]; rfl
  rw [head_loop hT (L := moves_Do.L1 (f + 2) s [t] 1) (k1 := moves_Do.k1 (f + 2) s [t] 1) (er := fun e => some ([], e)) (fun nx acc i => rfl), hbd]
  show moves_Do.k1 (f + 2) s [t] 1 [canonT t] = _
  have hv : valOf t = ⟨t.fType, t.fDims, true, t⟩ := if_neg h0
  unfold moves_Do.k1
  rw [Vals_all hT, ob_some]
  show (infer_Node (f + 2) 63 s [valOf t] 1).bind _ = _
  have hvt : (valOf t).fType = t.fType := by rw [hv]
  have hvd : (valOf t).fDims = t.fDims := by rw [hv]
  have gH := (hg.2.1 (H : Int) (by rw [hd]; simp [dD])).2
  have gW := (hg.2.1 (W : Int) (by rw [hd]; simp [dD])).2
  rw [Node_63 (by rw [hvt]; exact h0) (by rw [hvt]; exact hk) (by rw [hvd]; exact hg) (counted_63 (A := A) (C := C) (H := H) (W := W) hb hB hB2 (by rw [hvd, hd]; rfl) (by omega) (by omega) (by omega)) (by omega), if_pos (by omega), if_pos rfl]
  show (infer_Node.W1 (f + 2) s [valOf t] 1 ([dS A C H W B], 0) [] 0).bind _ = _
  rw [out_63 (by simp [dS]) (by omega), if_pos hge, ob_some, if_pos rfl, hvt]
  show (some (canonT t)).bind _ = _
  rw [ob_some]
  have hax : ∃ r, shape_Axis (f + 2) s.fAxis ((canonT t).fDims.length : Int) = some r := ⟨_, Axis_spec (by show t.fDims.length ≤ 100; have := hg.1; omega)⟩
  obtain ⟨r, hr⟩ := hax
  rw [hr, ob_some]
  unfold jn moves_Do.k2
  show (some (outV t.fType (dS A C H W B))).bind _ = _
  rw [ob_some]
  show (moves_move_one (f + 2) ⟨63, s, [canonT t], canonT t, r.1⟩ (dS A C H W B) []).bind _ = _
  rw [one_63 (canonT_small ht) (canonT_fuel hft) (by rw [canonT_check]; exact hc) hb hm hd hge hN (by omega)]
  rfl
theorem Node_block_64 {v : T_Val} (h0 : v.fType ≠ 0) (hk : Known v.fType) (hg : Good v.fDims) (hb : ¬ (1 ≤ s.fBlock ∧ s.fBlock ≤ 4096)) (hf : 100 < fu) : infer_Node (fu + 2) 64 s [v] 1 = some ([], 14) := by
  have h : infer_Node (fu + 2) 64 s [v] 1 = (infer_ask_complete (fu + 2) ⟨64, s, [v], 1⟩).bind fun x5 => if x5 = true then ((infer_ask_wrong (fu + 2) ⟨64, s, [v], 1⟩).bind fun x6 => if x6 = 0 then
    ((((infer_ask_counted (fu + 2) ⟨64, s, [v], 1⟩).bind fun x3 => some (x3.1, x3.2)).bind fun x3 => some (x3.1, x3.2)).bind fun x7 => if x7.2 = 0 then (infer_Node.W2 (fu + 2) s [v] 1 x7 ([] : List T_Val) 0) else some ([], x7.2)) else some ([], x6)) else some ([], 1) := rfl
  rw [h, complete_64, ob_some, if_pos (by simp [h0]), wrong_64 h0 hk hg (by omega), ob_some, if_neg hb, if_neg (by decide)]
theorem Do_64_bad {t : T_Tensor} (ht : Ten t) (hft : Fuel fu t) (hn : ¬ (t.fType ≠ 0 ∧ checkV t = 0 ∧ ∃ A C H W B : Nat, s.fBlock = (B : Int) ∧ 1 ≤ B ∧ B ≤ 4096 ∧ t.fDims = dS A C H W B ∧ Good (dD A C H W B))) (hf : 6000 < fu) :
    ∃ e, e ≠ 0 ∧ moves_Do fu 64 s [t] 1 = some ([], e) := by
  obtain ⟨f, rfl⟩ : ∃ f, fu = f + 2 := ⟨fu - 2, by omega⟩
  have hT : Tens (f + 2) [t] := ⟨by simp, by simp only [List.length_singleton]; omega, fun x hx => by simp at hx; subst hx; exact ⟨ht, hft⟩⟩
  have e : moves_Do (f + 2) 64 s [t] 1 = moves_Do.W2 (f + 2) s [t] 1 [] 0 := rfl
  rw [e]; unfold moves_Do.W2
  rw [head_loop hT (L := moves_Do.L2 (f + 2) s [t] 1) (k1 := moves_Do.k3 (f + 2) s [t] 1) (er := fun e => some ([], e)) (fun nx acc i => rfl)]
  cases hb : badV [t] with
  | some e => exact ⟨e, badV_some hb, rfl⟩
  | none =>
    show ∃ e, e ≠ 0 ∧ moves_Do.k3 (f + 2) s [t] 1 [canonT t] = _
    unfold moves_Do.k3
    rw [Vals_all hT, ob_some]
    by_cases h0 : t.fType = 0
    · have hv : (valOf t).fType = 0 := by unfold valOf; rw [if_pos h0]; rfl
      refine ⟨1, by decide, ?_⟩
      show (infer_Node (f + 2) 64 s [valOf t] 1).bind _ = _
      rw [Node_none_64 hv, ob_some, if_neg (by decide)]
    · have hc := (badV_none hb t (by simp)).resolve_left h0
      obtain ⟨hk, hg, hL⟩ := checkV_zero.1 hc
      have hv : valOf t = ⟨t.fType, t.fDims, true, t⟩ := if_neg h0
      have hvt : (valOf t).fType = t.fType := by rw [hv]
      have hvd : (valOf t).fDims = t.fDims := by rw [hv]
      show ∃ e, e ≠ 0 ∧ (infer_Node (f + 2) 64 s [valOf t] 1).bind _ = _
      have q0 : (valOf t).fType ≠ 0 := by rw [hvt]; exact h0
      have qk : Known (valOf t).fType := by rw [hvt]; exact hk
      have qg : Good (valOf t).fDims := by rw [hvd]; exact hg
      by_cases hr : 1 ≤ s.fBlock ∧ s.fBlock ≤ 4096
      · by_cases hx : ∃ d0 d1 d2 d3 : Int, (valOf t).fDims = [d0, d1, d2, d3] ∧ Int.tmod d2 s.fBlock = 0 ∧ Int.tmod d3 s.fBlock = 0
        · obtain ⟨d0, d1, d2, d3, hdd, m2, m3⟩ := hx
          have r0 := qg.2.1 d0 (by rw [hdd]; simp)
          have r1 := qg.2.1 d1 (by rw [hdd]; simp)
          have r2 := qg.2.1 d2 (by rw [hdd]; simp)
          have r3 := qg.2.1 d3 (by rw [hdd]; simp)
          obtain ⟨A, rfl⟩ := Int.eq_ofNat_of_zero_le r0.1
          obtain ⟨C, rfl⟩ := Int.eq_ofNat_of_zero_le r1.1
          obtain ⟨E, rfl⟩ := Int.eq_ofNat_of_zero_le r2.1
          obtain ⟨G, rfl⟩ := Int.eq_ofNat_of_zero_le r3.1
          obtain ⟨B, hB⟩ := Int.eq_ofNat_of_zero_le (show 0 ≤ s.fBlock by omega)
          rw [hB, tmod_nat] at m2 m3
          have n2 : E % B = 0 := by omega
          have n3 : G % B = 0 := by omega
          have e2 : E = E / B * B := by rw [Nat.mul_comm]; have := Nat.div_add_mod E B; omega
          have e3 : G = G / B * B := by rw [Nat.mul_comm]; have := Nat.div_add_mod G B; omega
          have l2 : E / B ≤ E := Nat.div_le_self _ _
          have l3 : G / B ≤ G := Nat.div_le_self _ _
          have hds : (valOf t).fDims = dS A C (E / B) (G / B) B := by rw [hdd]; unfold dS; rw [← e2, ← e3]
          rw [Node_64 q0 qk qg (counted_64 (A := A) (C := C) (H := E / B) (W := G / B) hB (by omega) (by omega) (by rw [hds]; rfl) (by omega) (by omega) (by omega)) (by omega), if_pos hr, if_pos rfl]
          show ∃ e, e ≠ 0 ∧ (infer_Node.W2 (f + 2) s [valOf t] 1 ([dD A C (E / B) (G / B) B], 0) [] 0).bind _ = _
          rw [out_64 (by simp [dD]) (by omega), if_neg (fun hge => hn ⟨h0, hc, A, C, E / B, G / B, B, hB, by omega, by omega, by rw [← hvd, hds], hge⟩)]
          exact ⟨4, by decide, rfl⟩
        · rw [Node_64 q0 qk qg (counted_bad (by omega) hx) (by omega), if_pos hr, if_neg (by decide)]
          exact ⟨3, by decide, rfl⟩
      · rw [Node_block_64 q0 qk qg hr (by omega)]
        exact ⟨14, by decide, rfl⟩
end
end Go.Av
