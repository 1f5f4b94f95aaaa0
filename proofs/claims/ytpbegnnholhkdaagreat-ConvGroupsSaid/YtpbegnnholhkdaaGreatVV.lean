/- Layer 4, shapes: what the plain functions come to. Strides, indices, offsets. Copies. Layer 5: sameness, whether a tensor may be, copies whose no numbers are one. Lists of numbers alike. Floats: a product and a sum always come to something. Any tensors: as constant values; whether each may be. Windows of any numbers: how many there are, told as a function. What infer tells of Conv, for any values. What infer tells of a convolution of any values. What infer's Node tells of a convolution. A convolution's sum, for any windows. A convolution's sum is that of the pairs in order. Loops up to a bound; places told by two numbers. Sameness of two tensors. A convolution of any tensors, element by element; its two ways alike. ConvColumns: the law over the plain functions. What conv.Do comes to. The document's sizes, indices and offsets. The document's new, checked and picked tensors. One of two halves of a tensor along its second dim. Of two groups, each is a convolution by itself: the terms are the same. Conditions: those that each names. -/
import Derived.Test.YtpbegnnholhkdaaGreatQS
import Derived.Test.YtpbegnnholhkdaaGreatPl
set_option linter.unusedVariables false
namespace Go.Av

/-- where the first stands that fits; -1 -/
def fstAt (p : Int → Bool) : Nat → List Int → Int
  | _, [] => -1
  | i, x :: l => if p x = true then i else fstAt p (i + 1) l
theorem fstAt_any (p : Int → Bool) : ∀ (l : List Int) (i : Nat), decide (0 ≤ fstAt p i l) = l.any p
  | [], i => rfl
  | x :: l, i => by
    simp only [fstAt, List.any_cons]
    by_cases h : p x = true
    · simp [h]
    · simp [h, ← fstAt_any p l (i + 1)]
def Short (l : List Int) : Prop := l.length ≤ 140737488355328

/-- one round: a counter goes on -/
theorem wk_succ {k : Nat} (h : k ≤ 140737488355328) : wk .i64 ((k : Int) + 1) = ((k + 1 : Nat) : Int) := by rw [wk_eq (by omega) (by omega)]; omega

theorem IndexFunc_spec {fu : Nat} {l : List Int} {p : Int → Option Bool} {q : Int → Bool} (hp : ∀ x, p x = some (q x)) (hl : Short l) (hf : l.length < fu) : slices_IndexFunc_int fu l p = some (fstAt q 0 l) := by
  unfold slices_IndexFunc_int slices_IndexFunc_int.W1
  refine cloop_ind (fun (i : Int) => some (fstAt q i.toNat (l.drop i.toNat))) (fun i => 0 ≤ i ∧ i ≤ l.length) (fun i => l.length - i.toNat) ?_ fu 0 (by omega) (by simp; omega)
  rintro i ⟨h0, h1⟩ next hn
  obtain ⟨k, rfl⟩ := Int.eq_ofNat_of_zero_le h0
  unfold slices_IndexFunc_int.L1
  simp only [Int.toNat_natCast]
  by_cases hk : k < l.length
  · rw [if_pos (by omega), at?_get hk, ob_some, hp, ob_some, List.drop_eq_getElem_cons hk]
    simp only [fstAt]
    by_cases hq : q l[k] = true
    · rw [if_pos hq, if_pos hq]
    · rw [if_neg hq, if_neg hq, wk_succ (by unfold Short at hl; omega), hn _ (by omega) (by simp; omega)]
      simp
  · rw [if_neg (by omega), List.drop_of_length_le (by omega)]; rfl
theorem ContainsFunc_spec {fu : Nat} {l : List Int} {p : Int → Option Bool} {q : Int → Bool} (hp : ∀ x, p x = some (q x)) (hl : Short l) (hf : l.length < fu) : slices_ContainsFunc_int fu l p = some (l.any q) := by
  unfold slices_ContainsFunc_int
  rw [IndexFunc_spec hp hl hf, ob_some, fstAt_any]
theorem IndexI_spec {fu : Nat} {l : List Int} {x : Int} (hl : Short l) (hf : l.length < fu) : slices_Index_int fu l x = some (fstAt (fun y => decide (x = y)) 0 l) := by
  unfold slices_Index_int slices_Index_int.W1
  refine cloop_ind (fun (i : Int) => some (fstAt (fun y => decide (x = y)) i.toNat (l.drop i.toNat))) (fun i => 0 ≤ i ∧ i ≤ l.length) (fun i => l.length - i.toNat) ?_ fu 0 (by omega) (by simp; omega)
  rintro i ⟨h0, h1⟩ next hn
  obtain ⟨k, rfl⟩ := Int.eq_ofNat_of_zero_le h0
  unfold slices_Index_int.L1
  simp only [Int.toNat_natCast]
  by_cases hk : k < l.length
  · rw [if_pos (by omega), at?_get hk, ob_some, List.drop_eq_getElem_cons hk]
    simp only [fstAt]
    by_cases hq : x = l[k]
    · rw [if_pos hq, if_pos (by simpa using hq)]
    · rw [if_neg hq, if_neg (by simpa using hq), wk_succ (by unfold Short at hl; omega), hn _ (by omega) (by simp; omega)]
      simp
  · rw [if_neg (by omega), List.drop_of_length_le (by omega)]; rfl
theorem Contains_spec {fu : Nat} {l : List Int} {x : Int} (hl : Short l) (hf : l.length < fu) : slices_Contains_int fu l x = some (l.any fun y => decide (x = y)) := by
  unfold slices_Contains_int
  rw [IndexI_spec hl hf, ob_some, fstAt_any]

/-- the product -/
def prod : List Int → Int
  | [] => 1
  | x :: l => x * prod l
def Rng (l : List Int) : Prop := ∀ x ∈ l, 0 ≤ x ∧ x ≤ 4096
/-- dims that may be -/
def Good (l : List Int) : Prop := l.length ≤ 8 ∧ Rng l ∧ prod l ≤ 4096
instance (l : List Int) : Decidable (Rng l) := by unfold Rng; infer_instance
instance (l : List Int) : Decidable (Good l) := by unfold Good; infer_instance
def errS (l : List Int) : Int := if l.any (fun x => decide (x < 0)) = true then 1 else 4
def sizeV (l : List Int) : Int × Int := if Good l then (prod l, 0) else (0, errS l)
theorem errS_ne (l : List Int) : errS l ≠ 0 := by unfold errS; split <;> decide
theorem prod_nonneg : ∀ {l : List Int}, Rng l → 0 ≤ prod l
  | [], _ => by decide
  | x :: l, h => Int.mul_nonneg (h x (by simp)).1 (prod_nonneg fun y hy => h y (by simp [hy]))
theorem prod_pos : ∀ {l : List Int}, (∀ x ∈ l, 1 ≤ x) → 1 ≤ prod l
  | [], _ => by decide
  | x :: l, h => by
    have h1 := h x (by simp)
    have h2 := prod_pos (l := l) fun y hy => h y (by simp [hy])
    have := Int.mul_le_mul h1 h2 (by decide) (by omega)
    simpa [prod] using this
theorem prod_zero : ∀ {l : List Int}, 0 ∈ l → prod l = 0
  | x :: l, h => by
    rcases List.mem_cons.1 h with rfl | h
    · simp [prod]
    · simp [prod, prod_zero h]
theorem prod_zero_mem : ∀ {l : List Int}, prod l = 0 → 0 ∈ l
  | [], h => by simp [prod] at h
  | x :: l, h => by
    rcases Int.mul_eq_zero.1 h with rfl | h
    · simp
    · simp [prod_zero_mem h]
theorem div_lt_iff {m d : Int} (hm : 1 ≤ m) (hd : 0 ≤ d) : (Int.tdiv 4096 m < d) ↔ 4096 < m * d := by
  rw [Int.tdiv_eq_ediv_of_nonneg (by decide)]
  constructor
  · intro h
    have := Int.lt_mul_of_ediv_lt (by omega : 0 < m) h
    rwa [Int.mul_comm] at this
  · intro h
    exact Int.ediv_lt_of_lt_mul (by omega) (by rwa [Int.mul_comm])
theorem SizeW_spec {fu : Nat} {l : List Int} (hp : ∀ x ∈ l, 1 ≤ x ∧ x ≤ 4096) (hl : l.length ≤ 8) (hf : l.length < fu) : shape_Size.W1 fu l 1 0 = some (if prod l ≤ 4096 then (prod l, 0) else (0, 4)) := by
  unfold shape_Size.W1
  refine (cloop_ind (fun (s : Int × Int) => some (if s.1 * prod (l.drop s.2.toNat) ≤ 4096 then (s.1 * prod (l.drop s.2.toNat), 0) else (0, 4))) (fun s => 0 ≤ s.2 ∧ s.2 ≤ l.length ∧ 1 ≤ s.1 ∧ s.1 ≤ 4096) (fun s => l.length - s.2.toNat) ?_ fu (1, 0) (by simp) (by simp; omega)).trans (by simp)
  rintro ⟨m, i⟩ ⟨h0, h1, h2, h3⟩ next hn
  simp only at h0 h1 h2 h3 hn ⊢
  obtain ⟨k, rfl⟩ := Int.eq_ofNat_of_zero_le h0
  unfold shape_Size.L1
  simp only [Int.toNat_natCast]
  by_cases hk : k < l.length
  · obtain ⟨q1, q2⟩ := hp _ (List.getElem_mem hk)
    have t0 : 0 ≤ Int.tdiv 4096 m ∧ Int.tdiv 4096 m ≤ 4096 := by
      rw [Int.tdiv_eq_ediv_of_nonneg (by decide)]
      exact ⟨Int.ediv_nonneg (by decide) (by omega), Int.ediv_le_self _ (by decide)⟩
    rw [if_pos (by omega), at?_get hk, ob_some, chk_pos (by omega), wk_eq (by omega) (by omega), List.drop_eq_getElem_cons hk]
    have hpos : 1 ≤ prod (l.drop (k + 1)) := prod_pos fun x hx => (hp x (List.mem_of_mem_drop hx)).1
    have hge : 1 ≤ m * l[k] := by have := Int.mul_le_mul h2 q1 (by decide) (by omega); simpa using this
    simp only [prod, ← Int.mul_assoc]
    by_cases hd : Int.tdiv 4096 m < l[k]
    · rw [if_pos hd]
      rw [div_lt_iff h2 (by omega)] at hd
      have : m * l[k] * 1 ≤ m * l[k] * prod (l.drop (k + 1)) := Int.mul_le_mul_of_nonneg_left hpos (by omega)
      rw [if_neg (by omega)]
    · rw [if_neg hd]
      rw [div_lt_iff h2 (by omega)] at hd
      rw [wk_eq (by omega) (by omega), wk_succ (by omega), hn (m * l[k], ((k + 1 : Nat) : Int)) ⟨by simp only []; omega, by simp only []; omega, hge, by simp only []; omega⟩ (by simp; omega)]
      simp
  · rw [if_neg (by omega), List.drop_of_length_le (by omega)]
    simp only [prod, Int.mul_one]
    rw [if_pos h3]
theorem Size_spec {fu : Nat} {l : List Int} (hl : Short l) (hf : l.length < fu) : shape_Size fu l = some (sizeV l) := by
  unfold shape_Size; try unfold jn
  rw [ContainsFunc_spec (p := fun y0 => shape_Size_1 fu y0) (q := fun x => decide (x < 0)) (fun x => rfl) hl hf, ob_some]
  by_cases h1 : l.any (fun x => decide (x < 0)) = true
  · rw [if_pos h1]
    have hg : ¬ Good l := fun hg => by
      obtain ⟨x, hx, hx2⟩ := List.any_eq_true.1 h1
      have := (hg.2.1 x hx).1
      simp at hx2; omega
    simp only [sizeV, if_neg hg, errS, if_pos h1]
  rw [if_neg h1]
  have he : errS l = 4 := by simp only [errS, if_neg h1]
  by_cases h2 : 8 < (l.length : Int)
  · rw [if_pos h2]
    have hg : ¬ Good l := fun hg => by have := hg.1; omega
    simp only [sizeV, if_neg hg, he]
  rw [if_neg h2, ContainsFunc_spec (p := fun y0 => shape_Size_2 fu y0) (q := fun x => decide (4096 < x)) (fun x => rfl) hl hf, ob_some]
  by_cases h3 : l.any (fun x => decide (4096 < x)) = true
  · rw [if_pos h3]
    have hg : ¬ Good l := fun hg => by
      obtain ⟨x, hx, hx2⟩ := List.any_eq_true.1 h3
      have := (hg.2.1 x hx).2
      simp at hx2; omega
    simp only [sizeV, if_neg hg, he]
  rw [if_neg h3]
  have hr : Rng l := fun x hx => by
    simp only [List.any_eq_true, decide_eq_true_eq, not_exists, not_and] at h1 h3
    have := h1 x hx; have := h3 x hx; omega
  unfold shape_Size.k1
  rw [Contains_spec hl hf, ob_some]
  by_cases h4 : (l.any fun y => decide ((0 : Int) = y)) = true
  · rw [if_pos h4]
    have hz : (0 : Int) ∈ l := by
      obtain ⟨x, hx, hx2⟩ := List.any_eq_true.1 h4
      simp at hx2; subst hx2; exact hx
    have hg : Good l := ⟨by omega, hr, by rw [prod_zero hz]; decide⟩
    simp only [sizeV, if_pos hg, prod_zero hz]
  rw [if_neg h4]
  have hp : ∀ x ∈ l, 1 ≤ x ∧ x ≤ 4096 := fun x hx => by
    have := hr x hx
    simp only [List.any_eq_true, decide_eq_true_eq, not_exists, not_and] at h4
    have := h4 x hx; omega
  rw [SizeW_spec hp (by omega) hf]
  by_cases h5 : prod l ≤ 4096
  · have hg : Good l := ⟨by omega, hr, h5⟩
    simp only [sizeV, if_pos hg, if_pos h5]
  · have hg : ¬ Good l := fun hg => h5 hg.2.2
    simp only [sizeV, if_neg hg, if_neg h5, he]
end Go.Av
set_option linter.unusedVariables false
namespace Go.Av
def strdW : List Int → List Int
  | [] => []
  | _ :: l => wk .i64 (prod l) :: strdW l
theorem strdW_length : ∀ l, (strdW l).length = l.length
  | [] => rfl
  | _ :: l => by simp [strdW, strdW_length l]
theorem strdW_get : ∀ {l : List Int} {i : Nat} (h : i < l.length), (strdW l)[i]? = some (wk .i64 (prod (l.drop (i + 1))))
  | _ :: l, 0, _ => by simp [strdW]
  | _ :: l, i + 1, h => by
    have := strdW_get (l := l) (i := i) (by simpa using h)
    simpa [strdW] using this
theorem rep_set (i : Nat) (x : Int) (s : List Int) : (List.replicate (i + 1) 0 ++ s).set i x = List.replicate i 0 ++ x :: s := by
  rw [List.replicate_succ', List.append_assoc, List.set_append_right _ _ (by simp)]
  simp
theorem strides_spec {fu : Nat} {l : List Int} (hl : l.length * 8 ≤ 140737488355328) (hf : l.length < fu) : shape_strides fu l = some (strdW l) := by
  unfold shape_strides shape_strides.W1
  rw [chk_pos (by omega)]
  have hw : wk .i64 ((l.length : Int) - 1) = ((l.length : Int) - 1) := wk_eq (by omega) (by omega)
  rw [hw, Int.toNat_natCast]
  refine (cloop_ind (fun _ => some (strdW l)) (fun (s : List Int × Int × Int) => ∃ k : Nat, k ≤ l.length ∧ s = (List.replicate k 0 ++ strdW (l.drop k), wk .i64 (prod (l.drop k)), (k : Int) - 1)) (fun s => (s.2.2 + 1).toNat) ?_ fu _ ⟨l.length, Nat.le_refl _, by simp [strdW, prod]; decide⟩ (by simp; omega))
  rintro _ ⟨k, hk, rfl⟩ next hn
  unfold shape_strides.L1
  simp only
  match k, hk with
  | 0, _ => rw [if_neg (by decide)]; simp
  | k + 1, hk =>
    have e1 : (((k + 1 : Nat) : Int) - 1) = (k : Int) := by omega
    have hlen : (List.replicate (k + 1) (0 : Int) ++ strdW (l.drop (k + 1))).length = l.length := by simp [strdW_length]; omega
    rw [e1, if_pos (by omega), hlen, chk_pos (by omega), at?_get (by omega), ob_some, Int.toNat_natCast, rep_set, wk_mul_l, wk_eq (x := (k : Int) - 1) (by omega) (by omega)]
    refine hn _ ⟨k, by omega, ?_⟩ (by simp)
    rw [List.drop_eq_getElem_cons (by omega : k < l.length)]
    simp only [strdW, prod]
    rw [Int.mul_comm]

/-- all strides and indices of dims without noughts are small -/
theorem prod_drop_le {l : List Int} (hp : ∀ x ∈ l, 1 ≤ x) : ∀ k, 1 ≤ prod (l.drop k) ∧ prod (l.drop k) ≤ prod l := by
  induction l with
  | nil => intro k; simp [prod]
  | cons x l ih =>
    intro k
    have hx := hp x (by simp)
    have ih' := ih fun y hy => hp y (by simp [hy])
    cases k with
    | zero => exact ⟨by simpa using prod_pos hp, by simp⟩
    | succ k =>
      obtain ⟨h1, h2⟩ := ih' k
      have h3 := prod_pos (l := l) fun y hy => hp y (by simp [hy])
      refine ⟨by simpa using h1, ?_⟩
      simp only [List.drop_succ_cons, prod]
      have : 1 * prod l ≤ x * prod l := Int.mul_le_mul_of_nonneg_right hx (by omega)
      omega
theorem pos_of_good {l : List Int} (hg : Good l) (h0 : prod l ≠ 0) : ∀ x ∈ l, 1 ≤ x := fun x hx => by
  have := (hg.2.1 x hx).1
  by_cases h : x = 0
  · subst h; exact absurd (prod_zero hx) h0
  · omega
theorem good_short {l : List Int} (hg : Good l) : l.length * 8 ≤ 140737488355328 := by have := hg.1; omega

def idxV : List Int → Int → List Int
  | [], _ => []
  | _ :: l, a => a / prod l :: idxV l (a % prod l)
theorem idxV_length : ∀ l a, (idxV l a).length = l.length
  | [], _ => rfl
  | _ :: l, a => by simp [idxV, idxV_length l]
theorem IndexW_spec {fu : Nat} {l : List Int} {a : Int} (hg : Good l) (hn0 : 1 ≤ prod l) (ha : 0 ≤ a) (ha2 : a ≤ 4096) (hf : l.length < fu) : shape_Index.W1 fu (strdW l) (List.replicate l.length 0) a 0 = some (idxV l a, 0) := by
  have hp := pos_of_good hg (by omega)
  have hd := prod_drop_le hp
  have hP := hg.2.2
  have hL := hg.1
  unfold shape_Index.W1
  refine (cloop_ind (fun s => some (s.1.take s.2.2.toNat ++ idxV (l.drop s.2.2.toNat) s.2.1, (0 : Int))) (fun (s : List Int × Int × Int) => 0 ≤ s.2.2 ∧ s.2.2 ≤ l.length ∧ s.1.length = l.length ∧ 0 ≤ s.2.1 ∧ s.2.1 ≤ 4096) (fun s => l.length - s.2.2.toNat) ?_ fu _ ⟨by simp, by simp, by simp, ha, ha2⟩ (by simp; omega)).trans (by simp)
  rintro ⟨o, b, i⟩ ⟨h0, h1, h2, h3, h4⟩ next hn
  simp only at h0 h1 h2 h3 h4 hn ⊢
  obtain ⟨k, rfl⟩ := Int.eq_ofNat_of_zero_le h0
  unfold shape_Index.L1
  simp only [Int.toNat_natCast, strdW_length]
  by_cases hk : k < l.length
  · obtain ⟨d1, d2⟩ := hd (k + 1)
    have hw : wk .i64 (prod (l.drop (k + 1))) = prod (l.drop (k + 1)) := wk_eq (by omega) (by omega)
    rw [if_pos (by omega), at?_nat, strdW_get hk, ob_some, hw]
    have q1 : Int.tdiv b (prod (l.drop (k + 1))) = b / prod (l.drop (k + 1)) := Int.tdiv_eq_ediv_of_nonneg h3
    have q2 : Int.tmod b (prod (l.drop (k + 1))) = b % prod (l.drop (k + 1)) := Int.tmod_eq_emod_of_nonneg h3
    have q3 : 0 ≤ b / prod (l.drop (k + 1)) := Int.ediv_nonneg h3 (by omega)
    have q4 : b / prod (l.drop (k + 1)) ≤ b := Int.ediv_le_self _ h3
    have q5 : 0 ≤ b % prod (l.drop (k + 1)) := Int.emod_nonneg _ (by omega)
    have q6 : b % prod (l.drop (k + 1)) < prod (l.drop (k + 1)) := Int.emod_lt_of_pos _ (by omega)
    rw [chk_pos (by omega), chk_pos (by omega), q1, q2, wk_eq (by omega) (by omega), wk_succ (by omega)]
    rw [hn (_, _, ((k + 1 : Nat) : Int)) ⟨by simp only []; omega, by simp only []; omega, by simp [h2], q5, by simp only []; omega⟩ (by simp; omega)]
    simp only [Int.toNat_natCast, Option.some.injEq, Prod.mk.injEq, and_true]
    rw [List.drop_eq_getElem_cons hk]
    simp only [idxV]
    rw [List.take_succ_eq_append_getElem (by simp; omega), List.append_assoc, List.take_set, List.set_eq_of_length_le (by simp; omega)]
    simp
  · rw [if_neg (by omega), List.drop_of_length_le (by omega), List.take_of_length_le (by omega)]
    simp [idxV]
def indexV (l : List Int) (a : Int) : List Int × Int := if Good l then (if 0 ≤ a ∧ a < prod l then (idxV l a, 0) else ([], 2)) else ([], errS l)
theorem Index_spec {fu : Nat} {l : List Int} {a : Int} (hl : Short l) (hf : l.length < fu) : shape_Index fu l a = some (indexV l a) := by
  unfold shape_Index; try unfold jn
  rw [Size_spec hl hf, ob_some]
  simp only [sizeV, indexV]
  by_cases hg : Good l
  · simp only [if_pos hg, if_true]
    by_cases h1 : a < 0
    · rw [if_pos h1, if_neg (by omega)]
    · rw [if_neg h1]
      by_cases h2 : prod l ≤ a
      · rw [if_pos h2, if_neg (by omega)]
      · rw [if_neg h2, if_pos (by omega)]
        unfold shape_Index.k1
        have := hg.1
        have := hg.2.2
        rw [chk_pos (by omega), strides_spec (good_short hg) hf, ob_some, Int.toNat_natCast, IndexW_spec hg (by omega) (by omega) (by omega) hf]
  · simp only [if_neg hg]
    rw [if_neg (errS_ne l)]
/-- do indices stand within dims? -/
def okIx : List Int → List Int → Bool
  | d :: l, x :: xs => decide (0 ≤ x) && decide (x < d) && okIx l xs
  | _, _ => true
def offV : List Int → List Int → Int
  | _ :: l, x :: xs => x * prod l + offV l xs
  | _, _ => 0
/-- from a place to its indices and back -/
theorem okIx_idx : ∀ {l : List Int} {a : Int}, (∀ x ∈ l, 1 ≤ x) → 0 ≤ a → a < prod l → okIx l (idxV l a) = true
  | [], _, _, _, _ => rfl
  | d :: l, a, hp, h0, h1 => by
    have hq : 1 ≤ prod l := prod_pos fun x hx => hp x (by simp [hx])
    have h2 : 0 ≤ a / prod l := Int.ediv_nonneg h0 (by omega)
    have h3 : a / prod l < d := Int.ediv_lt_of_lt_mul (by omega) h1
    have h4 := okIx_idx (l := l) (a := a % prod l) (fun x hx => hp x (by simp [hx])) (Int.emod_nonneg _ (by omega)) (Int.emod_lt_of_pos _ (by omega))
    simp [idxV, okIx, h2, h3, h4]
theorem offV_idx : ∀ {l : List Int} {a : Int}, (∀ x ∈ l, 1 ≤ x) → 0 ≤ a → a < prod l → offV l (idxV l a) = a
  | [], a, _, h0, h1 => by simp [prod] at h1; simp [offV]; omega
  | d :: l, a, hp, h0, h1 => by
    have hq : 1 ≤ prod l := prod_pos fun x hx => hp x (by simp [hx])
    have h4 := offV_idx (l := l) (a := a % prod l) (fun x hx => hp x (by simp [hx])) (Int.emod_nonneg _ (by omega)) (Int.emod_lt_of_pos _ (by omega))
    simp only [idxV, offV, h4]
    rw [Int.mul_comm]
    exact Int.mul_ediv_add_emod a (prod l)
end Go.Av
set_option linter.unusedVariables false
namespace Go.Av
theorem Clone_spec {fu : Nat} {l : List Int} (h : l.length * 8 ≤ 140737488355328) : slices_Clone_int fu l = some l := by
  unfold slices_Clone_int
  rw [chk_pos (by omega)]
end Go.Av
set_option linter.unusedVariables false
namespace Go.Av
def sameT (a b : T_Tensor) : Bool := decide (a.fType = b.fType) && decide (a.fDims = b.fDims) && decide (a.fF = b.fF) && decide (a.fI = b.fI) && decide (a.fB = b.fB)
def Small (t : T_Tensor) : Prop := t.fDims.length * 8 ≤ 140737488351232 ∧ t.fF.length ≤ 140737488351232 ∧ t.fI.length ≤ 140737488351232 ∧ t.fB.length ≤ 140737488351232
def Fuel (fu : Nat) (t : T_Tensor) : Prop := t.fDims.length < fu ∧ t.fF.length < fu ∧ t.fI.length < fu ∧ t.fB.length < fu
theorem sameT_self (a : T_Tensor) : sameT a a = true := by simp [sameT]
def noT : T_Tensor := ⟨0, [], [], [], []⟩
theorem known_spec {fu : Nat} {k : Int} : tens_known fu k = some (decide (k = 1 ∨ k = 7 ∨ k = 9)) := by
  unfold tens_known tens_Width
  by_cases h1 : k = 1
  · simp [h1]
  · by_cases h2 : k = 7
    · simp [h2]
    · by_cases h3 : k = 9 <;> simp [h1, h2, h3]
def Known (k : Int) : Prop := k = 1 ∨ k = 7 ∨ k = 9
instance (k : Int) : Decidable (Known k) := by unfold Known; infer_instance
def LensOK (t : T_Tensor) : Prop := (t.fF.length : Int) = (if t.fType = 1 then prod t.fDims else 0) ∧ (t.fI.length : Int) = (if t.fType = 7 then prod t.fDims else 0) ∧ (t.fB.length : Int) = (if t.fType = 9 then prod t.fDims else 0)
instance (t : T_Tensor) : Decidable (LensOK t) := by unfold LensOK; infer_instance
def checkV (t : T_Tensor) : Int := if Known t.fType then (if Good t.fDims then (if LensOK t then 0 else 3) else errS t.fDims) else 5
theorem Check_spec {fu : Nat} {t : T_Tensor} (hs : Small t) (hf : Fuel fu t) : tens_Check fu t = some (checkV t) := by
  obtain ⟨s1, s2, s3, s4⟩ := hs
  unfold tens_Check checkV; try unfold jn
  rw [known_spec, ob_some, Size_spec (by unfold Short; omega) hf.1]
  by_cases hk : Known t.fType
  · rw [if_pos (by simpa [Known] using hk), ob_some, if_pos hk]
    simp only [sizeV]
    by_cases hg : Good t.fDims
    · simp only [if_pos hg, if_true]
      have hp := prod_nonneg hg.2.1
      have hsum : wk .i64 ((wk .i64 ((t.fF.length : Int) + (t.fI.length : Int))) + (t.fB.length : Int)) = t.fF.length + t.fI.length + t.fB.length := by
        rw [wk_add_l, wk_eq (by omega) (by omega)]
      unfold tens_Check.k1 LensOK
      simp only [hsum]
      rcases hk with e | e | e
      · simp only [e, show ¬ (1 : Int) = 7 by decide, show ¬ (1 : Int) = 9 by decide, if_false, if_true]
        by_cases h1 : (t.fF.length : Int) = prod t.fDims
        · by_cases h2 : (t.fF.length : Int) + t.fI.length + t.fB.length = prod t.fDims
          · rw [if_pos h1, if_pos h2, if_pos ⟨h1, by omega, by omega⟩]
          · rw [if_pos h1, if_neg h2, if_neg (fun h => h2 (by omega))]
        · rw [if_neg h1, if_neg (fun h => h1 h.1)]
      · simp only [e, show ¬ (7 : Int) = 1 by decide, show ¬ (7 : Int) = 9 by decide, if_false, if_true]
        by_cases h1 : (t.fI.length : Int) = prod t.fDims
        · by_cases h2 : (t.fF.length : Int) + t.fI.length + t.fB.length = prod t.fDims
          · rw [if_pos h1, if_pos h2, if_pos ⟨by omega, h1, by omega⟩]
          · rw [if_pos h1, if_neg h2, if_neg (fun h => h2 (by omega))]
        · rw [if_neg h1, if_neg (fun h => h1 h.2.1)]
      · simp only [e, show ¬ (9 : Int) = 1 by decide, show ¬ (9 : Int) = 7 by decide, if_false, if_true]
        by_cases h1 : (t.fB.length : Int) = prod t.fDims
        · by_cases h2 : (t.fF.length : Int) + t.fI.length + t.fB.length = prod t.fDims
          · rw [if_pos h1, if_pos h2, if_pos ⟨by omega, by omega, h1⟩]
          · rw [if_pos h1, if_neg h2, if_neg (fun h => h2 (by omega))]
        · rw [if_neg h1, if_neg (fun h => h1 h.2.2)]
    · simp only [if_neg hg]
      rw [if_neg (errS_ne _)]
  · rw [if_neg (by simpa [Known] using hk), if_neg hk]
theorem checkV_zero {t : T_Tensor} : checkV t = 0 ↔ Known t.fType ∧ Good t.fDims ∧ LensOK t := by
  unfold checkV
  by_cases hk : Known t.fType <;> by_cases hg : Good t.fDims <;> by_cases hl : LensOK t <;> simp [hk, hg, hl, errS_ne]

theorem map_loop {β : Type} {l : List Int} {f : Int → Int} {B : ((List Int × Int) → Option β) → (List Int × Int) → Option β} {c : List Int → Option β} {fu : Nat} (hf : l.length < fu)
    (hB : ∀ (next : List Int × Int → Option β) (k : Nat) (m : List Int) (hk : k < l.length), m.length = l.length → (hm : m[k]? = some l[k]) → B next (m, (k : Int)) = next (m.set k (f l[k]), ((k + 1 : Nat) : Int)))
    (hE : ∀ next (m : List Int), m.length = l.length → B next (m, (l.length : Int)) = c m) : cloop B fu (l, 0) = c (l.map f) := by
  have := cloop_up (body := B) (n := fu) l.length (fun k => (l.take k).map f ++ l.drop k) (c (l.map f)) ?_ ?_ hf
  · simpa using this
  · intro k hk next hn
    have hlk : ((l.take k).map f).length = k := by simp; omega
    rw [hB next k _ hk (by simp; omega) (by rw [List.getElem?_append_right (by omega), hlk, Nat.sub_self, List.getElem?_drop]; simp [hk])]
    have e : ((l.take k).map f ++ l.drop k).set k (f l[k]) = (l.take (k + 1)).map f ++ l.drop (k + 1) := by
      rw [List.set_append_right _ _ (by omega), hlk, Nat.sub_self, List.drop_eq_getElem_cons hk, List.set_cons_zero, List.take_add_one, List.getElem?_eq_getElem hk, List.map_append, List.append_assoc]
      rfl
    rw [e]
    exact hn
  · intro next
    rw [hE _ _ (by simp)]
    simp
def canonF (x : Int) : Int := if 2139095040 < x % 2147483648 then 2143289344 else x
def canonT (t : T_Tensor) : T_Tensor := ⟨t.fType, t.fDims, t.fF.map canonF, t.fI, t.fB⟩
theorem wk_eq32 {x : Int} (h0 : 0 ≤ x) (h1 : x < 4294967296) : wk .u32 x = x := by
  have : wk .u32 x = x % 4294967296 := by simp [wk, IntKind.wrap, IntKind.signed, IntKind.bits]
  rw [this, Int.emod_eq_of_lt h0 h1]
theorem abs_u32 {x : Int} (h0 : 0 ≤ x) (h1 : x < 4294967296) : bandn .u32 x 2147483648 = x % 2147483648 := by
  unfold bandn
  rw [show IntKind.u32.bits = 32 from rfl, show ~~~(BitVec.ofInt 32 2147483648) = BitVec.ofNat 32 (2 ^ 31 - 1) by decide, BitVec.toNat_and, BitVec.toNat_ofNat, BitVec.toNat_ofInt]
  have : (2 ^ 31 - 1) % 2 ^ 32 = 2 ^ 31 - 1 := by decide
  rw [this, Nat.and_two_pow_sub_one_eq_mod]
  have hw := wk_eq32 (x := (((x % ((2 ^ 32 : Nat) : Int)).toNat % 2 ^ 31 : Nat) : Int)) (by omega) (by omega)
  unfold wk at hw
  rw [hw]
  omega
theorem softCanon_spec {fu : Nat} {x : Int} (h0 : 0 ≤ x) (h1 : x < 4294967296) : soft_Canon fu x = some (canonF x) := by
  unfold soft_Canon soft_NaN soft_Abs canonF
  rw [abs_u32 h0 h1, ob_some, ob_some]
  by_cases h : 2139095040 < x % 2147483648 <;> simp [h]
def Ten (t : T_Tensor) : Prop := t.fDims.length * 8 ≤ 140737488351232 ∧ t.fF.length * 4 ≤ 140737488351232 ∧ t.fI.length * 8 ≤ 140737488351232 ∧ t.fB.length ≤ 140737488351232 ∧ ∀ x ∈ t.fF, 0 ≤ x ∧ x < 4294967296
theorem Ten.small {t : T_Tensor} (h : Ten t) : Small t := by obtain ⟨a, b, c, d, _⟩ := h; exact ⟨a, by omega, by omega, by omega⟩
theorem Copy_spec {fu : Nat} {t : T_Tensor} (h : Ten t) : tens_Copy fu t = some t := by
  obtain ⟨h1, h2, h3, h4, _⟩ := h
  unfold tens_Copy tens_own_int tens_own_uint32 tens_own_int64 tens_own_bool
  rw [chk_pos (by omega), ob_some, chk_pos (by omega), ob_some, chk_pos (by omega), ob_some, chk_pos (by omega), ob_some]
theorem Canon_spec {fu : Nat} {t : T_Tensor} (h : Ten t) (hf : t.fF.length < fu) : tens_Canon fu t = some (canonT t) := by
  have hu := h.2.2.2.2
  have hl := h.2.1
  unfold tens_Canon
  rw [Copy_spec h, ob_some]
  unfold tens_Canon.W1
  refine map_loop (f := canonF) (c := fun m => some (T_Tensor.mk t.fType t.fDims m t.fI t.fB)) hf ?_ ?_
  · intro next k m hk hm hg
    unfold tens_Canon.L1
    simp only []
    obtain ⟨u1, u2⟩ := hu _ (List.getElem_mem hk)
    rw [if_pos (by omega), at?_nat, hg, ob_some, softCanon_spec u1 u2, ob_some, chk_pos (by omega), wk_succ (by omega)]
    rfl
  · intro next m hm
    unfold tens_Canon.L1
    rw [if_neg (by simp)]
end Go.Av
set_option linter.unusedVariables false
namespace Go.Av
theorem drop_same {a b : List Int} {i : Nat} (ha : i < a.length) (hb : i < b.length) : a.drop i = b.drop i ↔ a[i] = b[i] ∧ a.drop (i + 1) = b.drop (i + 1) := by
  rw [List.drop_eq_getElem_cons ha, List.drop_eq_getElem_cons hb]
  exact List.cons_eq_cons
theorem SameInts_spec {fu : Nat} {a b : List Int} (hl : Short a) (hf : a.length < fu) : ref04_SameInts fu a b = some (decide (a = b)) := by
  unfold ref04_SameInts ref04_SameInts.W1
  by_cases hlen : a.length = b.length
  · rw [if_pos (by omega)]
    refine (cloop_ind (fun (i : Int) => some (decide (a.drop i.toNat = b.drop i.toNat))) (fun i => 0 ≤ i ∧ i ≤ a.length) (fun i => a.length - i.toNat) ?_ fu 0 (by simp) (by simp; omega)).trans (by simp)
    rintro i ⟨h0, h1⟩ next hn
    obtain ⟨k, rfl⟩ := Int.eq_ofNat_of_zero_le h0
    unfold ref04_SameInts.L1
    simp only [Int.toNat_natCast]
    by_cases hk : k < a.length
    · rw [if_pos (by omega), at?_get hk, ob_some, at?_get (by omega : k < b.length), ob_some, wk_succ (by unfold Short at hl; omega)]
      have hd := drop_same hk (by omega : k < b.length)
      by_cases he : a[k] = b[k]
      · rw [if_pos he, hn _ (by omega) (by simp; omega)]
        simp [hd, he]
      · rw [if_neg he]
        simp [hd, he]
    · rw [if_neg (by omega)]
      have e1 : a.drop k = b.drop k := by rw [List.drop_of_length_le (by omega), List.drop_of_length_le (by omega)]
      simp [e1]
  · rw [if_neg (by omega)]
    have : ¬ a = b := fun h => hlen (by rw [h])
    simp [this]
end Go.Av
set_option linter.unusedVariables false
namespace Go.Av
theorem u64_eq {x : Int} (h0 : 0 ≤ x) (h1 : x < 18446744073709551616) : wk .u64 x = x := by
  have : wk .u64 x = x % 18446744073709551616 := by simp [wk, IntKind.wrap, IntKind.signed, IntKind.bits]
  rw [this, Int.emod_eq_of_lt h0 h1]
theorem u32_eq {x : Int} (h0 : 0 ≤ x) (h1 : x < 4294967296) : wk .u32 x = x := by
  have : wk .u32 x = x % 4294967296 := by simp [wk, IntKind.wrap, IntKind.signed, IntKind.bits]
  rw [this, Int.emod_eq_of_lt h0 h1]
theorem two_mono {i j : Nat} (h : i ≤ j) : (2 : Nat) ^ i ≤ 2 ^ j := Nat.pow_le_pow_right (by decide) h
theorem min64 {k : Nat} (hk : k ≤ 64) : min ((k : Nat) : Int).toNat IntKind.u64.bits = k := by simp [IntKind.bits]; omega
theorem two_cast (k : Nat) : ((2 ^ k : Nat) : Int) = (2 : Int) ^ k := by rw [Int.natCast_pow]; rfl
theorem shr_at {a n : Nat} : (a : Int).fdiv ((2 : Int) ^ n) = ((a / 2 ^ n : Nat) : Int) := by
  rw [← two_cast, Int.fdiv_eq_ediv_of_nonneg _ (Int.natCast_nonneg _)]
  exact (Int.natCast_ediv a (2 ^ n)).symm
theorem pow_big {a k : Nat} {b : Nat} (ha : a < 2 ^ b) (hk : b ≤ k) : a / 2 ^ k = 0 := Nat.div_eq_of_lt (Nat.lt_of_lt_of_le ha (two_mono hk))
theorem shr_nat {a k : Nat} (h : a < 18446744073709551616) : shrk .u64 (a : Int) (k : Int) = ((a / 2 ^ k : Nat) : Int) := by
  unfold shrk
  rw [shr_at]
  by_cases hk : k ≤ 64
  · rw [min64 hk]
  · rw [show min ((k : Nat) : Int).toNat IntKind.u64.bits = 64 by simp [IntKind.bits]; omega, pow_big (b := 64) (by simpa using h) (Nat.le_refl _), pow_big (b := 64) (by simpa using h) (by omega)]
def lenOk (T : ByteArray) : Bool := (List.range 256).all fun i => match sat? T (i : Int) with
  | some n => decide (0 ≤ n) && decide (n ≤ 8) && decide (i < 2 ^ n.toNat) && (decide (n = 0) || decide (2 ^ (n.toNat - 1) ≤ i))
  | none => false
theorem lenOk_spec {T : ByteArray} (h : lenOk T = true) {i : Nat} (hi : i < 256) : ∃ n : Nat, sat? T (i : Int) = some (n : Int) ∧ n ≤ 8 ∧ i < 2 ^ n ∧ (n = 0 ∨ 2 ^ (n - 1) ≤ i) := by
  have := List.all_eq_true.1 h i (List.mem_range.2 hi)
  split at this
  · rename_i n hn
    simp only [Bool.and_eq_true, decide_eq_true_eq, Bool.or_eq_true] at this
    obtain ⟨⟨⟨a, b⟩, c⟩, d⟩ := this
    refine ⟨n.toNat, by rw [hn, Int.toNat_of_nonneg a], by omega, c, ?_⟩
    rcases d with d | d
    · exact .inl (by omega)
    · exact .inr d
  · cases this
/-- n bits are just enough -/
def Bits (x n : Nat) : Prop := x < 2 ^ n ∧ (n = 0 ∨ 2 ^ (n - 1) ≤ x)
theorem Bits.shift {x n k : Nat} (h : Bits (x / 2 ^ k) n) (h0 : 2 ^ k ≤ x) : Bits x (k + n) := by
  have hk : 0 < 2 ^ k := Nat.pos_of_ne_zero (by simp)
  obtain ⟨h1, h2⟩ := h
  have h3 : 1 ≤ x / 2 ^ k := (Nat.le_div_iff_mul_le hk).2 (by omega)
  refine ⟨?_, .inr ?_⟩
  · rw [Nat.pow_add]
    have h := (Nat.div_lt_iff_lt_mul hk).1 h1
    rw [Nat.mul_comm]; exact h
  · rcases h2 with h2 | h2
    · subst h2; simp at h1; omega
    · by_cases hn : n = 0
      · subst hn; simp at h1; omega
      · rw [show k + n - 1 = (n - 1) + k by omega, Nat.pow_add]
        exact (Nat.le_div_iff_mul_le hk).1 h2
theorem Len_k2 {fu x c : Nat} (hx : x < 65536) (hc : c ≤ 1000) : ∃ n : Nat, math_bits_Len64.k2 fu (x : Int) (c : Int) = some ((c + n : Nat) : Int) ∧ Bits x n ∧ n ≤ 16 := by
  unfold math_bits_Len64.k2
  generalize hT : (ByteArray.mk _ : ByteArray) = T
  have hok : lenOk T = true := by subst hT; kernel_rfl
  clear hT
  by_cases h : 256 ≤ x
  · rw [if_pos (by omega), show ((8 : Int)) = ((8 : Nat) : Int) from rfl, shr_nat (by omega)]
    have h8 : x / 2 ^ 8 < 256 := by omega
    obtain ⟨n, e1, e2, e3, e4⟩ := lenOk_spec hok h8
    have hw : wk .u8 ((x / 2 ^ 8 : Nat) : Int) = ((x / 2 ^ 8 : Nat) : Int) := by
      have : ∀ z : Int, wk .u8 z = z % 256 := fun z => by simp [wk, IntKind.wrap, IntKind.signed, IntKind.bits]
      rw [this, Int.emod_eq_of_lt (by omega) (by omega)]
    rw [hw, e1, ob_some]
    refine ⟨8 + n, ?_, Bits.shift ⟨e3, e4⟩ (by omega), by omega⟩
    rw [wk_eq (x := ((c : Nat) : Int) + ((8 : Nat) : Int)) (by omega) (by omega), wk_eq (x := ((n : Nat) : Int)) (by omega) (by omega), wk_eq (by omega) (by omega)]
    congr 1
    omega
  · rw [if_neg (by omega)]
    have hw : wk .u8 ((x : Nat) : Int) = ((x : Nat) : Int) := by
      have : ∀ z : Int, wk .u8 z = z % 256 := fun z => by simp [wk, IntKind.wrap, IntKind.signed, IntKind.bits]
      rw [this, Int.emod_eq_of_lt (by omega) (by omega)]
    obtain ⟨n, e1, e2, e3, e4⟩ := lenOk_spec hok (i := x) (by omega)
    refine ⟨n, ?_, ⟨e3, e4⟩, by omega⟩
    rw [hw, e1, ob_some, wk_eq (x := ((n : Nat) : Int)) (by omega) (by omega), wk_eq (by omega) (by omega)]
    congr 1
theorem Len_k1 {fu x c : Nat} (hx : x < 4294967296) (hc : c ≤ 100) : ∃ n : Nat, math_bits_Len64.k1 fu (x : Int) (c : Int) = some ((c + n : Nat) : Int) ∧ Bits x n ∧ n ≤ 32 := by
  unfold math_bits_Len64.k1; try unfold jn
  by_cases h : 65536 ≤ x
  · rw [if_pos (by omega), show ((16 : Int)) = ((16 : Nat) : Int) from rfl, shr_nat (by omega)]
    obtain ⟨n, e1, e2, e3⟩ := Len_k2 (fu := fu) (x := x / 2 ^ 16) (c := c + 16) (by omega) (by omega)
    refine ⟨16 + n, ?_, e2.shift (by omega), by omega⟩
    rw [wk_eq (x := ((c : Nat) : Int) + ((16 : Nat) : Int)) (by omega) (by omega), show ((c : Nat) : Int) + ((16 : Nat) : Int) = ((c + 16 : Nat) : Int) by omega, e1]
    congr 1; omega
  · rw [if_neg (by omega)]
    obtain ⟨n, e1, e2, e3⟩ := Len_k2 (fu := fu) (x := x) (c := c) (by omega) (by omega)
    exact ⟨n, e1, e2, by omega⟩
theorem Len64_spec {fu x : Nat} (hx : x < 18446744073709551616) : ∃ n : Nat, math_bits_Len64 fu (x : Int) = some (n : Int) ∧ Bits x n ∧ n ≤ 64 := by
  unfold math_bits_Len64; try unfold jn
  by_cases h : 4294967296 ≤ x
  · rw [if_pos (by omega), show ((32 : Int)) = ((32 : Nat) : Int) from rfl, shr_nat (by omega)]
    obtain ⟨n, e1, e2, e3⟩ := Len_k1 (fu := fu) (x := x / 2 ^ 32) (c := 32) (by omega) (by omega)
    exact ⟨32 + n, e1, e2.shift (by omega), by omega⟩
  · rw [if_neg (by omega), show ((0 : Int)) = ((0 : Nat) : Int) from rfl]
    obtain ⟨n, e1, e2, e3⟩ := Len_k1 (fu := fu) (x := x) (c := 0) (by omega) (by omega)
    exact ⟨n, by rw [e1]; congr 1; omega, e2, by omega⟩

theorem sign_tot {fu : Nat} {b : Bool} : ∃ r, soft_sign fu b = some r := by unfold soft_sign; split <;> exact ⟨_, rfl⟩
theorem tiny_tot {fu : Nat} {b : Bool} : ∃ r, soft_tiny fu 0 b = some r := by
  obtain ⟨s, hs⟩ := sign_tot (fu := fu) (b := b)
  unfold soft_tiny soft_outwards
  rw [chk_pos rfl, chk_pos rfl, ob_some, hs, ob_some]
  exact ⟨_, rfl⟩
theorem huge_tot {fu : Nat} {b : Bool} : ∃ r, soft_huge fu 0 b = some r := by
  obtain ⟨s, hs⟩ := sign_tot (fu := fu) (b := b)
  unfold soft_huge soft_huge.k1; try unfold jn
  rw [chk_pos rfl, hs, ob_some]
  exact ⟨_, rfl⟩
theorem k3_tot {fu : Nat} {a : Bool} {b c d : Int} : ∃ r, soft_Round.k3 fu a b c d = some r := by
  obtain ⟨s, hs⟩ := sign_tot (fu := fu) (b := a)
  obtain ⟨u, hu⟩ := huge_tot (fu := fu) (b := a)
  unfold soft_Round.k3
  rw [hs, hu]
  simp only [ob_some]
  repeat' split
  all_goals exact ⟨_, rfl⟩
theorem k2_tot {fu : Nat} {a e f g : Bool} {b c d : Int} : ∃ r, soft_Round.k2 fu a b c d e f g = some r := by
  unfold soft_Round.k2; try unfold jn
  repeat' split
  all_goals exact k3_tot
theorem k4_tot {fu : Nat} {a e f : Bool} {b c d : Int} : ∃ r, soft_Round.k4 fu a b c e d f = some r := by
  unfold soft_Round.k4
  repeat' split
  all_goals exact k2_tot
theorem k1_tot {fu : Nat} {a e : Bool} {b c : Int} {n : Nat} (hn : n ≤ 64) (hb : -300 ≤ b) (hb2 : b ≤ 200) : ∃ r, soft_Round.k1 fu a b c e (n : Int) = some r := by
  unfold soft_Round.k1; try unfold jn
  have e1 : wk .i64 ((n : Int) - 24) = (n : Int) - 24 := wk_eq (by omega) (by omega)
  have e2 : wk .i64 (-149 - b) = -149 - b := wk_eq (by omega) (by omega)
  rw [e1, e2]
  have h1 : (n : Int) - 24 ≤ imax ((n : Int) - 24) (-149 - b) := by unfold imax; split <;> omega
  have h2 : imax ((n : Int) - 24) (-149 - b) ≤ 151 := by unfold imax; split <;> omega
  generalize imax ((n : Int) - 24) (-149 - b) = m at h1 h2
  split
  · rw [chk_pos (by rw [wk_eq (by omega) (by omega)]; omega)]
    exact k2_tot
  · split
    · exact k2_tot
    · rw [chk_pos (by omega), chk_pos (by rw [wk_eq (by omega) (by omega)]; omega)]
      repeat' split
      all_goals exact k4_tot
theorem Round_tot {fu : Nat} {a e : Bool} {b c : Int} (h0 : 0 ≤ c) (h1 : c < 18446744073709551616) : ∃ r, soft_Round fu 0 a b c e = some r := by
  obtain ⟨k, rfl⟩ := Int.eq_ofNat_of_zero_le h0
  obtain ⟨n, hn, _, hn2⟩ := Len64_spec (fu := fu) (x := k) (by omega)
  obtain ⟨s, hs⟩ := sign_tot (fu := fu) (b := a)
  obtain ⟨u, hu⟩ := huge_tot (fu := fu) (b := a)
  obtain ⟨v, hv⟩ := tiny_tot (fu := fu) (b := a)
  unfold soft_Round; try unfold jn
  rw [chk_pos rfl, hn, ob_some, hs, hu, hv]
  simp only [ob_some]
  split
  · split <;> exact ⟨_, rfl⟩
  · split
    · exact ⟨_, rfl⟩
    · split
      · exact ⟨_, rfl⟩
      · exact k1_tot hn2 (by omega) (by omega)
theorem wk_u64 (x : Int) : 0 ≤ wk .u64 x ∧ wk .u64 x < 18446744073709551616 := by
  have : wk .u64 x = x % 18446744073709551616 := by simp [wk, IntKind.wrap, IntKind.signed, IntKind.bits]
  rw [this]; omega
theorem open_tot {fu : Nat} {x : Int} : ∃ r, soft_open fu x = some r ∧ -150 ≤ r.fexp ∧ r.fexp ≤ 200 := by
  have hb : 0 ≤ band .u32 (shrk .u32 x 23) 255 ∧ band .u32 (shrk .u32 x 23) 255 ≤ 255 := by
    unfold band
    rw [show IntKind.u32.bits = 32 from rfl, BitVec.toNat_and]
    have h : (BitVec.ofInt 32 (shrk .u32 x 23)).toNat &&& (BitVec.ofInt 32 255).toNat ≤ 255 := Nat.le_trans Nat.and_le_right (by decide)
    have hw := u32_eq (x := (((BitVec.ofInt 32 (shrk .u32 x 23)).toNat &&& (BitVec.ofInt 32 255).toNat : Nat) : Int)) (by omega) (by omega)
    unfold wk at hw
    rw [hw]
    omega
  unfold soft_open
  rw [wk_eq (x := band .u32 (shrk .u32 x 23) 255) (by omega) (by omega)]
  generalize band .u32 (shrk .u32 x 23) 255 = q at hb
  split
  · exact ⟨_, rfl, by show (-150 : Int) ≤ 0; omega, by show (0 : Int) ≤ 200; omega⟩
  · split
    · exact ⟨_, rfl, by show (-150 : Int) ≤ -149; omega, by show (-149 : Int) ≤ 200; omega⟩
    · refine ⟨_, rfl, ?_, ?_⟩
      · show -150 ≤ wk .i64 (q - 150)
        rw [wk_eq (by omega) (by omega)]; omega
      · show wk .i64 (q - 150) ≤ 200
        rw [wk_eq (by omega) (by omega)]; omega
theorem Mul_tot {fu : Nat} {x y : Int} : ∃ r, soft_Mul fu x y = some r := by
  obtain ⟨a, ha, _, _⟩ := open_tot (fu := fu) (x := x)
  obtain ⟨b, hb, _, _⟩ := open_tot (fu := fu) (x := y)
  obtain ⟨s, hs⟩ := sign_tot (fu := fu) (b := !(a.fneg == b.fneg))
  obtain ⟨r, hr⟩ := Round_tot (fu := fu) (a := !(a.fneg == b.fneg)) (e := false) (b := wk .i64 (a.fexp + b.fexp)) (wk_u64 (a.fsig * b.fsig)).1 (wk_u64 _).2
  unfold soft_Mul soft_MulBy soft_MulBy.k1; try unfold jn
  rw [chk_pos rfl, ha, ob_some, hb, ob_some, hs, hr]
  simp only [ob_some]
  repeat' split
  all_goals exact ⟨_, rfl⟩
theorem nought_tot {fu : Nat} : ∃ r, soft_nought fu 0 = some r := by
  obtain ⟨s, hs⟩ := sign_tot (fu := fu) (b := decide ((0 : Int) = 2))
  unfold soft_nought
  rw [chk_pos rfl, hs, ob_some]
  exact ⟨_, rfl⟩
theorem a3_tot {fu : Nat} {a b c : Bool} {x y z : Int} : ∃ r, soft_AddBy.k3 fu a b x y z c = some r := by
  obtain ⟨s, hs⟩ := nought_tot (fu := fu)
  obtain ⟨r1, h1⟩ := Round_tot (fu := fu) (a := a) (e := c) (b := x) (wk_u64 (y + z)).1 (wk_u64 _).2
  obtain ⟨r2, h2⟩ := Round_tot (fu := fu) (a := a) (e := true) (b := x) (wk_u64 (wk .u64 (y - z) - 1)).1 (wk_u64 _).2
  obtain ⟨r3, h3⟩ := Round_tot (fu := fu) (a := a) (e := false) (b := x) (wk_u64 (y - z)).1 (wk_u64 _).2
  obtain ⟨r4, h4⟩ := Round_tot (fu := fu) (a := b) (e := false) (b := x) (wk_u64 (z - y)).1 (wk_u64 _).2
  unfold soft_AddBy.k3
  rw [hs, h1, h2, h3, h4]
  simp only [ob_some]
  repeat' split
  all_goals exact ⟨_, rfl⟩
theorem a2_tot {fu : Nat} {a b : Bool} {x y z w : Int} (h : z ≤ x) (h1 : -1000 ≤ z) (h2 : x ≤ 1000) : ∃ r, soft_AddBy.k2 fu a x y b z w = some r := by
  unfold soft_AddBy.k2; try unfold jn
  rw [wk_eq (x := x - z) (by omega) (by omega)]
  split
  · rw [chk_pos (by omega)]; exact a3_tot
  · rw [chk_pos (by rw [wk_eq (by omega) (by omega)]; omega)]; exact a3_tot
theorem a1_tot {fu : Nat} {p q : T_soft_number} (h1 : -150 ≤ p.fexp) (h2 : p.fexp ≤ 200) (h3 : -150 ≤ q.fexp) (h4 : q.fexp ≤ 200) : ∃ r, soft_AddBy.k1 fu p q = some r := by
  unfold soft_AddBy.k1; try unfold jn
  split
  · exact a2_tot (by omega) (by omega) (by omega)
  · exact a2_tot (by omega) (by omega) (by omega)
theorem Add_tot {fu : Nat} {x y : Int} : ∃ r, soft_Add fu x y = some r := by
  obtain ⟨a, ha, a1, a2⟩ := open_tot (fu := fu) (x := x)
  obtain ⟨b, hb, b1, b2⟩ := open_tot (fu := fu) (x := y)
  obtain ⟨s, hs⟩ := nought_tot (fu := fu)
  obtain ⟨r, hr⟩ := a1_tot (fu := fu) a1 a2 b1 b2
  unfold soft_Add soft_AddBy; try unfold jn
  rw [chk_pos rfl, ha, ob_some, hb, ob_some, hs, hr]
  simp only [ob_some]
  repeat' split
  all_goals exact ⟨_, rfl⟩
theorem Mul_fu {fu : Nat} {x y : Int} : soft_Mul fu x y = soft_Mul 0 x y := rfl
theorem Add_fu {fu : Nat} {x y : Int} : soft_Add fu x y = soft_Add 0 x y := rfl
def mulV (x y : Int) : Int := (soft_Mul 0 x y).getD 0
def addV (x y : Int) : Int := (soft_Add 0 x y).getD 0
theorem Mul_spec {fu : Nat} {x y : Int} : soft_Mul fu x y = some (mulV x y) := by
  rw [Mul_fu]; unfold mulV
  obtain ⟨r, hr⟩ := Mul_tot (fu := 0) (x := x) (y := y)
  rw [hr]; rfl
theorem Add_spec {fu : Nat} {x y : Int} : soft_Add fu x y = some (addV x y) := by
  rw [Add_fu]; unfold addV
  obtain ⟨r, hr⟩ := Add_tot (fu := 0) (x := x) (y := y)
  rw [hr]; rfl
/-- a sum of products, in order -/
def dotV (s : Int) (a b : List Int) : Int := (a.zip b).foldl (fun s p => addV s (mulV p.1 p.2)) s
theorem imin_cast {a b : Nat} : imin (a : Int) (b : Int) = ((min a b : Nat) : Int) := by unfold imin; split <;> omega
end Go.Av
set_option linter.unusedVariables false
namespace Go.Av
theorem cloop_succ {σ β : Type} {body : (σ → Option β) → σ → Option β} {n : Nat} {s : σ} : cloop body (n + 1) s = body (cloop body n) s := rfl
def zeroVal : T_Val := ⟨0, [], false, ⟨0, [], [], [], []⟩⟩
def valOf (t : T_Tensor) : T_Val := if t.fType = 0 then zeroVal else ⟨t.fType, t.fDims, true, t⟩
/-- tensors that memory holds -/
def Tens (fu : Nat) (l : List T_Tensor) : Prop := l.length ≤ 1048576 ∧ l.length < fu ∧ ∀ t ∈ l, Ten t ∧ Fuel fu t
theorem CloneI_spec {fu : Nat} {l : List Int} (h : l.length * 8 ≤ 140737488351232) : slices_Clone_int fu l = some l := by
  unfold slices_Clone_int; rw [chk_pos (by omega)]
theorem take_next {α β : Type} {f : α → β} {l : List α} {k : Nat} (hk : k < l.length) : (l.take (k + 1)).map f = (l.take k).map f ++ [f l[k]] := by
  rw [List.take_add_one, List.getElem?_eq_getElem hk, List.map_append]; rfl
theorem Vals_all {fu : Nat} {l : List T_Tensor} (h : Tens fu l) : ewise_Vals fu l = some (l.map valOf) := by
  unfold ewise_Vals ewise_Vals.W1
  have hl0 := h.1
  refine cloop_up l.length (fun k => (l.take k).map valOf) _ ?_ ?_ h.2.1
  · intro k hk next hn
    have ht := (h.2.2 _ (List.getElem_mem hk)).1
    show ewise_Vals.L1 fu l _ _ (k : Int) = _
    have hl : ((l.take k).map valOf).length = k := by simp; omega
    rw [take_next hk] at hn
    rw [ewise_Vals.L1, if_pos (by omega), at?_get hk, ob_some, wk_succ (by omega)]
    by_cases h0 : l[k].fType = 0
    · rw [if_pos h0, chk_pos (by rw [hl]; omega)]
      rw [valOf, if_pos h0] at hn
      exact hn
    · rw [if_neg h0, CloneI_spec ht.1, ob_some, Copy_spec ht, ob_some, chk_pos (by rw [hl]; omega)]
      rw [valOf, if_neg h0] at hn
      exact hn
  · intro next
    show ewise_Vals.L1 fu l _ _ (l.length : Int) = _
    rw [ewise_Vals.L1, if_neg (by omega), List.take_length]
/-- the first that may not be -/
def badV : List T_Tensor → Option Int
  | [] => none
  | t :: l => if t.fType = 0 ∨ checkV t = 0 then badV l else some (checkV t)
theorem badV_none {l : List T_Tensor} (h : badV l = none) : ∀ t ∈ l, t.fType = 0 ∨ checkV t = 0 := by
  induction l with
  | nil => intro t ht; cases ht
  | cons x l ih =>
    unfold badV at h
    split at h
    · rename_i hx
      intro t ht
      rcases List.mem_cons.1 ht with rfl | ht
      · exact hx
      · exact ih h t ht
    · cases h
theorem badV_some {l : List T_Tensor} {e : Int} (h : badV l = some e) : e ≠ 0 := by
  induction l with
  | nil => cases h
  | cons x l ih =>
    unfold badV at h
    split at h
    · exact ih h
    · rename_i hx
      injection h with h
      subst h
      exact fun h0 => hx (.inr h0)
/-- the loop at the head of each layer's operations: each tensor is looked at, and copied -/
theorem head_loop {β : Type} {fu : Nat} {l : List T_Tensor} (h : Tens fu l) {k1 : List T_Tensor → Option β} {er : Int → Option β} {L : (List T_Tensor → Int → Option β) → List T_Tensor → Int → Option β}
    (hL : ∀ nx acc i, L nx acc i = if i < (l.length : Int) then ((at? l i).bind fun x => if x.fType = 0 then ((tens_Canon fu x).bind fun y => chk ((acc.length + 1 : Int) * 104 ≤ 140737488355328) <| nx (acc ++ ([y])) (wk .i64 (i + 1))) else
      (tens_Check fu x).bind fun c => if c = 0 then ((tens_Canon fu x).bind fun y => chk ((acc.length + 1 : Int) * 104 ≤ 140737488355328) <| nx (acc ++ ([y])) (wk .i64 (i + 1))) else er c) else k1 acc) :
    cloop (fun next s => L (fun a b => next (a, b)) s.1 s.2) fu (([] : List T_Tensor), (0 : Int)) = match badV l with | some e => er e | none => k1 (l.map canonT) := by
  have hl0 := h.1
  have key : ∀ m q k : Nat, l.length - k = m → k ≤ l.length → m < q → cloop (fun next s => L (fun a b => next (a, b)) s.1 s.2) q ((l.take k).map canonT, (k : Int)) = match badV (l.drop k) with | some e => er e | none => k1 (l.map canonT) := by
    intro m
    induction m with
    | zero =>
      intro q k h1 h2 h3
      cases q with
      | zero => omega
      | succ q =>
        have : k = l.length := by omega
        subst this
        rw [cloop_succ]
        show L _ _ (l.length : Int) = _
        rw [hL, if_neg (by omega), List.take_length, List.drop_length]
        rfl
    | succ m ih =>
      intro q k h1 h2 h3
      cases q with
      | zero => omega
      | succ q =>
        have hk : k < l.length := by omega
        obtain ⟨ht, hf⟩ := h.2.2 _ (List.getElem_mem hk)
        have hl : ((l.take k).map canonT).length = k := by simp; omega
        have hn := ih q (k + 1) (by omega) (by omega) (by omega)
        rw [take_next hk] at hn
        rw [cloop_succ]
        show L _ _ (k : Int) = _
        rw [hL, if_pos (by omega), at?_get hk, ob_some, wk_succ (by omega), List.drop_eq_getElem_cons hk]
        unfold badV
        by_cases h0 : l[k].fType = 0
        · rw [if_pos h0, Canon_spec ht hf.2.1, ob_some, chk_pos (by rw [hl]; omega), if_pos (.inl h0)]
          exact hn
        · rw [if_neg h0, Check_spec ht.small hf, ob_some]
          by_cases hc : checkV l[k] = 0
          · rw [if_pos hc, Canon_spec ht hf.2.1, ob_some, chk_pos (by rw [hl]; omega), if_pos (.inr hc)]
            exact hn
          · rw [if_neg hc, if_neg (fun hh => hh.elim h0 hc)]
  exact key l.length fu 0 (by omega) (by omega) h.2.1
end Go.Av
set_option linter.unusedVariables false
namespace Go.Av
theorem ranged_all {fu : Nat} {lo : Int} {l : List Int} (hl : l.length ≤ 10) (hf : 20 < fu) : infer_ranged fu lo l = some (decide (∀ x ∈ l, lo ≤ x ∧ x ≤ 4096)) := by
  unfold infer_ranged
  rw [ContainsFunc_spec (q := fun x => decide (x < lo ∨ 4096 < x)) (fun x => by
    unfold infer_ranged_1
    by_cases hx : x < lo
    · rw [if_pos hx]; simp [hx]
    · rw [if_neg hx]; simp [hx]) (by unfold Short; omega) (by omega), ob_some]
  congr 1
  by_cases h : ∀ x ∈ l, lo ≤ x ∧ x ≤ 4096
  · rw [decide_eq_true h]
    have : (l.any fun x => decide (x < lo ∨ 4096 < x)) = false := by
      rw [List.any_eq_false]
      intro x hx
      have := h x hx
      simp; omega
    rw [this]; rfl
  · rw [decide_eq_false h]
    have : (l.any fun x => decide (x < lo ∨ 4096 < x)) = true := by
      rw [List.any_eq_true]
      refine Classical.byContradiction fun hc => h fun x hx => ?_
      have h2 : ¬ (decide (x < lo ∨ 4096 < x) = true) := fun hh => hc ⟨x, hx, hh⟩
      simp at h2; omega
    rw [this]; rfl
theorem Window_fu {fu : Nat} {a b c d e f g : Int} {h : Bool} (hf : 20 < fu) : infer_Window fu a b c d e f g h = infer_Window 21 a b c d e f g h := by
  unfold infer_Window; try unfold jn
  rw [ranged_all (by simp) hf, ranged_all (by simp) (by decide : 20 < 21), ob_some, ob_some, ranged_all (by simp) hf, ranged_all (by simp) (by decide : 20 < 21), ob_some]
  rfl
/-- what holds of windows that may be -/
structure WinOK (sz k st di : Int) (r : Int × Int × Int) : Prop where
  z0 : 0 ≤ sz
  z1 : sz ≤ 4096
  k0 : 1 ≤ k
  k1 : k ≤ 4096
  s0 : 1 ≤ st
  s1 : st ≤ 4096
  d0 : 1 ≤ di
  d1 : di ≤ 4096
  a0 : 0 ≤ r.2.1
  a1 : r.2.1 ≤ 33554432
  n0 : 0 ≤ r.1
theorem mul_bounds {a b A B : Int} (a0 : 0 ≤ a) (a1 : a ≤ A) (b0 : 0 ≤ b) (b1 : b ≤ B) : 0 ≤ a * b ∧ a * b ≤ A * B :=
  ⟨Int.mul_nonneg a0 b0, Int.le_trans (Int.mul_le_mul_of_nonneg_right a1 b0) (Int.mul_le_mul_of_nonneg_left b1 (by omega))⟩
theorem tdiv_bounds {a b A : Int} (a0 : 0 ≤ a) (a1 : a ≤ A) (b0 : 1 ≤ b) : 0 ≤ Int.tdiv a b ∧ Int.tdiv a b ≤ A := by
  rw [Int.tdiv_eq_ediv_of_nonneg a0]
  refine ⟨Int.ediv_nonneg a0 (by omega), Int.le_trans (Int.ediv_le_self b a0) a1⟩
theorem Window_k2_ex {fu : Nat} {sz k st di p q : Int} {ce : Bool} (z0 : 0 ≤ sz) (z1 : sz ≤ 4096) (k0 : 1 ≤ k) (k1 : k ≤ 4096) (s0 : 1 ≤ st) (s1 : st ≤ 4096) (d0 : 1 ≤ di) (d1 : di ≤ 4096) (p0 : 0 ≤ p) (p1 : p ≤ 4096) (q0 : 0 ≤ q) (q1 : q ≤ 4096) :
    ∃ r, infer_Window.k2 fu sz k st di ce p q = some r ∧ (r.2.2 = 0 → WinOK sz k st di r) := by
  obtain ⟨m0, m1⟩ := mul_bounds (a := k - 1) (b := di) (A := 4096) (B := 4096) (by omega) (by omega) (by omega) d1
  have e1 : wk .i64 (wk .i64 (sz + p) + q) = sz + p + q := by rw [wk_eq (x := sz + p) (by omega) (by omega), wk_eq (by omega) (by omega)]
  have e2 : wk .i64 (wk .i64 (wk .i64 (k - 1) * di) + 1) = (k - 1) * di + 1 := by rw [wk_eq (x := k - 1) (by omega) (by omega), wk_eq (x := (k - 1) * di) (by omega) (by omega), wk_eq (by omega) (by omega)]
  have e3 : wk .i64 (sz + p + q - ((k - 1) * di + 1)) = sz + p + q - ((k - 1) * di + 1) := wk_eq (by omega) (by omega)
  unfold infer_Window.k2
  rw [e1, e2, e3]
  by_cases h : sz + p + q - ((k - 1) * di + 1) < 0
  · rw [if_pos h]; exact ⟨_, rfl, fun h => absurd h (by decide)⟩
  rw [if_neg h, chk_pos (by omega)]
  obtain ⟨t0, t1⟩ := tdiv_bounds (a := sz + p + q - ((k - 1) * di + 1)) (b := st) (A := 20000) (by omega) (by omega) s0
  have e4 : wk .i64 (Int.tdiv (sz + p + q - ((k - 1) * di + 1)) st) = Int.tdiv (sz + p + q - ((k - 1) * di + 1)) st := wk_eq (by omega) (by omega)
  rw [e4]
  generalize Int.tdiv (sz + p + q - ((k - 1) * di + 1)) st = t at *
  have e5 : wk .i64 (t + 1) = t + 1 := wk_eq (by omega) (by omega)
  have e6 : wk .i64 (t + 1 + 1) = t + 1 + 1 := wk_eq (by omega) (by omega)
  rw [e5, e6]
  have w : ∀ n : Int, 0 ≤ n → WinOK sz k st di (n, p, 0) := fun n hn => ⟨z0, z1, k0, k1, s0, s1, d0, d1, p0, by show p ≤ 33554432; omega, hn⟩
  cases ce with
  | false => rw [if_neg (by decide)]; exact ⟨_, rfl, fun _ => w _ (by omega)⟩
  | true =>
    rw [if_pos rfl]
    split
    · split
      · exact ⟨_, rfl, fun _ => w _ (by omega)⟩
      · exact ⟨_, rfl, fun _ => w _ (by omega)⟩
    · exact ⟨_, rfl, fun _ => w _ (by omega)⟩
theorem Window_ex {fu : Nat} {sz k st di p q au : Int} {ce : Bool} (hf : 20 < fu) : ∃ r, infer_Window fu sz k st di p q au ce = some r ∧ (r.2.2 = 0 → WinOK sz k st di r) := by
  unfold infer_Window; try unfold jn
  rw [ranged_all (by simp) hf, ob_some]
  by_cases h1 : ¬ ∀ x ∈ [sz, p, q], 0 ≤ x ∧ x ≤ 4096
  · rw [decide_eq_false h1, if_neg (by decide)]; exact ⟨_, rfl, fun h => absurd h (by decide)⟩
  have h1 := Classical.not_not.1 h1
  rw [decide_eq_true h1, if_pos rfl, ranged_all (by simp) hf, ob_some]
  by_cases h2 : ¬ ∀ x ∈ [k, st, di], 1 ≤ x ∧ x ≤ 4096
  · rw [decide_eq_false h2, if_neg (by decide)]; exact ⟨_, rfl, fun h => absurd h (by decide)⟩
  have h2 := Classical.not_not.1 h2
  rw [decide_eq_true h2, if_pos rfl]
  obtain ⟨z0, z1⟩ := h1 sz (by simp)
  obtain ⟨p0, p1⟩ := h1 p (by simp)
  obtain ⟨q0, q1⟩ := h1 q (by simp)
  obtain ⟨k0, k1⟩ := h2 k (by simp)
  obtain ⟨s0, s1⟩ := h2 st (by simp)
  obtain ⟨d0, d1⟩ := h2 di (by simp)
  unfold infer_Window.k1; try unfold jn
  obtain ⟨m0, m1⟩ := mul_bounds (a := k - 1) (b := di) (A := 4096) (B := 4096) (by omega) (by omega) (by omega) d1
  have e0 : wk .i64 (wk .i64 (sz + st) - 1) = sz + st - 1 := by rw [wk_eq (x := sz + st) (by omega) (by omega), wk_eq (by omega) (by omega)]
  have e2 : wk .i64 (wk .i64 (wk .i64 (k - 1) * di) + 1) = (k - 1) * di + 1 := by rw [wk_eq (x := k - 1) (by omega) (by omega), wk_eq (x := (k - 1) * di) (by omega) (by omega), wk_eq (by omega) (by omega)]
  rw [e0, e2]
  obtain ⟨t0, t1⟩ := tdiv_bounds (a := sz + st - 1) (b := st) (A := 20000) (by omega) (by omega) s0
  have e4 : wk .i64 (Int.tdiv (sz + st - 1) st) = Int.tdiv (sz + st - 1) st := wk_eq (by omega) (by omega)
  have hts : Int.tdiv (sz + st - 1) st * st ≤ sz + st - 1 := by
    rw [Int.tdiv_eq_ediv_of_nonneg (by omega)]; exact Int.ediv_mul_le _ (by omega)
  rw [e4]
  generalize Int.tdiv (sz + st - 1) st = t at *
  have hroom : ∀ b : Int, 0 ≤ b → b ≤ 1 → 1 ≤ t → 0 ≤ Int.tdiv (wk .i64 (imax 0 (wk .i64 (wk .i64 (wk .i64 (wk .i64 (t - 1) * st) + ((k - 1) * di + 1)) - sz)) + b)) 2 ∧ Int.tdiv (wk .i64 (imax 0 (wk .i64 (wk .i64 (wk .i64 (wk .i64 (t - 1) * st) + ((k - 1) * di + 1)) - sz)) + b)) 2 ≤ 33554432 := fun b b0 b1 ht => by
    obtain ⟨u0, u1⟩ := mul_bounds (a := t - 1) (b := st) (A := 20000) (B := 4096) (by omega) (by omega) (by omega) s1
    have hu : (t - 1) * st ≤ sz := by
      rw [Int.sub_mul]; omega
    rw [wk_eq (x := t - 1) (by omega) (by omega), wk_eq (x := (t - 1) * st) (by omega) (by omega), wk_eq (x := (t - 1) * st + ((k - 1) * di + 1)) (by omega) (by omega), wk_eq (x := (t - 1) * st + ((k - 1) * di + 1) - sz) (by omega) (by omega)]
    have hm : 0 ≤ imax 0 ((t - 1) * st + ((k - 1) * di + 1) - sz) ∧ imax 0 ((t - 1) * st + ((k - 1) * di + 1) - sz) ≤ 20000000 := by unfold imax; split <;> omega
    rw [wk_eq (by omega) (by omega)]
    obtain ⟨v0, v1⟩ := tdiv_bounds (a := imax 0 ((t - 1) * st + ((k - 1) * di + 1) - sz) + b) (b := 2) (A := 33554432) (by omega) (by omega) (by decide)
    exact ⟨v0, v1⟩
  have w : ∀ n a : Int, 0 ≤ n → 0 ≤ a → a ≤ 33554432 → WinOK sz k st di (n, a, 0) := fun n a hn ha hb => ⟨z0, z1, k0, k1, s0, s1, d0, d1, ha, hb, hn⟩
  by_cases a9 : au = 9
  · rw [if_pos a9, chk_pos (by omega)]
    by_cases ht : t = 0
    · rw [if_pos ht]; exact ⟨_, rfl, fun _ => w _ _ (by decide) (by decide) (by decide)⟩
    · rw [if_neg ht, if_neg (by omega)]
      have := hroom 0 (by decide) (by decide) (by omega)
      obtain ⟨u0, u1⟩ := mul_bounds (a := t - 1) (b := st) (A := 20000) (B := 4096) (by omega) (by omega) (by omega) s1
      have hm : ∀ z : Int, wk .i64 (imax 0 (wk .i64 z) + 0) = imax 0 (wk .i64 z) := fun z => by
        have := wk_range z
        rw [Int.add_zero]
        exact wk_eq (by unfold imax; split <;> omega) (by unfold imax; split <;> omega)
      rw [hm] at this
      have h2 : wk .i64 (Int.tdiv (imax 0 (wk .i64 (wk .i64 (wk .i64 (wk .i64 (t - 1) * st) + ((k - 1) * di + 1)) - sz))) 2) = Int.tdiv (imax 0 (wk .i64 (wk .i64 (wk .i64 (wk .i64 (t - 1) * st) + ((k - 1) * di + 1)) - sz))) 2 := wk_eq (by omega) (by omega)
      refine ⟨_, rfl, fun _ => w _ _ (by omega) ?_ ?_⟩
      · rw [h2]; exact this.1
      · rw [h2]; exact this.2
  rw [if_neg a9]
  by_cases a10 : au = 10
  · rw [if_pos a10, chk_pos (by omega)]
    by_cases ht : t = 0
    · rw [if_pos ht]; exact ⟨_, rfl, fun _ => w _ _ (by decide) (by decide) (by decide)⟩
    · rw [if_neg ht]
      have := hroom 1 (by decide) (by decide) (by omega)
      refine ⟨_, rfl, fun _ => w _ _ (by omega) ?_ ?_⟩
      · rw [wk_eq (by omega) (by omega)]; exact this.1
      · rw [wk_eq (by omega) (by omega)]; exact this.2
  rw [if_neg a10]
  by_cases a8 : au = 8
  · rw [if_pos a8]; exact Window_k2_ex z0 z1 k0 k1 s0 s1 d0 d1 (by decide) (by decide) (by decide) (by decide)
  · rw [if_neg a8]; exact Window_k2_ex z0 z1 k0 k1 s0 s1 d0 d1 p0 p1 q0 q1
def winV (sz k st di p q au : Int) (ce : Bool) : Int × Int × Int := (infer_Window 21 sz k st di p q au ce).getD (0, 0, 1)
theorem Window_spec {fu : Nat} {sz k st di p q au : Int} {ce : Bool} (hf : 20 < fu) : infer_Window fu sz k st di p q au ce = some (winV sz k st di p q au ce) := by
  rw [Window_fu hf]
  obtain ⟨r, hr, _⟩ := Window_ex (fu := 21) (sz := sz) (k := k) (st := st) (di := di) (p := p) (q := q) (au := au) (ce := ce) (by decide)
  unfold winV
  rw [hr]; rfl
theorem winV_ok {sz k st di p q au : Int} {ce : Bool} (h : (winV sz k st di p q au ce).2.2 = 0) : WinOK sz k st di (winV sz k st di p q au ce) := by
  obtain ⟨r, hr, hk⟩ := Window_ex (fu := 21) (sz := sz) (k := k) (st := st) (di := di) (p := p) (q := q) (au := au) (ce := ce) (by decide)
  have e : winV sz k st di p q au ce = r := by unfold winV; rw [hr]; rfl
  rw [e] at h ⊢
  exact hk h
end Go.Av
set_option linter.unusedVariables false
namespace Go.Av
theorem Equal_spec {fu : Nat} {a b : List Int} (hl : Short a) (hf : a.length < fu) : slices_Equal_int fu a b = some (decide (a = b)) := by
  have h := SameInts_spec (fu := fu) (a := a) (b := b) hl hf
  exact h
def vAt (vs : List T_Val) (i : Nat) : T_Val := vs.getD i zeroVal
def numV (l : List Int) (i : Nat) (o : Int) : Int := if l.length = 0 then o else l.getD i 0
def manyV (l : List Int) (n : Nat) : Prop := l.length = 0 ∨ l.length = n
instance (l : List Int) (n : Nat) : Decidable (manyV l n) := by unfold manyV; infer_instance
structure AttrOK (s : T_Setting) : Prop where
  g0 : 1 ≤ s.fGroup
  g1 : s.fGroup ≤ 4096
  ker : manyV s.fKernel 2
  str : manyV s.fStrides 2
  dil : manyV s.fDilations 2
  pad : manyV s.fPads 4
theorem attrOK_iff {s : T_Setting} : AttrOK s ↔ (1 ≤ s.fGroup ∧ s.fGroup ≤ 4096 ∧ manyV s.fKernel 2 ∧ manyV s.fStrides 2 ∧ manyV s.fDilations 2 ∧ manyV s.fPads 4) :=
  ⟨fun h => ⟨h.g0, h.g1, h.ker, h.str, h.dil, h.pad⟩, fun ⟨a, b, c, d, e, f⟩ => ⟨a, b, c, d, e, f⟩⟩
def winA (s : T_Setting) (a : Nat) (sz k : Int) : Int × Int × Int := winV sz k (numV s.fStrides a 1) (numV s.fDilations a 1) (numV s.fPads a 0) (numV s.fPads (2 + a) 0) s.fAuto s.fCeil
def axV (s : T_Setting) (a : Nat) (sz k : Int) : T_conv_axis := ⟨sz, k, numV s.fStrides a 1, numV s.fDilations a 1, (winA s a sz k).2.1, (winA s a sz k).1⟩
section
variable {fu : Nat} {s : T_Setting} {vs : List T_Val}
theorem num_spec {l : List Int} {n i : Nat} {o : Int} (h : manyV l n) (hi : i < n) : infer_number fu l (i : Int) o = some (numV l i o) := by
  unfold infer_number numV
  rcases h with h | h
  · rw [if_pos (by omega), if_pos h]
  · rw [if_neg (by omega), if_neg (by omega), at?_get (by omega), ob_some, List.getD_eq_getElem?_getD, List.getElem?_eq_getElem (by omega)]; rfl
theorem cnum_spec {l : List Int} {n i : Nat} {o : Int} (h : manyV l n) (hi : i < n) : conv_number fu l (i : Int) o = some (numV l i o) := num_spec (fu := fu) h hi
theorem axisOf_spec {a : Nat} {sz k : Int} (h : AttrOK s) (ha : a < 2) (hf : 20 < fu) : conv_axisOf fu s (a : Int) sz k = some (axV s a sz k, (winA s a sz k).2.2) := by
  unfold conv_axisOf
  have e : wk .i64 (2 + (a : Int)) = ((2 + a : Nat) : Int) := by rw [wk_eq (by omega) (by omega)]; omega
  rw [cnum_spec h.str ha, ob_some, cnum_spec h.dil ha, ob_some, cnum_spec h.pad (by omega), ob_some, e, cnum_spec h.pad (by omega), ob_some, Window_spec hf, ob_some]
  rfl
theorem val_spec {i : Nat} : infer_ask_val fu ⟨75, s, vs, 1⟩ (i : Int) = some (vAt vs i) := by
  have h0 : infer_ask_val fu ⟨75, s, vs, 1⟩ (i : Int) = if (i : Int) < (vs.length : Int) then ((at? vs (i : Int)).bind fun x3 => some x3) else some zeroVal := rfl
  rw [h0]; unfold vAt
  by_cases h : i < vs.length
  · rw [if_pos (by omega), at?_get h, ob_some, List.getD_eq_getElem?_getD, List.getElem?_eq_getElem h]; rfl
  · rw [if_neg (by omega), List.getD_eq_getElem?_getD, List.getElem?_eq_none (by omega)]; rfl
theorem has_spec {i : Nat} : infer_ask_has fu ⟨75, s, vs, 1⟩ (i : Int) = some (!(decide ((vAt vs i).fType = 0))) := by
  have h0 : infer_ask_has fu ⟨75, s, vs, 1⟩ (i : Int) = (infer_ask_val fu ⟨75, s, vs, 1⟩ (i : Int)).bind fun x3 => some (!(decide (x3.fType = 0))) := rfl
  rw [h0, val_spec]; rfl
theorem dims_spec {i : Nat} : infer_ask_dims fu ⟨75, s, vs, 1⟩ (i : Int) = some (vAt vs i).fDims := by
  have h0 : infer_ask_dims fu ⟨75, s, vs, 1⟩ (i : Int) = (infer_ask_val fu ⟨75, s, vs, 1⟩ (i : Int)).bind fun x3 => some x3.fDims := rfl
  rw [h0, val_spec]; rfl
/-- as many as it takes, and those that must be there -/
def FullV (vs : List T_Val) : Prop := 2 ≤ vs.length ∧ vs.length ≤ 3 ∧ (vAt vs 0).fType ≠ 0 ∧ (vAt vs 1).fType ≠ 0
theorem complete_spec : infer_ask_complete (fu + 3) ⟨75, s, vs, 1⟩ = some (@decide (FullV vs) (Classical.propDecidable _)) := by
  have h : infer_ask_complete (fu + 3) ⟨75, s, vs, 1⟩ = if (vs.length : Int) < 2 then some false else if 3 < (vs.length : Int) then some false else infer_ask_complete.W1 (fu + 3) ⟨75, s, vs, 1⟩ (2, 3, 1, 1) 0 := rfl
  rw [h]
  have no : ¬ FullV vs → @decide (FullV vs) (Classical.propDecidable _) = false := fun h => by simpa using h
  have yes : FullV vs → @decide (FullV vs) (Classical.propDecidable _) = true := fun h => by simpa using h
  by_cases h2 : (vs.length : Int) < 2
  · rw [if_pos h2, no (fun hh => by have := hh.1; omega)]
  rw [if_neg h2]
  by_cases h3 : 3 < (vs.length : Int)
  · rw [if_pos h3, no (fun hh => by have := hh.2.1; omega)]
  rw [if_neg h3]
  unfold infer_ask_complete.W1
  rw [cloop_succ, infer_ask_complete.L1, if_pos (by decide)]
  have a0 := has_spec (fu := fu + 3) (s := s) (vs := vs) (i := 0)
  have a1 := has_spec (fu := fu + 3) (s := s) (vs := vs) (i := 1)
  show (infer_ask_has (fu + 3) ⟨75, s, vs, 1⟩ ((0 : Nat) : Int)).bind _ = _
  rw [a0, ob_some]
  by_cases h0 : (vAt vs 0).fType = 0
  · rw [no (fun hh => hh.2.2.1 h0)]; simp [h0]
  rw [if_pos (by simp [h0]), cloop_succ, show wk .i64 (0 + 1) = 1 from rfl, infer_ask_complete.L1, if_pos (by decide)]
  show (infer_ask_has (fu + 3) ⟨75, s, vs, 1⟩ ((1 : Nat) : Int)).bind _ = _
  rw [a1, ob_some]
  by_cases h1 : (vAt vs 1).fType = 0
  · rw [no (fun hh => hh.2.2.2 h1)]; simp [h1]
  rw [if_pos (by simp [h1]), cloop_succ, yes ⟨by omega, by omega, h0, h1⟩]
  rfl
theorem fits_spec {i : Nat} : infer_ask_fits fu ⟨75, s, vs, 1⟩ (i : Int) 102 = some (decide ((vAt vs i).fType = 1)) := by
  have h0 : infer_ask_fits fu ⟨75, s, vs, 1⟩ (i : Int) 102 = (infer_ask_val fu ⟨75, s, vs, 1⟩ (i : Int)).bind fun x4 => some (decide (x4.fType = 1)) := rfl
  rw [h0, val_spec]; rfl
theorem width_one {k : Int} : tens_Width fu k = some (if k = 1 then 4 else if k = 7 then 8 else if k = 9 then 1 else 0) := by
  unfold tens_Width; repeat' split
  all_goals rfl
def TypedV (vs : List T_Val) : Prop := ∀ v ∈ vs, v.fType = 0 ∨ v.fType = 1
instance (vs : List T_Val) : Decidable (TypedV vs) := by unfold TypedV; infer_instance
theorem sort_at {k : Nat} : sat? (⟨#[102]⟩ : ByteArray) (imin (k : Int) (wk .i64 (((⟨#[102]⟩ : ByteArray).size : Int) - 1))) = some 102 := by
  have : imin (k : Int) (wk .i64 (((⟨#[102]⟩ : ByteArray).size : Int) - 1)) = 0 := by
    show imin (k : Int) 0 = 0
    unfold imin; split <;> omega
  rw [this]; rfl
theorem vAt_get {k : Nat} (hk : k < vs.length) : vAt vs k = vs[k] := by
  unfold vAt; rw [List.getD_eq_getElem?_getD, List.getElem?_eq_getElem hk]; rfl
theorem typed_spec (hl : vs.length ≤ 1048576) (hf : vs.length < fu) : infer_ask_typed fu ⟨75, s, vs, 1⟩ = some (decide (TypedV vs)) := by
  have h : infer_ask_typed fu ⟨75, s, vs, 1⟩ = infer_ask_typed.W1 fu ⟨75, s, vs, 1⟩ ⟨#[102]⟩ 0 := rfl
  rw [h]
  unfold infer_ask_typed.W1
  refine (cloop_ind (fun (i : Int) => some (decide (TypedV (vs.drop i.toNat)))) (fun i => 0 ≤ i ∧ i ≤ vs.length) (fun i => vs.length - i.toNat) ?_ fu 0 (by simp) (by simp; omega)).trans (by simp)
  rintro i ⟨h0, h1⟩ next hn
  obtain ⟨k, rfl⟩ := Int.eq_ofNat_of_zero_le h0
  show infer_ask_typed.L1 fu ⟨75, s, vs, 1⟩ ⟨#[102]⟩ next ((k : Nat) : Int) = _
  rw [infer_ask_typed.L1]
  simp only [Int.toNat_natCast]
  by_cases hk : k < vs.length
  · rw [if_pos (show ((k : Nat) : Int) < (vs.length : Int) by omega), has_spec, ob_some, val_spec, ob_some, width_one, ob_some, sort_at, ob_some, fits_spec, ob_some, wk_succ (by omega), hn _ (by omega) (by simp; omega), vAt_get hk]
    simp only [Int.toNat_natCast]
    have ht : TypedV (vs.drop k) ↔ (vs[k].fType = 0 ∨ vs[k].fType = 1) ∧ TypedV (vs.drop (k + 1)) := by
      have e := List.drop_eq_getElem_cons hk
      generalize vs.drop (k + 1) = w at *
      generalize vs[k] = x at *
      rw [e]
      unfold TypedV
      exact List.forall_mem_cons
    by_cases e0 : vs[k].fType = 0
    · rw [if_neg (by simp [e0])]
      congr 1
      exact decide_eq_decide.2 ⟨fun h => ht.2 ⟨.inl e0, h⟩, fun h => (ht.1 h).2⟩
    · rw [if_pos (by simp [e0])]
      by_cases e1 : vs[k].fType = 1
      · rw [if_neg (by rw [if_pos e1]; decide), if_pos (by simp [e1])]
        congr 1
        exact decide_eq_decide.2 ⟨fun h => ht.2 ⟨.inr e1, h⟩, fun h => (ht.1 h).2⟩
      · have hno : decide (TypedV (vs.drop k)) = false := decide_eq_false fun h => ((ht.1 h).1).elim e0 e1
        rw [hno, if_neg (show ¬ decide (vs[k].fType = 1) = true by simp [e1])]
        exact ite_self _
  · have hv : TypedV (vs.drop k) := by rw [List.drop_of_length_le (by omega)]; intro v hv; cases hv
    rw [if_neg (show ¬ ((k : Nat) : Int) < (vs.length : Int) by omega), decide_eq_true hv]; rfl
theorem many_spec {l : List Int} {n : Nat} : infer_many fu l (n : Int) = some (decide (manyV l n)) := by
  unfold infer_many manyV
  by_cases h : l.length = 0
  · rw [if_pos (by omega)]; simp [h]
  · rw [if_neg (by omega)]
    congr 1
    exact decide_eq_decide.2 ⟨fun hh => .inr (by omega), fun hh => by omega⟩
theorem attr_spec : infer_ask_attributes fu ⟨75, s, vs, 1⟩ = some (@decide (AttrOK s) (Classical.propDecidable _)) := by
  have no : ¬ AttrOK s → @decide (AttrOK s) (Classical.propDecidable _) = false := fun h => by simpa using h
  have yes : AttrOK s → @decide (AttrOK s) (Classical.propDecidable _) = true := fun h => by simpa using h
  have h0 : infer_ask_attributes fu ⟨75, s, vs, 1⟩ = (infer_ask_dims fu ⟨75, s, vs, 1⟩ ((0 : Nat) : Int)).bind fun _ => if 1 ≤ s.fGroup then (if s.fGroup ≤ 4096 then ((infer_many fu s.fKernel ((2 : Nat) : Int)).bind fun x3 => if x3 = true then
    (((infer_many fu s.fStrides ((2 : Nat) : Int)).bind fun x2 => if x2 = true then ((infer_many fu s.fDilations ((2 : Nat) : Int)).bind fun x3 => if x3 = true then ((infer_many fu s.fPads ((4 : Nat) : Int)).bind fun x4 => some x4) else some false) else some false).bind fun x4 => some x4) else some false) else some false) else some false := by
    have e : infer_ask_attributes fu ⟨75, s, vs, 1⟩ = ((infer_ask_dims fu ⟨75, s, vs, 1⟩ ((0 : Nat) : Int)).bind fun d => some (d.length : Int)).bind fun _ => infer_ask_attributes.k2 fu ⟨75, s, vs, 1⟩ := rfl
    rw [e, dims_spec]; rfl
  rw [h0, dims_spec, ob_some]
  simp only [many_spec, ob_some]
  by_cases a : 1 ≤ s.fGroup
  · rw [if_pos a]
    by_cases b : s.fGroup ≤ 4096
    · rw [if_pos b]
      by_cases c : manyV s.fKernel 2
      · rw [if_pos (decide_eq_true c)]
        by_cases d : manyV s.fStrides 2
        · rw [if_pos (decide_eq_true d)]
          by_cases e : manyV s.fDilations 2
          · rw [if_pos (decide_eq_true e), ob_some]
            by_cases f : manyV s.fPads 4
            · rw [yes ⟨a, b, c, d, e, f⟩, decide_eq_true f]
            · rw [no (fun h => f h.pad), decide_eq_false f]
          · rw [if_neg (by simpa using e), no (fun h => e h.dil)]; rfl
        · rw [if_neg (by simpa using d), no (fun h => d h.str)]; rfl
      · rw [if_neg (by simpa using c), no (fun h => c h.ker)]
    · rw [if_neg b, no (fun h => b h.g1)]
  · rw [if_neg a, no (fun h => a h.g0)]
theorem told_spec : infer_ask_told (fu + 3) ⟨75, s, vs, 1⟩ = some 0 := rfl
/-- values whose dims may be -/
def SizedV (vs : List T_Val) : Prop := ∀ v ∈ vs, (v.fType = 0 ∧ v.fDims = []) ∨ Good v.fDims
theorem wrong_spec (hs : SizedV vs) (hl : vs.length ≤ 1048576) (hf : vs.length + 20 < fu + 3) : infer_ask_wrong (fu + 3) ⟨75, s, vs, 1⟩ = some (if TypedV vs then (if @decide (AttrOK s) (Classical.propDecidable _) = true then 0 else 14) else 5) := by
  have h : infer_ask_wrong (fu + 3) ⟨75, s, vs, 1⟩ = infer_ask_wrong.W1 (fu + 3) ⟨75, s, vs, 1⟩ 0 := rfl
  rw [h]
  unfold infer_ask_wrong.W1
  have hk1 : infer_ask_wrong.k1 (fu + 3) ⟨75, s, vs, 1⟩ = some (if TypedV vs then (if @decide (AttrOK s) (Classical.propDecidable _) = true then 0 else 14) else 5) := by
    have e : infer_ask_wrong.k1 (fu + 3) ⟨75, s, vs, 1⟩ = (infer_ask_typed (fu + 3) ⟨75, s, vs, 1⟩).bind fun x2 => if x2 = true then ((infer_ask_attributes (fu + 3) ⟨75, s, vs, 1⟩).bind fun x3 => if x3 = true then ((infer_ask_told (fu + 3) ⟨75, s, vs, 1⟩).bind fun x4 => some x4) else some 14) else some 5 := rfl
    rw [e, typed_spec hl (by omega), ob_some, attr_spec, ob_some, told_spec, ob_some]
    by_cases ht : TypedV vs
    · rw [if_pos (decide_eq_true ht), if_pos ht]; split <;> rfl
    · rw [if_neg (by simpa using ht), if_neg ht]
  refine cloop_ind (fun (i : Int) => some (if TypedV vs then (if @decide (AttrOK s) (Classical.propDecidable _) = true then 0 else 14) else 5)) (fun i => 0 ≤ i ∧ i ≤ vs.length) (fun i => vs.length - i.toNat) ?_ (fu + 3) 0 (by simp) (by simp; omega)
  rintro i ⟨h0, h1⟩ next hn
  obtain ⟨k, rfl⟩ := Int.eq_ofNat_of_zero_le h0
  show infer_ask_wrong.L1 (fu + 3) ⟨75, s, vs, 1⟩ next ((k : Nat) : Int) = _
  rw [infer_ask_wrong.L1]
  by_cases hk : k < vs.length
  · have hd := hs _ (List.getElem_mem hk)
    rw [if_pos (show ((k : Nat) : Int) < (vs.length : Int) by omega)]
    show (at? vs ((k : Nat) : Int)).bind _ = _
    rw [at?_get hk, ob_some]
    show (shape_Size (fu + 3) vs[k].fDims).bind _ = _
    have hg : Good vs[k].fDims := by
      rcases hd with hd | hd
      · rw [hd.2]; exact ⟨by simp, fun (x : Int) (hx : x ∈ []) => absurd hx (by simp), by simp [prod]⟩
      · exact hd
    have hg1 := hg.1
    rw [Size_spec (by unfold Short; omega) (by omega), ob_some]
    show (infer_ask_has (fu + 3) ⟨75, s, vs, 1⟩ ((k : Nat) : Int)).bind _ = _
    rw [has_spec, ob_some, sizeV, if_pos hg, if_pos rfl, wk_succ (by omega), hn _ (by omega) (by simp; omega)]
    split <;> rfl
  · rw [if_neg (show ¬ ((k : Nat) : Int) < (vs.length : Int) by omega)]; exact hk1
end
end Go.Av
set_option linter.unusedVariables false
namespace Go.Av
theorem four_of {l : List Int} (h : l.length = 4) : ∃ a b c d, l = [a, b, c, d] := by
  match l, h with
  | [a, b, c, d], _ => exact ⟨a, b, c, d, rfl⟩
/-- a convolution that may be -/
structure ConvC (s : T_Setting) (vs : List T_Val) (x0 x1 x2 x3 y0 y1 y2 y3 : Int) : Prop where
  dx : (vAt vs 0).fDims = [x0, x1, x2, x3]
  dy : (vAt vs 1).fDims = [y0, y1, y2, y3]
  x1n : x1 ≠ 0
  y0n : y0 ≠ 0
  gx : Int.tmod x1 s.fGroup = 0
  gy : Int.tmod y0 s.fGroup = 0
  ch : y1 = wk .i64 (Int.tdiv x1 s.fGroup)
  bias : (vAt vs 2).fType ≠ 0 → (vAt vs 2).fDims = [y0]
  ker : s.fKernel.length = 0 ∨ s.fKernel = [y2, y3]
  w0 : (winA s 0 x2 y2).2.2 = 0
  w1 : (winA s 1 x3 y3).2.2 = 0
section
variable {fu : Nat} {s : T_Setting} {vs : List T_Val}
theorem win_step {x2 x3 k0 k1 a b : Int} {nx : List Int → Int → Option (List Int × Bool)} {l : List Int} {i : Nat} {sz k : Int} (hA : AttrOK s) (hd : (vAt vs 0).fDims = [a, b, x2, x3]) (hi : i < 2) (hsz : [x2, x3][i]? = some sz) (hk : [k0, k1][i]? = some k) (hl : l.length ≤ 100) (hf : 20 < fu) :
    infer_ask_windows.L1 fu ⟨75, s, vs, 1⟩ [k0, k1] nx l (i : Int) = if (winA s i sz k).2.2 = 0 then nx (l ++ [(winA s i sz k).1]) ((i + 1 : Nat) : Int) else some ([], false) := by
  have e1 : wk .i64 (2 + (i : Int)) = ((2 + i : Nat) : Int) := by rw [wk_eq (by omega) (by omega)]; omega
  have h0 : infer_ask_windows.L1 fu ⟨75, s, vs, 1⟩ [k0, k1] nx l (i : Int) = if (i : Int) < 2 then ((infer_ask_dims fu ⟨75, s, vs, 1⟩ ((0 : Nat) : Int)).bind fun x21 => (at? x21 (wk .i64 (2 + (i : Int)))).bind fun x22 => (at? [k0, k1] (i : Int)).bind fun x23 => (infer_number fu s.fStrides (i : Int) 1).bind fun x24 => (infer_number fu s.fDilations (i : Int) 1).bind fun x25 => (infer_number fu s.fPads (i : Int) 0).bind fun x26 => (infer_number fu s.fPads (wk .i64 (2 + (i : Int))) 0).bind fun x27 => (infer_Window fu x22 x23 x24 x25 x26 x27 s.fAuto s.fCeil).bind fun x28 => if x28.2.2 = 0 then (chk ((l.length + 1 : Int) * 8 ≤ 140737488355328) <| nx (l ++ ([x28.1])) (wk .i64 ((i : Int) + 1))) else some ([], false)) else some (l, true) := rfl
  have e2 : at? [a, b, x2, x3] ((2 + i : Nat) : Int) = some sz := by
    rw [at?_nat]
    have : [a, b, x2, x3][2 + i]? = [x2, x3][i]? := by rw [Nat.add_comm]; rfl
    rw [this, hsz]
  rw [h0, if_pos (by omega), dims_spec, ob_some, hd, e1, e2, ob_some, at?_nat, hk, ob_some, num_spec hA.str hi, ob_some, num_spec hA.dil hi, ob_some, num_spec hA.pad (by omega), ob_some, num_spec hA.pad (by omega), ob_some, Window_spec hf, ob_some, wk_succ (by omega)]
  unfold winA
  split
  · rw [chk_pos (by omega)]
  · rfl
theorem windows_spec {x2 x3 k0 k1 a b : Int} (hA : AttrOK s) (hd : (vAt vs 0).fDims = [a, b, x2, x3]) (hf : 20 < fu) :
    infer_ask_windows fu ⟨75, s, vs, 1⟩ [k0, k1] = some (if (winA s 0 x2 k0).2.2 = 0 then (if (winA s 1 x3 k1).2.2 = 0 then ([(winA s 0 x2 k0).1, (winA s 1 x3 k1).1], true) else ([], false)) else ([], false)) := by
  obtain ⟨f, rfl⟩ : ∃ f, fu = f + 3 := ⟨fu - 3, by omega⟩
  have h : infer_ask_windows (f + 3) ⟨75, s, vs, 1⟩ [k0, k1] = infer_ask_windows.W1 (f + 3) ⟨75, s, vs, 1⟩ [k0, k1] [] 0 := rfl
  rw [h]
  unfold infer_ask_windows.W1
  rw [cloop_succ]
  show infer_ask_windows.L1 (f + 3) ⟨75, s, vs, 1⟩ [k0, k1] _ [] ((0 : Nat) : Int) = _
  rw [win_step (sz := x2) (k := k0) hA hd (by decide) rfl rfl (by simp) hf]
  by_cases h0 : (winA s 0 x2 k0).2.2 = 0
  · rw [if_pos h0, if_pos h0, cloop_succ]
    show infer_ask_windows.L1 (f + 3) ⟨75, s, vs, 1⟩ [k0, k1] _ [(winA s 0 x2 k0).1] ((1 : Nat) : Int) = _
    rw [win_step (sz := x3) (k := k1) hA hd (by decide) rfl rfl (by simp) hf]
    by_cases h1 : (winA s 1 x3 k1).2.2 = 0
    · rw [if_pos h1, if_pos h1, cloop_succ]; rfl
    · rw [if_neg h1, if_neg h1]
  · rw [if_neg h0, if_neg h0]
/-- behind the checks of the dims -/
theorem conv_k2 {x0 x1 x2 x3 y0 y1 y2 y3 : Int} (hA : AttrOK s) (hd : (vAt vs 0).fDims = [x0, x1, x2, x3]) (hf : 20 < fu) :
    infer_ask_conv.k2 fu ⟨75, s, vs, 1⟩ [x0, x1, x2, x3] [y0, y1, y2, y3] = some (if (winA s 0 x2 y2).2.2 = 0 ∧ (winA s 1 x3 y3).2.2 = 0 then ([[x0, y0, (winA s 0 x2 y2).1, (winA s 1 x3 y3).1]], 0) else ([], 3)) := by
  have h0 : infer_ask_conv.k2 fu ⟨75, s, vs, 1⟩ [x0, x1, x2, x3] [y0, y1, y2, y3] = (infer_ask_windows fu ⟨75, s, vs, 1⟩ [y2, y3]).bind fun x4 => if x4.2 = true then ((at? x4.1 0).bind fun x7 => (at? x4.1 1).bind fun x8 => some ([[x0, y0, x7, x8]], 0)) else some ([], 3) := rfl
  rw [h0, windows_spec hA hd hf, ob_some]
  by_cases h1 : (winA s 0 x2 y2).2.2 = 0
  · by_cases h2 : (winA s 1 x3 y3).2.2 = 0
    · rw [if_pos h1, if_pos h2, if_pos (show ((([(winA s 0 x2 y2).1, (winA s 1 x3 y3).1], true) : List Int × Bool).2 = true) from rfl), if_pos (show _ ∧ _ from ⟨h1, h2⟩)]; rfl
    · rw [if_pos h1, if_neg h2, if_neg (by decide), if_neg (fun h => h2 h.2)]
  · rw [if_neg h1, if_neg (by decide), if_neg (fun h => h1 h.1)]
theorem conv_k1 {x0 x1 x2 x3 y0 y1 y2 y3 : Int} (hA : AttrOK s) (hd : (vAt vs 0).fDims = [x0, x1, x2, x3]) (hf : 20 < fu) (hb : (vAt vs 2).fDims.length < fu) (hb2 : (vAt vs 2).fDims.length ≤ 1048576) :
    infer_ask_conv.k1 fu ⟨75, s, vs, 1⟩ [x0, x1, x2, x3] [y0, y1, y2, y3] = if ((vAt vs 2).fType ≠ 0 → (vAt vs 2).fDims = [y0]) ∧ (s.fKernel.length = 0 ∨ s.fKernel = [y2, y3]) then infer_ask_conv.k2 fu ⟨75, s, vs, 1⟩ [x0, x1, x2, x3] [y0, y1, y2, y3] else some ([], 3) := by
  have h0 : infer_ask_conv.k1 fu ⟨75, s, vs, 1⟩ [x0, x1, x2, x3] [y0, y1, y2, y3] = (infer_ask_has fu ⟨75, s, vs, 1⟩ ((2 : Nat) : Int)).bind fun x11 => if x11 = true then ((infer_ask_dims fu ⟨75, s, vs, 1⟩ ((2 : Nat) : Int)).bind fun x12 =>
      (slices_Equal_int fu x12 [y0]).bind fun x13 => if x13 = true then (if 0 < (s.fKernel.length : Int) then ((slices_Equal_int fu s.fKernel [y2, y3]).bind fun x14 => if x14 = true then (infer_ask_conv.k2 fu ⟨75, s, vs, 1⟩ [x0, x1, x2, x3] [y0, y1, y2, y3]) else some ([], 3)) else infer_ask_conv.k2 fu ⟨75, s, vs, 1⟩ [x0, x1, x2, x3] [y0, y1, y2, y3]) else some ([], 3)) else
      if 0 < (s.fKernel.length : Int) then ((slices_Equal_int fu s.fKernel [y2, y3]).bind fun x17 => if x17 = true then (infer_ask_conv.k2 fu ⟨75, s, vs, 1⟩ [x0, x1, x2, x3] [y0, y1, y2, y3]) else some ([], 3)) else infer_ask_conv.k2 fu ⟨75, s, vs, 1⟩ [x0, x1, x2, x3] [y0, y1, y2, y3] := rfl
  have hkl : s.fKernel.length ≤ 2 := by rcases hA.ker with h | h <;> omega
  have hk : ∀ z : Option (List (List Int) × Int), (if 0 < (s.fKernel.length : Int) then ((slices_Equal_int fu s.fKernel [y2, y3]).bind fun x17 => if x17 = true then z else some ([], 3)) else z) = if s.fKernel.length = 0 ∨ s.fKernel = [y2, y3] then z else some ([], 3) := fun z => by
    by_cases h1 : s.fKernel.length = 0
    · rw [if_neg (by omega), if_pos (.inl h1)]
    · rw [if_pos (by omega), Equal_spec (by unfold Short; omega) (by omega), ob_some]
      by_cases h2 : s.fKernel = [y2, y3]
      · rw [if_pos (decide_eq_true h2), if_pos (.inr h2)]
      · rw [if_neg (by simpa using h2), if_neg (fun h => h.elim h1 h2)]
  rw [h0, has_spec, ob_some]
  simp only [hk]
  by_cases h2 : (vAt vs 2).fType = 0
  · rw [if_neg (by simp [h2])]
    by_cases h3 : s.fKernel.length = 0 ∨ s.fKernel = [y2, y3]
    · rw [if_pos h3, if_pos ⟨fun h => absurd h2 h, h3⟩]
    · rw [if_neg h3, if_neg (fun h => h3 h.2)]
  · rw [if_pos (by simp [h2]), dims_spec, ob_some, Equal_spec (by unfold Short; omega) hb, ob_some]
    by_cases h4 : (vAt vs 2).fDims = [y0]
    · rw [if_pos (decide_eq_true h4)]
      by_cases h3 : s.fKernel.length = 0 ∨ s.fKernel = [y2, y3]
      · rw [if_pos h3, if_pos ⟨fun _ => h4, h3⟩]
      · rw [if_neg h3, if_neg (fun h => h3 h.2)]
    · rw [if_neg (by simpa using h4), if_neg (fun h => h4 (h.1 h2))]
theorem conv_four {x0 x1 x2 x3 y0 y1 y2 y3 : Int} (hA : AttrOK s) (hd : (vAt vs 0).fDims = [x0, x1, x2, x3]) (hy : (vAt vs 1).fDims = [y0, y1, y2, y3]) :
    infer_ask_conv fu ⟨75, s, vs, 1⟩ = if x1 ≠ 0 ∧ y0 ≠ 0 ∧ Int.tmod x1 s.fGroup = 0 ∧ Int.tmod y0 s.fGroup = 0 ∧ y1 = wk .i64 (Int.tdiv x1 s.fGroup) then infer_ask_conv.k1 fu ⟨75, s, vs, 1⟩ [x0, x1, x2, x3] [y0, y1, y2, y3] else some ([], 3) := by
  have h0 : infer_ask_conv fu ⟨75, s, vs, 1⟩ = (infer_ask_dims fu ⟨75, s, vs, 1⟩ ((0 : Nat) : Int)).bind fun x2 => (infer_ask_dims fu ⟨75, s, vs, 1⟩ ((1 : Nat) : Int)).bind fun x3 => if (x2.length : Int) = 4 then (if (x3.length : Int) = 4 then ((at? x2 1).bind fun x19 => if x19 = 0 then some ([], 3) else (at? x3 0).bind fun x21 => if x21 = 0 then some ([], 3) else chk (s.fGroup ≠ 0) <| if (Int.tmod x19 s.fGroup) = 0 then (if (Int.tmod x21 s.fGroup) = 0 then ((at? x3 1).bind fun x23 => if x23 = (wk .i64 (Int.tdiv x19 s.fGroup)) then (infer_ask_conv.k1 fu ⟨75, s, vs, 1⟩ x2 x3) else some ([], 3)) else some ([], 3)) else some ([], 3)) else some ([], 3)) else some ([], 3) := rfl
  rw [h0, dims_spec, ob_some, dims_spec, ob_some, hd, hy, if_pos (show (([x0, x1, x2, x3] : List Int).length : Int) = 4 from rfl), if_pos (show (([y0, y1, y2, y3] : List Int).length : Int) = 4 from rfl)]
  show (some x1).bind _ = _
  rw [ob_some]
  by_cases c1 : x1 = 0
  · rw [if_pos c1, if_neg (fun h => h.1 c1)]
  rw [if_neg c1]
  show (some y0).bind _ = _
  rw [ob_some]
  by_cases c2 : y0 = 0
  · rw [if_pos c2, if_neg (fun h => h.2.1 c2)]
  have g0 := hA.g0
  rw [if_neg c2, chk_pos (by omega)]
  by_cases c3 : Int.tmod x1 s.fGroup = 0
  · rw [if_pos c3]
    by_cases c4 : Int.tmod y0 s.fGroup = 0
    · rw [if_pos c4]
      show (some y1).bind _ = _
      rw [ob_some]
      by_cases c5 : y1 = wk .i64 (Int.tdiv x1 s.fGroup)
      · rw [if_pos c5, if_pos ⟨c1, c2, c3, c4, c5⟩]
      · rw [if_neg c5, if_neg (fun h => c5 h.2.2.2.2)]
    · rw [if_neg c4, if_neg (fun h => c4 h.2.2.2.1)]
  · rw [if_neg c3, if_neg (fun h => c3 h.2.2.1)]
theorem conv_fwd {x0 x1 x2 x3 y0 y1 y2 y3 : Int} (hA : AttrOK s) (h : ConvC s vs x0 x1 x2 x3 y0 y1 y2 y3) (hf : 20 < fu) (hb : (vAt vs 2).fDims.length < fu) (hb2 : (vAt vs 2).fDims.length ≤ 1048576) :
    infer_ask_conv fu ⟨75, s, vs, 1⟩ = some ([[x0, y0, (winA s 0 x2 y2).1, (winA s 1 x3 y3).1]], 0) := by
  rw [conv_four hA h.dx h.dy, if_pos ⟨h.x1n, h.y0n, h.gx, h.gy, h.ch⟩, conv_k1 hA h.dx hf hb hb2, if_pos ⟨h.bias, h.ker⟩, conv_k2 hA h.dx hf, if_pos ⟨h.w0, h.w1⟩]
theorem conv_tot (hA : AttrOK s) (hf : 20 < fu) (hb : (vAt vs 2).fDims.length < fu) (hb2 : (vAt vs 2).fDims.length ≤ 1048576) :
    infer_ask_conv fu ⟨75, s, vs, 1⟩ = some ([], 3) ∨ ∃ x0 x1 x2 x3 y0 y1 y2 y3, ConvC s vs x0 x1 x2 x3 y0 y1 y2 y3 := by
  have h0 : infer_ask_conv fu ⟨75, s, vs, 1⟩ = (infer_ask_dims fu ⟨75, s, vs, 1⟩ ((0 : Nat) : Int)).bind fun x2 => (infer_ask_dims fu ⟨75, s, vs, 1⟩ ((1 : Nat) : Int)).bind fun x3 => if (x2.length : Int) = 4 then (if (x3.length : Int) = 4 then ((at? x2 1).bind fun x19 => if x19 = 0 then some ([], 3) else (at? x3 0).bind fun x21 => if x21 = 0 then some ([], 3) else chk (s.fGroup ≠ 0) <| if (Int.tmod x19 s.fGroup) = 0 then (if (Int.tmod x21 s.fGroup) = 0 then ((at? x3 1).bind fun x23 => if x23 = (wk .i64 (Int.tdiv x19 s.fGroup)) then (infer_ask_conv.k1 fu ⟨75, s, vs, 1⟩ x2 x3) else some ([], 3)) else some ([], 3)) else some ([], 3)) else some ([], 3)) else some ([], 3) := rfl
  by_cases l0 : (vAt vs 0).fDims.length = 4
  · by_cases l1 : (vAt vs 1).fDims.length = 4
    · obtain ⟨x0, x1, x2, x3, hx⟩ := four_of l0
      obtain ⟨y0, y1, y2, y3, hy⟩ := four_of l1
      by_cases c1 : x1 ≠ 0 ∧ y0 ≠ 0 ∧ Int.tmod x1 s.fGroup = 0 ∧ Int.tmod y0 s.fGroup = 0 ∧ y1 = wk .i64 (Int.tdiv x1 s.fGroup)
      · by_cases c2 : ((vAt vs 2).fType ≠ 0 → (vAt vs 2).fDims = [y0]) ∧ (s.fKernel.length = 0 ∨ s.fKernel = [y2, y3])
        · by_cases c3 : (winA s 0 x2 y2).2.2 = 0 ∧ (winA s 1 x3 y3).2.2 = 0
          · exact .inr ⟨x0, x1, x2, x3, y0, y1, y2, y3, ⟨hx, hy, c1.1, c1.2.1, c1.2.2.1, c1.2.2.2.1, c1.2.2.2.2, c2.1, c2.2, c3.1, c3.2⟩⟩
          · left; rw [conv_four hA hx hy, if_pos c1, conv_k1 hA hx hf hb hb2, if_pos c2, conv_k2 hA hx hf, if_neg c3]
        · left; rw [conv_four hA hx hy, if_pos c1, conv_k1 hA hx hf hb hb2, if_neg c2]
      · left; rw [conv_four hA hx hy, if_neg c1]
    · left; rw [h0, dims_spec, ob_some, dims_spec, ob_some, if_neg (c := (((vAt vs 1).fDims.length : Nat) : Int) = 4) (by omega)]; exact ite_self _
  · left; rw [h0, dims_spec, ob_some, dims_spec, ob_some, if_neg (by omega)]
end
end Go.Av
set_option linter.unusedVariables false
namespace Go.Av
def dimsC (s : T_Setting) (x0 x2 x3 y0 y2 y3 : Int) : List Int := [x0, y0, (winA s 0 x2 y2).1, (winA s 1 x3 y3).1]
/-- all that makes a convolution's output -/
structure NodeC (s : T_Setting) (vs : List T_Val) (x0 x1 x2 x3 y0 y1 y2 y3 : Int) : Prop where
  full : FullV vs
  typed : TypedV vs
  attr : AttrOK s
  conv : ConvC s vs x0 x1 x2 x3 y0 y1 y2 y3
  good : Good (dimsC s x0 x2 x3 y0 y2 y3)
section
variable {fu : Nat} {s : T_Setting} {vs : List T_Val}
theorem vAt_type (ht : TypedV vs) (i : Nat) : (vAt vs i).fType = 0 ∨ (vAt vs i).fType = 1 := by
  by_cases h : i < vs.length
  · rw [vAt_get h]; exact ht _ (List.getElem_mem h)
  · left; unfold vAt; rw [List.getD_eq_getElem?_getD, List.getElem?_eq_none (by omega)]; rfl
theorem bias_len (hs : SizedV vs) (i : Nat) : (vAt vs i).fDims.length ≤ 8 := by
  by_cases h : i < vs.length
  · rw [vAt_get h]
    rcases hs _ (List.getElem_mem h) with hd | hd
    · rw [hd.2]; simp
    · exact hd.1
  · unfold vAt; rw [List.getD_eq_getElem?_getD, List.getElem?_eq_none (by omega)]; simp [zeroVal]
theorem Node_eq : infer_Node (fu + 3) 75 s vs 1 = (infer_ask_complete (fu + 3) ⟨75, s, vs, 1⟩).bind fun x5 => if x5 = true then ((infer_ask_wrong (fu + 3) ⟨75, s, vs, 1⟩).bind fun x6 => if x6 = 0 then
    (((infer_ask_dims (fu + 3) ⟨75, s, vs, 1⟩ ((0 : Nat) : Int)).bind fun _ => (infer_ask_conv (fu + 3) ⟨75, s, vs, 1⟩).bind fun x3 => some (x3.1, x3.2)).bind fun x7 => if x7.2 = 0 then (infer_Node.W1 (fu + 3) s vs 1 x7 ([] : List T_Val) 0) else some ([], x7.2)) else some ([], x6)) else some ([], 1) := rfl
theorem Node_W1 {d : List Int} (hd : d.length ≤ 100) (hf : 200 < fu) : infer_Node.W1 (fu + 3) s vs 1 ([d], 0) [] 0 = if Good d then some ([⟨(vAt vs 0).fType, d, false, ⟨0, [], [], [], []⟩⟩], 0) else some ([], 4) := by
  unfold infer_Node.W1
  rw [cloop_succ]
  show infer_Node.L1 (fu + 3) s vs 1 ([d], 0) _ [] 0 = _
  rw [infer_Node.L1, if_pos (show (0 : Int) < ((([d], 0) : List (List Int) × Int).1.length : Int) by simp)]
  show (some d).bind _ = _
  rw [ob_some, Size_spec (by unfold Short; omega) (by omega), ob_some]
  by_cases hg : Good d
  · have ho : infer_ask_out (fu + 3) (T_infer_ask.mk 75 s vs 1) = (infer_ask_val (fu + 3) ⟨75, s, vs, 1⟩ ((0 : Nat) : Int)).bind fun x2 => some x2.fType := rfl
    rw [sizeV, if_pos hg, if_pos rfl, ho, val_spec, ob_some, ob_some, CloneI_spec (by omega), ob_some, chk_pos (by simp), cloop_succ, if_pos hg]
    rfl
  · rw [sizeV, if_neg hg, if_neg (errS_ne d), if_neg hg]
theorem Node_fwd {x0 x1 x2 x3 y0 y1 y2 y3 : Int} (h : NodeC s vs x0 x1 x2 x3 y0 y1 y2 y3) (hs : SizedV vs) (hf : 200 < fu) :
    infer_Node (fu + 3) 75 s vs 1 = some ([⟨1, dimsC s x0 x2 x3 y0 y2 y3, false, ⟨0, [], [], [], []⟩⟩], 0) := by
  have hl := h.full.2.1
  have hb := bias_len hs 2
  have t0 : (vAt vs 0).fType = 1 := (vAt_type h.typed 0).resolve_left h.full.2.2.1
  have c1 : @decide (FullV vs) (Classical.propDecidable _) = true := by simpa using h.full
  have c2 : @decide (AttrOK s) (Classical.propDecidable _) = true := by simpa using h.attr
  rw [Node_eq, complete_spec, ob_some, c1, if_pos rfl, wrong_spec hs (by omega) (by omega), ob_some, c2, if_pos h.typed, if_pos rfl, if_pos rfl, dims_spec, ob_some, conv_fwd h.attr h.conv (by omega) (by omega) (by omega), ob_some, ob_some, if_pos rfl, Node_W1 (by simp) hf]
  have := h.good
  unfold dimsC at this ⊢
  rw [if_pos this, t0]
theorem Node_tot (hs : SizedV vs) (hl : vs.length ≤ 1048576) (hf : vs.length + 200 < fu) :
    (∃ e, e ≠ 0 ∧ infer_Node (fu + 3) 75 s vs 1 = some ([], e)) ∨ ∃ x0 x1 x2 x3 y0 y1 y2 y3, NodeC s vs x0 x1 x2 x3 y0 y1 y2 y3 := by
  have hb := bias_len hs 2
  by_cases c1 : FullV vs
  · have d1 : @decide (FullV vs) (Classical.propDecidable _) = true := by simpa using c1
    have hw := wrong_spec (fu := fu) (s := s) hs hl (by omega)
    by_cases c2 : TypedV vs
    · rw [if_pos c2] at hw
      by_cases c3 : AttrOK s
      · have d3 : @decide (AttrOK s) (Classical.propDecidable _) = true := by simpa using c3
        rw [if_pos d3] at hw
        rcases conv_tot (fu := fu + 3) (vs := vs) c3 (by omega) (by omega) (by omega) with h | ⟨x0, x1, x2, x3, y0, y1, y2, y3, h⟩
        · left
          refine ⟨3, by decide, ?_⟩
          rw [Node_eq, complete_spec, ob_some, d1, if_pos rfl, hw, ob_some, if_pos rfl, dims_spec, ob_some, h, ob_some, ob_some, if_neg (by decide)]
        · by_cases hg : Good (dimsC s x0 x2 x3 y0 y2 y3)
          · exact .inr ⟨x0, x1, x2, x3, y0, y1, y2, y3, ⟨c1, c2, c3, h, hg⟩⟩
          · left
            refine ⟨4, by decide, ?_⟩
            unfold dimsC at hg
            rw [Node_eq, complete_spec, ob_some, d1, if_pos rfl, hw, ob_some, if_pos rfl, dims_spec, ob_some, conv_fwd c3 h (by omega) (by omega) (by omega), ob_some, ob_some, if_pos rfl, Node_W1 (by simp) (by omega), if_neg hg]
      · have d3 : ¬ @decide (AttrOK s) (Classical.propDecidable _) = true := by simpa using c3
        rw [if_neg d3] at hw
        left
        refine ⟨14, by decide, ?_⟩
        rw [Node_eq, complete_spec, ob_some, d1, if_pos rfl, hw, ob_some, if_neg (by decide)]
    · rw [if_neg c2] at hw
      left
      refine ⟨5, by decide, ?_⟩
      rw [Node_eq, complete_spec, ob_some, d1, if_pos rfl, hw, ob_some, if_neg (by decide)]
  · have d1 : ¬ @decide (FullV vs) (Classical.propDecidable _) = true := by simpa using c1
    left
    refine ⟨1, by decide, ?_⟩
    rw [Node_eq, complete_spec, ob_some, if_neg d1]
end
end Go.Av
set_option linter.unusedVariables false
namespace Go.Av
theorem two_lt {a b n m : Nat} (ha : a < n) (hb : b < m) : a * m + b < n * m := by
  have : (a + 1) * m ≤ n * m := Nat.mul_le_mul_right _ ha
  rw [Nat.add_mul] at this; omega
theorem wkn_mul {a b : Nat} (h : a * b ≤ 1000000000000) : wk .i64 ((a : Int) * (b : Int)) = ((a * b : Nat) : Int) := by
  rw [wk_eq (by rw [← Int.natCast_mul]; omega) (by rw [← Int.natCast_mul]; omega)]; exact (Int.natCast_mul _ _).symm
theorem wkn_add {a b : Nat} (h : a + b ≤ 1000000000000) : wk .i64 ((a : Int) + (b : Int)) = ((a + b : Nat) : Int) := by
  rw [wk_eq (by omega) (by omega)]; omega
theorem at_D {l : List Int} {i : Nat} (h : i < l.length) : at? l (i : Int) = some (l.getD i 0) := by
  rw [at?_get h, List.getD_eq_getElem?_getD, List.getElem?_eq_getElem h]; rfl
theorem le_mul_one {a b : Nat} (h : 1 ≤ b) : a ≤ a * b := Nat.le_mul_of_pos_right _ h
/-- one of the two dims that windows go over -/
structure AxOK (ax : T_conv_axis) (sz k : Nat) : Prop where
  size : ax.fsize = (sz : Int)
  ker : ax.fkernel = (k : Int)
  sz1 : sz ≤ 4096
  k1 : k ≤ 4096
  k0 : 1 ≤ k
  s0 : 1 ≤ ax.fstride
  s1 : ax.fstride ≤ 4096
  d0 : 1 ≤ ax.fdilation
  d1 : ax.fdilation ≤ 4096
  a0 : 0 ≤ ax.fahead
  a1 : ax.fahead ≤ 33554432
def posV (ax : T_conv_axis) (w c : Nat) : Int := (w : Int) * ax.fstride + (c : Int) * ax.fdilation - ax.fahead
def inV (ax : T_conv_axis) (w c : Nat) : Bool := decide (0 ≤ posV ax w c ∧ posV ax w c < ax.fsize)
theorem axis_at {fu sz k : Nat} {ax : T_conv_axis} {w c : Nat} (h : AxOK ax sz k) (hw : w ≤ 4096) (hc : c ≤ 4096) : conv_axis_at fu ax (w : Int) (c : Int) = some (posV ax w c, inV ax w c) := by
  unfold conv_axis_at inV
  have s0 := h.s0; have s1 := h.s1; have d0 := h.d0; have d1 := h.d1; have a0 := h.a0; have a1 := h.a1
  obtain ⟨m0, m1⟩ := mul_bounds (a := (w : Int)) (b := ax.fstride) (A := 4096) (B := 4096) (by omega) (by omega) (by omega) s1
  obtain ⟨n0, n1⟩ := mul_bounds (a := (c : Int)) (b := ax.fdilation) (A := 4096) (B := 4096) (by omega) (by omega) (by omega) d1
  have e : wk .i64 (wk .i64 (wk .i64 ((w : Int) * ax.fstride) + wk .i64 ((c : Int) * ax.fdilation)) - ax.fahead) = posV ax w c := by
    unfold posV
    rw [wk_eq (x := (w : Int) * ax.fstride) (by omega) (by omega), wk_eq (x := (c : Int) * ax.fdilation) (by omega) (by omega), wk_eq (x := (w : Int) * ax.fstride + (c : Int) * ax.fdilation) (by omega) (by omega), wk_eq (by omega) (by omega)]
  simp only [e]
  by_cases h0 : 0 ≤ posV ax w c
  · rw [if_pos h0]
    congr 2
    exact decide_eq_decide.2 ⟨fun h => ⟨h0, h⟩, fun h => h.2⟩
  · rw [if_neg h0, decide_eq_false (fun h => h0 h.1)]
/-- the sum of products of pairs -/
def sumOf (s : Int) (l : List (Int × Int)) : Int := l.foldl (fun s p => addV s (mulV p.1 p.2)) s
theorem sumOf_app {s : Int} {a b : List (Int × Int)} : sumOf s (a ++ b) = sumOf (sumOf s a) b := by unfold sumOf; rw [List.foldl_append]
/-- what a convolution works on -/
structure Cv (s : T_Setting) (X Y : T_Tensor) (x0 gr c m H W kh kw : Nat) (h w : T_conv_axis) : Prop where
  dX : X.fDims = [(x0 : Int), ((gr * c : Nat) : Int), (H : Int), (W : Int)]
  dY : Y.fDims = [((gr * m : Nat) : Int), (c : Int), (kh : Int), (kw : Int)]
  lX : X.fF.length = x0 * (gr * c) * H * W
  lY : Y.fF.length = gr * m * c * kh * kw
  bX : X.fF.length ≤ 4096
  bY : Y.fF.length ≤ 4096
  grp : s.fGroup = (gr : Int)
  g0 : 1 ≤ gr
  g1 : gr ≤ 4096
  m0 : 1 ≤ m
  m1 : gr * m ≤ 4096
  c0 : 1 ≤ c
  c1 : gr * c ≤ 4096
  ah : AxOK h H kh
  aw : AxOK w W kw
def cvW (s : T_Setting) (ts : List T_Tensor) (d : List Int) (h w : T_conv_axis) : T_conv_work := ⟨s, ts, d, h, w⟩
def ixV (gr c H W i k m g : Nat) (r t : Int) : Nat := ((i * (gr * c) + (k / m) * c + g) * H + r.toNat) * W + t.toNat
def iyV (c kh kw k g p q : Nat) : Nat := ((k * c + g) * kh + p) * kw + q
/-- the two factors of a cell that is there -/
def cellV (X Y : T_Tensor) (gr c m H W kh kw : Nat) (h w : T_conv_axis) (i k a b g p q : Nat) : Option (Int × Int) :=
  if inV h a p = true ∧ inV w b q = true then some (X.fF.getD (ixV gr c H W i k m g (posV h a p) (posV w b q)) 0, Y.fF.getD (iyV c kh kw k g p q) 0) else none
def rowT (X Y : T_Tensor) (gr c m H W kh kw : Nat) (h w : T_conv_axis) (i k a b g p : Nat) : List (Int × Int) := (List.range kw).filterMap (cellV X Y gr c m H W kh kw h w i k a b g p)
def termsG (X Y : T_Tensor) (gr c m H W kh kw : Nat) (h w : T_conv_axis) (i k a b g : Nat) : List (Int × Int) := (List.range kh).flatMap (rowT X Y gr c m H W kh kw h w i k a b g)
def termsV (X Y : T_Tensor) (gr c m H W kh kw : Nat) (h w : T_conv_axis) (i k a b : Nat) : List (Int × Int) := (List.range c).flatMap (termsG X Y gr c m H W kh kw h w i k a b)
section
variable {fu : Nat} {s : T_Setting} {X Y : T_Tensor} {x0 gr c m H W kh kw : Nat} {h w : T_conv_axis} {i k a b : Nat} {ts : List T_Tensor} {d : List Int}
theorem grp_lt (hm : 1 ≤ m) (hk : k < gr * m) : k / m < gr := Nat.div_lt_of_lt_mul (by rw [Nat.mul_comm]; exact hk)
theorem ix_lt {g : Nat} {r t : Int} (hm : 1 ≤ m) (hi : i < x0) (hk : k < gr * m) (hg : g < c) (hr : 0 ≤ r ∧ r < (H : Int)) (ht : 0 ≤ t ∧ t < (W : Int)) : ixV gr c H W i k m g r t < x0 * (gr * c) * H * W := by
  unfold ixV
  have h1 : k / m * c + g < gr * c := two_lt (grp_lt hm hk) hg
  have h2 : i * (gr * c) + (k / m * c + g) < x0 * (gr * c) := two_lt hi h1
  rw [← Nat.add_assoc] at h2
  exact two_lt (two_lt h2 (by omega)) (by omega)
theorem iy_lt {g p q : Nat} (hk : k < gr * m) (hg : g < c) (hp : p < kh) (hq : q < kw) : iyV c kh kw k g p q < gr * m * c * kh * kw := two_lt (two_lt (two_lt hk hg) hp) hq
/-- the program's numbers for the two places -/
theorem ix_eq {g : Nat} {r t : Int} (E : Cv s X Y x0 gr c m H W kh kw h w) (hi : i < x0) (hk : k < gr * m) (hg : g < c) (hr : 0 ≤ r ∧ r < (H : Int)) (ht : 0 ≤ t ∧ t < (W : Int)) :
    wk .i64 (wk .i64 (wk .i64 (wk .i64 (wk .i64 (wk .i64 (wk .i64 ((i : Int) * ((gr * c : Nat) : Int)) + wk .i64 (wk .i64 (Int.tdiv (k : Int) (wk .i64 (Int.tdiv ((gr * m : Nat) : Int) s.fGroup))) * (c : Int))) + (g : Int)) * (H : Int)) + r) * (W : Int)) + t) = ((ixV gr c H W i k m g r t : Nat) : Int) := by
  have hlt := ix_lt (gr := gr) (c := c) (m := m) (x0 := x0) E.m0 hi hk hg hr ht
  have hX := E.lX; have hb := E.bX; have g0 := E.g0; have m0 := E.m0; have m1 := E.m1
  have mm : m ≤ gr * m := Nat.le_mul_of_pos_left m g0
  have e1 : wk .i64 (Int.tdiv ((gr * m : Nat) : Int) s.fGroup) = (m : Int) := by
    rw [E.grp, Int.tdiv_eq_ediv_of_nonneg (Int.natCast_nonneg _), ← Int.natCast_ediv, Nat.mul_div_cancel_left _ (by omega), wk_eq (by omega) (by omega)]
  have e2 : wk .i64 (Int.tdiv (k : Int) (m : Int)) = ((k / m : Nat) : Int) := by
    have hd := Nat.div_le_self k m
    rw [Int.tdiv_eq_ediv_of_nonneg (Int.natCast_nonneg _), ← Int.natCast_ediv]
    generalize k / m = z at *
    exact wk_eq (by omega) (by omega)
  rw [e1, e2]
  unfold ixV at hlt ⊢
  have hH : 1 ≤ H := by omega
  have hW : 1 ≤ W := by omega
  have hr' : r = ((r.toNat : Nat) : Int) := by omega
  have ht' : t = ((t.toNat : Nat) : Int) := by omega
  have q1 : i * (gr * c) + k / m * c + g ≤ (i * (gr * c) + k / m * c + g) * H := le_mul_one hH
  have q2 : (i * (gr * c) + k / m * c + g) * H + r.toNat ≤ ((i * (gr * c) + k / m * c + g) * H + r.toNat) * W := le_mul_one hW
  rw [wkn_mul (by omega), wkn_mul (by omega), wkn_add (by omega), wkn_add (by omega), wkn_mul (by omega), hr', wkn_add (by omega), wkn_mul (by omega), ht', wkn_add (by omega)]
  simp only [Int.toNat_natCast]
theorem iy_eq {g p q : Nat} (E : Cv s X Y x0 gr c m H W kh kw h w) (hk : k < gr * m) (hg : g < c) (hp : p < kh) (hq : q < kw) :
    wk .i64 (wk .i64 (wk .i64 (wk .i64 (wk .i64 (wk .i64 ((k : Int) * (c : Int)) + (g : Int)) * (kh : Int)) + (p : Int)) * (kw : Int)) + (q : Int)) = ((iyV c kh kw k g p q : Nat) : Int) := by
  have hlt := iy_lt (gr := gr) (c := c) (m := m) hk hg hp hq
  have hY := E.lY; have hb := E.bY
  unfold iyV at hlt ⊢
  have q1 : k * c + g ≤ (k * c + g) * kh := le_mul_one (by omega)
  have q2 : (k * c + g) * kh + p ≤ ((k * c + g) * kh + p) * kw := le_mul_one (by omega)
  rw [wkn_mul (by omega), wkn_add (by omega), wkn_mul (by omega), wkn_add (by omega), wkn_mul (by omega), wkn_add (by omega)]
theorem filterMap_succ {β : Type} {f : Nat → Option β} {n : Nat} : (List.range (n + 1)).filterMap f = (List.range n).filterMap f ++ (f n).toList := by
  rw [List.range_succ, List.filterMap_append]
  congr 1
theorem flatMap_succ {β : Type} {f : Nat → List β} {n : Nat} : (List.range (n + 1)).flatMap f = (List.range n).flatMap f ++ f n := by
  rw [List.range_succ, List.flatMap_append]; simp
end
end Go.Av
set_option linter.unusedVariables false
namespace Go.Av
section
variable {fu : Nat} {s : T_Setting} {X Y : T_Tensor} {x0 gr c m H W kh kw : Nat} {h w : T_conv_axis} {i k a b : Nat} {ts : List T_Tensor} {d : List Int}
theorem sumOf_opt {s0 : Int} {o : Option (Int × Int)} : sumOf s0 o.toList = match o with | none => s0 | some p => addV s0 (mulV p.1 p.2) := by
  cases o <;> rfl
theorem L3_step (E : Cv s X Y x0 gr c m H W kh kw h w) {g p q : Nat} {nx2 nx3 : Int → Int → Option Int} {s0 : Int} (hi : i < x0) (hk : k < gr * m) (hg : g < c) (hp : p < kh) (hq : q < kw) (hb : b ≤ 4096) (hin : inV h a p = true) :
    conv_work_sum.L3 fu nx2 (cvW s ts d h w) (i : Int) (k : Int) (b : Int) X Y (c : Int) ((gr * c : Nat) : Int) ((gr * m : Nat) : Int) (g : Int) (p : Int) (posV h a p, inV h a p) nx3 s0 (q : Int) =
      nx3 (sumOf s0 (cellV X Y gr c m H W kh kw h w i k a b g p q).toList) ((q + 1 : Nat) : Int) := by
  have k1 := E.aw.k1
  have hr : 0 ≤ posV h a p ∧ posV h a p < (H : Int) := by
    have := of_decide_eq_true hin; rw [E.ah.size] at this; exact this
  rw [conv_work_sum.L3, if_pos (show (q : Int) < (cvW s ts d h w).fw.fkernel from by show (q : Int) < w.fkernel; rw [E.aw.ker]; omega)]
  show (conv_axis_at fu w (b : Int) (q : Int)).bind _ = _
  rw [axis_at E.aw hb (by omega), ob_some, wk_succ (by omega)]
  unfold cellV
  by_cases hin2 : inV w b q = true
  · have ht : 0 ≤ posV w b q ∧ posV w b q < (W : Int) := by
      have := of_decide_eq_true hin2; rw [E.aw.size] at this; exact this
    rw [if_pos (show ((posV w b q, inV w b q) : Int × Bool).2 = true from hin2), if_pos ⟨hin, hin2⟩]
    show (at? X.fF (wk .i64 (wk .i64 (wk .i64 (wk .i64 (wk .i64 (wk .i64 (wk .i64 ((i : Int) * ((gr * c : Nat) : Int)) + wk .i64 (wk .i64 (Int.tdiv (k : Int) (wk .i64 (Int.tdiv ((gr * m : Nat) : Int) s.fGroup))) * (c : Int))) + (g : Int)) * h.fsize) + posV h a p) * w.fsize) + posV w b q))).bind _ = _
    rw [E.ah.size, E.aw.size, ix_eq E hi hk hg hr ht, at_D (by rw [E.lX]; exact ix_lt E.m0 hi hk hg hr ht), ob_some]
    show (at? Y.fF (wk .i64 (wk .i64 (wk .i64 (wk .i64 (wk .i64 (wk .i64 ((k : Int) * (c : Int)) + (g : Int)) * h.fkernel) + (p : Int)) * w.fkernel) + (q : Int)))).bind _ = _
    rw [E.ah.ker, E.aw.ker, iy_eq E hk hg hp hq, at_D (by rw [E.lY]; exact iy_lt hk hg hp hq), ob_some, Mul_spec, ob_some, Add_spec, ob_some]
    rfl
  · rw [if_neg (show ¬ ((posV w b q, inV w b q) : Int × Bool).2 = true from hin2), if_neg (fun hh => hin2 hh.2)]
    rfl
theorem W3_spec (E : Cv s X Y x0 gr c m H W kh kw h w) {g p : Nat} {nx2 : Int → Int → Option Int} {s0 : Int} (hi : i < x0) (hk : k < gr * m) (hg : g < c) (hp : p < kh) (hb : b ≤ 4096) (hin : inV h a p = true) (hf : 5000 < fu) :
    conv_work_sum.W3 fu nx2 (cvW s ts d h w) (i : Int) (k : Int) (b : Int) X Y (c : Int) ((gr * c : Nat) : Int) ((gr * m : Nat) : Int) (g : Int) (p : Int) (posV h a p, inV h a p) s0 0 =
      nx2 (sumOf s0 (rowT X Y gr c m H W kh kw h w i k a b g p)) ((p + 1 : Nat) : Int) := by
  have k1 := E.aw.k1
  have k2 := E.ah.k1
  unfold conv_work_sum.W3
  refine (cloop_up kw (fun q => sumOf s0 ((List.range q).filterMap (cellV X Y gr c m H W kh kw h w i k a b g p))) _ ?_ ?_ (by omega)).trans rfl
  · intro q hq next hn
    show conv_work_sum.L3 fu nx2 (cvW s ts d h w) (i : Int) (k : Int) (b : Int) X Y (c : Int) ((gr * c : Nat) : Int) ((gr * m : Nat) : Int) (g : Int) (p : Int) (posV h a p, inV h a p) _ _ (q : Int) = _
    rw [L3_step E hi hk hg hp hq hb hin, ← sumOf_app, ← filterMap_succ]
    exact hn
  · intro next
    show conv_work_sum.L3 fu nx2 (cvW s ts d h w) (i : Int) (k : Int) (b : Int) X Y (c : Int) ((gr * c : Nat) : Int) ((gr * m : Nat) : Int) (g : Int) (p : Int) (posV h a p, inV h a p) _ _ (kw : Int) = _
    rw [conv_work_sum.L3, if_neg (show ¬ (kw : Int) < (cvW s ts d h w).fw.fkernel from by show ¬ (kw : Int) < w.fkernel; rw [E.aw.ker]; omega), wk_succ (by omega)]
    rfl
theorem rowT_out {g p : Nat} (hin : ¬ inV h a p = true) : rowT X Y gr c m H W kh kw h w i k a b g p = [] := by
  unfold rowT
  rw [List.filterMap_eq_nil_iff]
  intro q _
  unfold cellV
  rw [if_neg (fun hh => hin hh.1)]
theorem W2_spec (E : Cv s X Y x0 gr c m H W kh kw h w) {g : Nat} {nx1 : Int → Int → Option Int} {s0 : Int} (hi : i < x0) (hk : k < gr * m) (hg : g < c) (ha : a ≤ 4096) (hb : b ≤ 4096) (hf : 5000 < fu) :
    conv_work_sum.W2 fu nx1 (cvW s ts d h w) (i : Int) (k : Int) (a : Int) (b : Int) X Y (c : Int) ((gr * c : Nat) : Int) ((gr * m : Nat) : Int) (g : Int) s0 0 =
      nx1 (sumOf s0 (termsG X Y gr c m H W kh kw h w i k a b g)) ((g + 1 : Nat) : Int) := by
  have k2 := E.ah.k1
  have c1 := E.c1
  have g0 := E.g0
  have cc : c ≤ gr * c := Nat.le_mul_of_pos_left c g0
  unfold conv_work_sum.W2
  refine (cloop_up kh (fun p => sumOf s0 ((List.range p).flatMap (rowT X Y gr c m H W kh kw h w i k a b g))) _ ?_ ?_ (by omega)).trans rfl
  · intro p hp next hn
    show conv_work_sum.L2 fu nx1 (cvW s ts d h w) (i : Int) (k : Int) (a : Int) (b : Int) X Y (c : Int) ((gr * c : Nat) : Int) ((gr * m : Nat) : Int) (g : Int) _ _ (p : Int) = _
    rw [conv_work_sum.L2, if_pos (show (p : Int) < (cvW s ts d h w).fh.fkernel from by show (p : Int) < h.fkernel; rw [E.ah.ker]; omega)]
    show (conv_axis_at fu h (a : Int) (p : Int)).bind _ = _
    rw [axis_at E.ah ha (by omega), ob_some]
    rw [flatMap_succ, sumOf_app] at hn
    by_cases hin : inV h a p = true
    · rw [if_pos (show ((posV h a p, inV h a p) : Int × Bool).2 = true from hin), W3_spec E hi hk hg hp hb hin hf]
      exact hn
    · rw [rowT_out hin] at hn
      rw [if_neg (show ¬ ((posV h a p, inV h a p) : Int × Bool).2 = true from hin), wk_succ (by omega)]
      exact hn
  · intro next
    show conv_work_sum.L2 fu nx1 (cvW s ts d h w) (i : Int) (k : Int) (a : Int) (b : Int) X Y (c : Int) ((gr * c : Nat) : Int) ((gr * m : Nat) : Int) (g : Int) _ _ (kh : Int) = _
    rw [conv_work_sum.L2, if_neg (show ¬ (kh : Int) < (cvW s ts d h w).fh.fkernel from by show ¬ (kh : Int) < h.fkernel; rw [E.ah.ker]; omega), wk_succ (by omega)]
    rfl
theorem sum_spec (E : Cv s X Y x0 gr c m H W kh kw h w) (h0 : at? ts 0 = some X) (h1 : at? ts 1 = some Y) (hi : i < x0) (hk : k < gr * m) (ha : a ≤ 4096) (hb : b ≤ 4096) (hf : 5000 < fu) :
    conv_work_sum fu (cvW s ts d h w) (i : Int) (k : Int) (a : Int) (b : Int) = some (sumOf 0 (termsV X Y gr c m H W kh kw h w i k a b)) := by
  have c1 := E.c1
  have g0 := E.g0
  have m0 := E.m0
  have m1 := E.m1
  have cc : c ≤ gr * c := Nat.le_mul_of_pos_left c g0
  have mm : m ≤ gr * m := Nat.le_mul_of_pos_left m g0
  unfold conv_work_sum
  show (at? ts 0).bind _ = _
  rw [h0, ob_some]
  show (at? ts 1).bind _ = _
  rw [h1, ob_some, E.dX, E.dY]
  show (some (c : Int)).bind _ = _
  rw [ob_some]
  show (some ((gr * c : Nat) : Int)).bind _ = _
  rw [ob_some]
  show (some ((gr * m : Nat) : Int)).bind _ = _
  rw [ob_some]
  have hg : s.fGroup = (gr : Int) := E.grp
  have e1 : wk .i64 (Int.tdiv ((gr * m : Nat) : Int) s.fGroup) = (m : Int) := by
    rw [hg, Int.tdiv_eq_ediv_of_nonneg (Int.natCast_nonneg _), ← Int.natCast_ediv, Nat.mul_div_cancel_left _ (by omega), wk_eq (by omega) (by omega)]
  refine (chk_pos (show s.fGroup ≠ 0 by rw [hg]; omega)).trans ?_
  refine (chk_pos (show wk .i64 (Int.tdiv ((gr * m : Nat) : Int) s.fGroup) ≠ 0 by rw [e1]; omega)).trans ?_
  unfold conv_work_sum.W1
  refine (cloop_up c (fun g => sumOf 0 ((List.range g).flatMap (termsG X Y gr c m H W kh kw h w i k a b))) _ ?_ ?_ (by omega)).trans rfl
  · intro g hg2 next hn
    show conv_work_sum.L1 fu (cvW s ts d h w) (i : Int) (k : Int) (a : Int) (b : Int) X Y (c : Int) ((gr * c : Nat) : Int) ((gr * m : Nat) : Int) _ _ (g : Int) = _
    rw [conv_work_sum.L1, if_pos (by omega), W2_spec E hi hk hg2 ha hb hf, ← sumOf_app, ← flatMap_succ]
    exact hn
  · intro next
    show conv_work_sum.L1 fu (cvW s ts d h w) (i : Int) (k : Int) (a : Int) (b : Int) X Y (c : Int) ((gr * c : Nat) : Int) ((gr * m : Nat) : Int) _ _ (c : Int) = _
    rw [conv_work_sum.L1, if_neg (by omega)]
    rfl
end
end Go.Av
set_option linter.unusedVariables false
namespace Go.Av
/-- a loop with a counter from 0 up to a bound, and any state -/
theorem cloop_to {τ β : Type} {body : (τ → Option β) → τ → Option β} (N : Nat) (st : Nat → τ) (r : Option β) (h : ∀ k, k < N → ∀ next, next (st (k + 1)) = r → body next (st k) = r)
    (he : ∀ next, body next (st N) = r) {n : Nat} (hn : N < n) : cloop body n (st 0) = r := by
  have : ∀ m k, k ≤ N → N - k < m → cloop body m (st k) = r := by
    intro m
    induction m with
    | zero => intro k _ h; omega
    | succ m ih =>
      intro k hk hm
      by_cases hkN : k = N
      · subst hkN; exact he _
      · exact h k (by omega) _ (ih (k + 1) (by omega) (by omega))
  exact this n 0 (by omega) (by omega)
theorem rect {β : Type} (F : Nat → Nat → β) (a b : Nat) : (List.range a).flatMap (fun p => (List.range b).map (F p)) = (List.range (a * b)).map (fun e => F (e / b) (e % b)) := by
  induction a with
  | zero => simp
  | succ n ih =>
    rw [flatMap_succ, ih, Nat.succ_mul, List.range_add, List.map_append, List.map_map]
    congr 1
    refine List.map_congr_left fun q hq => ?_
    have hq := List.mem_range.1 hq
    have h1 : (n * b + q) / b = n := by rw [Nat.mul_comm, Nat.mul_add_div (by omega), Nat.div_eq_of_lt hq]; omega
    have h2 : (n * b + q) % b = q := by rw [Nat.mul_comm, Nat.mul_add_mod, Nat.mod_eq_of_lt hq]
    show F n q = F ((n * b + q) / b) ((n * b + q) % b)
    rw [h1, h2]
theorem rect2 {β : Type} (F : Nat → Nat → Option β) (a b : Nat) : (List.range a).flatMap (fun p => (List.range b).filterMap (F p)) = (List.range (a * b)).filterMap (fun e => F (e / b) (e % b)) := by
  have h := congrArg (List.filterMap id) (rect F a b)
  rw [List.filterMap_map] at h
  have h2 : ∀ l : List Nat, List.filterMap id (l.flatMap fun p => (List.range b).map (F p)) = l.flatMap (fun p => (List.range b).filterMap (F p)) := fun l => by
    induction l with
    | nil => rfl
    | cons x l ih => rw [List.flatMap_cons, List.flatMap_cons, List.filterMap_append, ih, List.filterMap_map]; rfl
  rw [h2] at h
  exact h
end Go.Av
set_option linter.unusedVariables false
namespace Go.Av
theorem same_loop {α : Type} [DecidableEq α] {a b : List α} (hl : a.length = b.length) {fu : Nat} (hf : a.length < fu) (hs : a.length ≤ 140737488355328) {L : (Int → Option Bool) → Int → Option Bool} {c : Option Bool}
    (hL : ∀ nx i, L nx i = if i < (a.length : Int) then ((at? a i).bind fun x => (at? b i).bind fun y => if x = y then (nx (wk .i64 (i + 1))) else some false) else c) : cloop L fu 0 = if a = b then c else some false := by
  refine (cloop_ind (fun (i : Int) => if a.drop i.toNat = b.drop i.toNat then c else some false) (fun i => 0 ≤ i ∧ i ≤ a.length) (fun i => a.length - i.toNat) ?_ fu 0 (by simp) (by simp; omega)).trans (by simp)
  rintro i ⟨h0, h1⟩ next hn
  obtain ⟨k, rfl⟩ := Int.eq_ofNat_of_zero_le h0
  rw [hL]
  simp only [Int.toNat_natCast]
  by_cases hk : k < a.length
  · have hkb : k < b.length := by omega
    have hd : a.drop k = b.drop k ↔ a[k] = b[k] ∧ a.drop (k + 1) = b.drop (k + 1) := by
      rw [List.drop_eq_getElem_cons hk, List.drop_eq_getElem_cons hkb]; exact List.cons_eq_cons
    rw [if_pos (by omega), at?_get hk, ob_some, at?_get hkb, ob_some, wk_succ (by omega)]
    by_cases he : a[k] = b[k]
    · rw [if_pos he, hn _ (by omega) (by simp; omega)]
      by_cases h2 : a.drop (k + 1) = b.drop (k + 1)
      · rw [if_pos (by simpa using h2), if_pos (hd.2 ⟨he, h2⟩)]
      · rw [if_neg (by simpa using h2), if_neg (fun h => h2 (hd.1 h).2)]
    · rw [if_neg he, if_neg (fun h => he (hd.1 h).1)]
  · rw [if_neg (by omega), if_pos (by rw [List.drop_of_length_le (by omega), List.drop_of_length_le (by omega)])]
theorem refSame_spec {fu : Nat} {a b : T_Tensor} (hs : Small a) (hf : Fuel fu a) : ref05_Same fu a b = some (sameT a b) := by
  obtain ⟨s1, s2, s3, s4⟩ := hs
  obtain ⟨f1, f2, f3, f4⟩ := hf
  unfold ref05_Same sameT; try unfold jn
  by_cases h1 : a.fType = b.fType
  · rw [if_pos h1, SameInts_spec (by unfold Short; omega) f1, ob_some]
    by_cases h2 : a.fDims = b.fDims
    · rw [if_pos (by simpa using h2)]
      by_cases l3 : a.fF.length = b.fF.length
      · rw [if_pos (by omega)]
        by_cases l4 : a.fI.length = b.fI.length
        · rw [if_pos (by omega)]
          by_cases l5 : a.fB.length = b.fB.length
          · rw [if_pos (by omega)]
            unfold ref05_Same.k1 ref05_Same.W3; try unfold jn
            rw [same_loop (L := fun next s => ref05_Same.L3 fu a b next s) (a := a.fF) (b := b.fF) l3 f2 (by omega) (c := ref05_Same.k2 fu a b) (fun nx i => rfl)]
            unfold ref05_Same.k2 ref05_Same.W2; try unfold jn
            rw [same_loop (L := fun next s => ref05_Same.L2 fu a b next s) (a := a.fI) (b := b.fI) l4 f3 (by omega) (c := ref05_Same.k3 fu a b) (fun nx i => rfl)]
            unfold ref05_Same.k3 ref05_Same.W1
            rw [same_loop (L := fun next s => ref05_Same.L1 fu a b next s) (a := a.fB) (b := b.fB) l5 f4 (by omega) (c := some true) (fun nx i => by unfold ref05_Same.L1; simp only [beq_iff_eq])]
            by_cases e3 : a.fF = b.fF <;> by_cases e4 : a.fI = b.fI <;> by_cases e5 : a.fB = b.fB <;> simp [h1, h2, e3, e4, e5]
          · rw [if_neg (by omega)]
            have : ¬ a.fB = b.fB := fun h => l5 (by rw [h])
            simp [this]
        · rw [if_neg (by omega)]
          have : ¬ a.fI = b.fI := fun h => l4 (by rw [h])
          simp [this]
      · rw [if_neg (by omega)]
        have : ¬ a.fF = b.fF := fun h => l3 (by rw [h])
        simp [this]
    · rw [if_neg (by simpa using h2)]
      simp [h2]
  · rw [if_neg h1]
    simp [h1]
end Go.Av
set_option linter.unusedVariables false
namespace Go.Av
/-- the loop over the answer's elements, whatever tells each of them -/
def eachL (fu : Nat) (tell : Int → Int → Int → Int → Option Int) (own : List T_Tensor) (d : List Int) (t : T_Tensor) (nx : List Int → Int → Option (T_Tensor × Int)) (l : List Int) (k : Int) : Option (T_Tensor × Int) :=
  if k < ((t.fF.length : Nat) : Int) then ((shape_Index fu d k).bind fun x40 => (at? x40.1 0).bind fun x41 => (at? x40.1 1).bind fun x42 => (at? x40.1 2).bind fun x43 => (at? x40.1 3).bind fun x44 => (tell x41 x42 x43 x44).bind fun x45 => chk (0 ≤ k ∧ k < (l.length : Int)) <| if 2 < (own.length : Int) then ((at? own 2).bind fun x46 => if x46.fType = 0 then (nx (l.set k.toNat x45) (wk .i64 (k + 1))) else (at? (l.set k.toNat x45) k).bind fun x47 => (at? x46.fF x42).bind fun x48 => (soft_Add fu x47 x48).bind fun x49 => chk (0 ≤ k ∧ k < ((l.set k.toNat x45).length : Int)) <| nx ((l.set k.toNat x45).set k.toNat x49) (wk .i64 (k + 1))) else nx (l.set k.toNat x45) (wk .i64 (k + 1))) else some (T_Tensor.mk t.fType t.fDims l t.fI t.fB, 0)
theorem set_next {f : Nat → Int} {k m : Nat} : ((List.range k).map f ++ List.replicate (m + 1) 0).set k (f k) = (List.range (k + 1)).map f ++ List.replicate m 0 := by
  have hl : ((List.range k).map f).length = k := by simp
  rw [List.set_append_right _ _ (by omega), hl, Nat.sub_self, List.replicate_succ, List.set_cons_zero, List.range_succ, List.map_append]
  simp
/-- the indices of a place among four dims -/
theorem ix4 {A B C D k : Nat} (hk : k < A * (B * (C * D))) :
    idxV [(A : Int), (B : Int), (C : Int), (D : Int)] (k : Int) = [((k / (B * (C * D)) : Nat) : Int), ((k % (B * (C * D)) / (C * D) : Nat) : Int), ((k % (B * (C * D)) % (C * D) / D : Nat) : Int), ((k % (B * (C * D)) % (C * D) % D : Nat) : Int)] := by
  have e1 : prod [(B : Int), (C : Int), (D : Int)] = ((B * (C * D) : Nat) : Int) := by simp [prod]
  have e2 : prod [(C : Int), (D : Int)] = ((C * D : Nat) : Int) := by simp [prod]
  have e3 : prod [(D : Int)] = (D : Int) := by simp [prod]
  simp only [idxV, e1, e2, e3]
  rw [← Int.natCast_emod, ← Int.natCast_ediv, ← Int.natCast_emod, ← Int.natCast_ediv, ← Int.natCast_emod, ← Int.natCast_ediv]
  simp [prod]
structure Ix (A B C D k : Nat) : Prop where
  a : k / (B * (C * D)) < A
  b : k % (B * (C * D)) / (C * D) < B
  c : k % (B * (C * D)) % (C * D) / D < C
  d : k % (B * (C * D)) % (C * D) % D < D
theorem ix_of {A B C D k : Nat} (hk : k < A * (B * (C * D))) : Ix A B C D k := by
  have hp : 0 < B * (C * D) := Nat.pos_of_ne_zero fun h => by rw [h] at hk; simp at hk
  have hq : 0 < C * D := Nat.pos_of_ne_zero fun h => by rw [h] at hp; simp at hp
  have hD : 0 < D := Nat.pos_of_ne_zero fun h => by rw [h] at hq; simp at hq
  have h1 := Nat.mod_lt k hp
  have h2 := Nat.mod_lt (k % (B * (C * D))) hq
  refine ⟨Nat.div_lt_of_lt_mul (by rw [Nat.mul_comm _ A]; exact hk), Nat.div_lt_of_lt_mul (by rw [Nat.mul_comm (C * D) B]; exact h1), Nat.div_lt_of_lt_mul (by rw [Nat.mul_comm D C]; exact h2), Nat.mod_lt _ hD⟩
def biasV (own : List T_Tensor) (b : Nat) (x : Int) : Int := if 2 < own.length then (if (own.getD 2 noT).fType = 0 then x else addV x ((own.getD 2 noT).fF.getD b 0)) else x
theorem each_spec {fu : Nat} {tell : Int → Int → Int → Int → Option Int} {tV : Nat → Int} {own : List T_Tensor} {A B C D : Nat} (hg : Good [(A : Int), (B : Int), (C : Int), (D : Int)]) (hf : 10000 < fu)
    (ht : ∀ k, k < A * (B * (C * D)) → tell ((k / (B * (C * D)) : Nat) : Int) ((k % (B * (C * D)) / (C * D) : Nat) : Int) ((k % (B * (C * D)) % (C * D) / D : Nat) : Int) ((k % (B * (C * D)) % (C * D) % D : Nat) : Int) = some (tV k))
    (hb : 2 < own.length → (own.getD 2 noT).fType ≠ 0 → (own.getD 2 noT).fF.length = B) :
    cloop (fun next s => eachL fu tell own [(A : Int), (B : Int), (C : Int), (D : Int)] ⟨1, [(A : Int), (B : Int), (C : Int), (D : Int)], List.replicate (A * (B * (C * D))) 0, [], []⟩ (fun a b => next (a, b)) s.1 s.2) fu (List.replicate (A * (B * (C * D))) 0, 0) =
      some (⟨1, [(A : Int), (B : Int), (C : Int), (D : Int)], (List.range (A * (B * (C * D)))).map fun k => biasV own (k % (B * (C * D)) / (C * D)) (tV k), [], []⟩, 0) := by
  have eN : prod [(A : Int), (B : Int), (C : Int), (D : Int)] = ((A * (B * (C * D)) : Nat) : Int) := by simp [prod]
  have hN := hg.2.2
  rw [eN] at hN
  have hz : (List.replicate (A * (B * (C * D))) (0 : Int), (0 : Int)) = (fun k : Nat => ((List.range k).map (fun k => biasV own (k % (B * (C * D)) / (C * D)) (tV k)) ++ List.replicate (A * (B * (C * D)) - k) 0, (k : Int))) 0 := by simp
  rw [hz]
  refine cloop_to (A * (B * (C * D))) (fun k : Nat => ((List.range k).map (fun k => biasV own (k % (B * (C * D)) / (C * D)) (tV k)) ++ List.replicate (A * (B * (C * D)) - k) 0, (k : Int))) _ ?_ ?_ (by omega)
  · intro k hk next hn
    have I := ix_of hk
    have hlen : ((List.range k).map (fun k => biasV own (k % (B * (C * D)) / (C * D)) (tV k)) ++ List.replicate (A * (B * (C * D)) - k) (0 : Int)).length = A * (B * (C * D)) := by simp; omega
    have hset := set_next (f := fun k => biasV own (k % (B * (C * D)) / (C * D)) (tV k)) (k := k) (m := A * (B * (C * D)) - (k + 1))
    rw [show A * (B * (C * D)) - (k + 1) + 1 = A * (B * (C * D)) - k by omega] at hset
    rw [← hset] at hn
    replace hn : next (((List.range k).map (fun k => biasV own (k % (B * (C * D)) / (C * D)) (tV k)) ++ List.replicate (A * (B * (C * D)) - k) (0 : Int)).set k (biasV own (k % (B * (C * D)) / (C * D)) (tV k)), ((k + 1 : Nat) : Int)) = _ := hn
    have bv : ∀ z, biasV own (k % (B * (C * D)) / (C * D)) (tV k) = z → next (((List.range k).map (fun k => biasV own (k % (B * (C * D)) / (C * D)) (tV k)) ++ List.replicate (A * (B * (C * D)) - k) (0 : Int)).set k z, ((k + 1 : Nat) : Int)) = some (⟨1, [(A : Int), (B : Int), (C : Int), (D : Int)], (List.range (A * (B * (C * D)))).map fun k => biasV own (k % (B * (C * D)) / (C * D)) (tV k), [], []⟩, 0) := fun z hz => hz ▸ hn
    show eachL fu tell own [(A : Int), (B : Int), (C : Int), (D : Int)] _ _ _ (k : Int) = _
    generalize hL : (List.range k).map (fun k => biasV own (k % (B * (C * D)) / (C * D)) (tV k)) ++ List.replicate (A * (B * (C * D)) - k) (0 : Int) = L at *
    rw [eachL, if_pos (show (k : Int) < (((List.replicate (A * (B * (C * D))) (0 : Int)).length : Nat) : Int) by rw [List.length_replicate]; omega), Index_spec (by unfold Short; simp) (by simp; omega), ob_some, indexV, if_pos hg, if_pos (by rw [eN]; omega), ix4 hk]
    show (some _).bind _ = _
    rw [ob_some]
    show (some _).bind _ = _
    rw [ob_some]
    show (some _).bind _ = _
    rw [ob_some]
    show (some _).bind _ = _
    rw [ob_some, ht k hk, ob_some, chk_pos (by rw [hlen]; omega), Int.toNat_natCast, wk_succ (by omega)]
    by_cases h2 : 2 < own.length
    · rw [if_pos (by omega)]
      have hat : at? own 2 = some (own.getD 2 noT) := by
        show at? own ((2 : Nat) : Int) = _
        rw [at?_get h2, List.getD_eq_getElem?_getD, List.getElem?_eq_getElem h2]; rfl
      rw [hat, ob_some]
      by_cases h3 : (own.getD 2 noT).fType = 0
      · rw [if_pos h3]
        exact bv _ (by unfold biasV; rw [if_pos h2, if_pos h3])
      · rw [if_neg h3]
        have hlb := hb h2 h3
        have e1 : at? (L.set k (tV k)) (k : Int) = some (tV k) := by rw [at?_nat, List.getElem?_set_self (by omega)]
        rw [e1, ob_some, at_D (by rw [hlb]; exact I.b), ob_some, Add_spec, ob_some, chk_pos (by rw [List.length_set, hlen]; omega), List.set_set]
        exact bv _ (by unfold biasV; rw [if_pos h2, if_neg h3])
    · rw [if_neg (by omega)]
      exact bv _ (by unfold biasV; rw [if_neg h2])
  · intro next
    show eachL fu tell own [(A : Int), (B : Int), (C : Int), (D : Int)] _ _ _ ((A * (B * (C * D)) : Nat) : Int) = _
    rw [eachL, if_neg (show ¬ ((A * (B * (C * D)) : Nat) : Int) < (((List.replicate (A * (B * (C * D))) (0 : Int)).length : Nat) : Int) by rw [List.length_replicate]; omega)]
    simp
end Go.Av
set_option linter.unusedVariables false
namespace Go.Av
theorem lens_F {x : T_Tensor} (ht : x.fType = 1) (hc : checkV x = 0) : Good x.fDims ∧ (x.fF.length : Int) = prod x.fDims ∧ x.fF.length ≤ 4096 ∧ x.fI = [] ∧ x.fB = [] := by
  obtain ⟨_, hg, h1, h2, h3⟩ := checkV_zero.1 hc
  rw [ht] at h1 h2 h3
  simp at h1 h2 h3
  have := hg.2.2
  exact ⟨hg, h1, by omega, h2, h3⟩
theorem New_spec {fu : Nat} {d : List Int} {N : Nat} (hg : Good d) (hN : prod d = (N : Int)) (hf : 20 < fu) : tens_New fu 1 d = some (⟨1, d, List.replicate N 0, [], []⟩, 0) := by
  have h1 := hg.1
  have h3 := hg.2.2
  unfold tens_New
  rw [known_spec, ob_some, if_pos (by simp), Size_spec (by unfold Short; omega) (by omega), ob_some, sizeV, if_pos hg, if_pos rfl, Clone_spec (by omega), ob_some, if_pos rfl, chk_pos (by rw [hN] at h3 ⊢; simp only; omega), hN, Int.toNat_natCast]
/-- what a convolution does with what may be, whatever tells each element -/
def k1G (T : T_conv_work → Int → Int → Int → Int → Option Int) (fu : Nat) (s : T_Setting) (ts own : List T_Tensor) : Option (T_Tensor × Int) :=
  (ewise_Vals fu ts).bind fun x6 => (infer_Node fu 75 s x6 1).bind fun x7 => if x7.2 = 0 then ((at? x7.1 0).bind fun x8 => (at? own 0).bind fun x9 => (at? own 1).bind fun x10 => (at? x9.fDims 2).bind fun x11 => (at? x10.fDims 2).bind fun x12 => (conv_axisOf fu s 0 x11 x12).bind fun x13 => (at? x9.fDims 3).bind fun x14 => (at? x10.fDims 3).bind fun x15 => (conv_axisOf fu s 1 x14 x15).bind fun x16 => (tens_New fu 1 x8.fDims).bind fun x17 =>
    cloop (fun next st => eachL fu (T (T_conv_work.mk s own x8.fDims x13.1 x16.1)) own x8.fDims x17.1 (fun a b => next (a, b)) st.1 st.2) fu (x17.1.fF, 0)) else some (noT, x7.2)
theorem div_nat {x g : Int} (x0 : 0 ≤ x) (x1 : x ≤ 4096) (g0 : 1 ≤ g) (h : Int.tmod x g = 0) : ∃ q : Nat, x = ((g.toNat * q : Nat) : Int) ∧ wk .i64 (Int.tdiv x g) = (q : Int) := by
  obtain ⟨n, rfl⟩ := Int.eq_ofNat_of_zero_le x0
  obtain ⟨k, rfl⟩ := Int.eq_ofNat_of_zero_le (show 0 ≤ g by omega)
  rw [Int.tmod_eq_emod_of_nonneg x0, ← Int.natCast_emod] at h
  have h' : n % k = 0 := by omega
  refine ⟨n / k, ?_, ?_⟩
  · rw [Int.toNat_natCast, Nat.mul_div_cancel' (Nat.dvd_of_mod_eq_zero h')]
  · rw [Int.tdiv_eq_ediv_of_nonneg x0, ← Int.natCast_ediv]
    have hd := Nat.div_le_self n k
    generalize n / k = z at *
    exact wk_eq (by omega) (by omega)
theorem ax_ok {s : T_Setting} {a : Nat} {sz k : Int} (h : (winA s a sz k).2.2 = 0) : AxOK (axV s a sz k) sz.toNat k.toNat ∧ 0 ≤ sz ∧ 1 ≤ k ∧ 0 ≤ (winA s a sz k).1 := by
  have w := winV_ok h
  have z0 := w.z0; have z1 := w.z1; have k0 := w.k0; have k1 := w.k1
  refine ⟨⟨?_, ?_, by omega, by omega, by omega, w.s0, w.s1, w.d0, w.d1, w.a0, w.a1⟩, z0, k0, w.n0⟩
  · show sz = _; omega
  · show k = _; omega
theorem mul4 {a b c d : Nat} : a * (b * (c * d)) = a * b * c * d := by rw [← Nat.mul_assoc, ← Nat.mul_assoc]
/-- THE ANSWER of a convolution that may be -/
structure Ans (s : T_Setting) (t0 t1 : T_Tensor) (rest : List T_Tensor) (x0 gr c m H W kh kw C D : Nat) : Prop where
  cv : Cv s (canonT t0) (canonT t1) x0 gr c m H W kh kw (axV s 0 (H : Int) (kh : Int)) (axV s 1 (W : Int) (kw : Int))
  w0 : (winA s 0 (H : Int) (kh : Int)).2.2 = 0
  w1 : (winA s 1 (W : Int) (kw : Int)).2.2 = 0
  n0 : (winA s 0 (H : Int) (kh : Int)).1 = (C : Int)
  n1 : (winA s 1 (W : Int) (kw : Int)).1 = (D : Int)
  gx : Good (canonT t0).fDims
  gd : Good [(x0 : Int), ((gr * m : Nat) : Int), (C : Int), (D : Int)]
  attr : AttrOK s
  bias : ∀ t2, rest.head? = some t2 → t2.fType ≠ 0 → t2.fF.length = gr * m
theorem ans_of {s : T_Setting} {t0 t1 : T_Tensor} {rest : List T_Tensor} {x0 x1 x2 x3 y0 y1 y2 y3 : Int} (hT : ∀ t ∈ t0 :: t1 :: rest, t.fType = 0 ∨ checkV t = 0) (h : NodeC s ((t0 :: t1 :: rest).map valOf) x0 x1 x2 x3 y0 y1 y2 y3) :
    ∃ A gr c m H W kh kw C D : Nat, Ans s t0 t1 rest A gr c m H W kh kw C D ∧ dimsC s x0 x2 x3 y0 y2 y3 = [(A : Int), ((gr * m : Nat) : Int), (C : Int), (D : Int)] := by
  have f0 : (valOf t0).fType ≠ 0 := h.full.2.2.1
  have f1 : (valOf t1).fType ≠ 0 := h.full.2.2.2
  have n0 : t0.fType ≠ 0 := fun e => f0 (by unfold valOf; rw [if_pos e]; rfl)
  have n1 : t1.fType ≠ 0 := fun e => f1 (by unfold valOf; rw [if_pos e]; rfl)
  have v0 : (valOf t0).fType = t0.fType ∧ (valOf t0).fDims = t0.fDims := by unfold valOf; rw [if_neg n0]; exact ⟨rfl, rfl⟩
  have v1 : (valOf t1).fType = t1.fType ∧ (valOf t1).fDims = t1.fDims := by unfold valOf; rw [if_neg n1]; exact ⟨rfl, rfl⟩
  have e0 : t0.fType = 1 := by
    have := h.typed (valOf t0) (by simp)
    rw [v0.1] at this; exact this.resolve_left n0
  have e1 : t1.fType = 1 := by
    have := h.typed (valOf t1) (by simp)
    rw [v1.1] at this; exact this.resolve_left n1
  obtain ⟨g0, l0, b0, _, _⟩ := lens_F e0 ((hT t0 (by simp)).resolve_left n0)
  obtain ⟨g1, l1, b1, _, _⟩ := lens_F e1 ((hT t1 (by simp)).resolve_left n1)
  have dx : t0.fDims = [x0, x1, x2, x3] := v0.2 ▸ h.conv.dx
  have dy : t1.fDims = [y0, y1, y2, y3] := v1.2 ▸ h.conv.dy
  have r0 := g0.2.1
  have r1 := g1.2.1
  rw [dx] at r0 l0
  rw [dy] at r1 l1
  have q0 := r0 x0 (by simp); have q1 := r0 x1 (by simp); have q2 := r0 x2 (by simp); have q3 := r0 x3 (by simp)
  have p0 := r1 y0 (by simp); have p1 := r1 y1 (by simp); have p2 := r1 y2 (by simp); have p3 := r1 y3 (by simp)
  have ha := h.attr
  obtain ⟨c, hc1, hc2⟩ := div_nat q1.1 q1.2 ha.g0 h.conv.gx
  obtain ⟨m, hm1, hm2⟩ := div_nat p0.1 p0.2 ha.g0 h.conv.gy
  obtain ⟨a0, z0, k0, N0⟩ := ax_ok h.conv.w0
  obtain ⟨a1, z1, k1, N1⟩ := ax_ok h.conv.w1
  have hg0 := ha.g0
  have hg1 := ha.g1
  have xn := h.conv.x1n
  have yn := h.conv.y0n
  have hy1 : y1 = (c : Int) := by rw [h.conv.ch, hc2]
  have X2 : ((x2.toNat : Nat) : Int) = x2 := by omega
  have X3 : ((x3.toNat : Nat) : Int) = x3 := by omega
  have Y2 : ((y2.toNat : Nat) : Int) = y2 := by omega
  have Y3 : ((y3.toNat : Nat) : Int) = y3 := by omega
  have X0 : ((x0.toNat : Nat) : Int) = x0 := by omega
  have hc0 : 1 ≤ c := by
    rcases Nat.eq_zero_or_pos c with hz | hz
    · subst hz; rw [Nat.mul_zero] at hc1; omega
    · exact hz
  have hm0 : 1 ≤ m := by
    rcases Nat.eq_zero_or_pos m with hz | hz
    · subst hz; rw [Nat.mul_zero] at hm1; omega
    · exact hz
  refine ⟨x0.toNat, s.fGroup.toNat, c, m, x2.toNat, x3.toNat, y2.toNat, y3.toNat, (winA s 0 x2 y2).1.toNat, (winA s 1 x3 y3).1.toNat, ⟨⟨?_, ?_, ?_, ?_, ?_, ?_, by omega, by omega, by omega, hm0, by omega, hc0, by omega, ?_, ?_⟩, ?_, ?_, ?_, ?_, g0, ?_, ha, ?_⟩, ?_⟩
  · show t0.fDims = _; rw [dx, X0, X2, X3, ← hc1]
  · show t1.fDims = _; rw [dy, Y2, Y3, ← hm1, hy1]
  · show (t0.fF.map canonF).length = _
    rw [List.length_map]
    have : prod [x0, x1, x2, x3] = ((x0.toNat * (s.fGroup.toNat * c) * x2.toNat * x3.toNat : Nat) : Int) := by
      rw [← mul4]; simp only [prod]; rw [hc1, ← X0, ← X2, ← X3]; simp
    rw [this] at l0; omega
  · show (t1.fF.map canonF).length = _
    rw [List.length_map]
    have : prod [y0, y1, y2, y3] = ((s.fGroup.toNat * m * c * y2.toNat * y3.toNat : Nat) : Int) := by
      rw [← mul4]; simp only [prod]; rw [hm1, hy1, ← Y2, ← Y3]; simp
    rw [this] at l1; omega
  · show (t0.fF.map canonF).length ≤ _; rw [List.length_map]; exact b0
  · show (t1.fF.map canonF).length ≤ _; rw [List.length_map]; exact b1
  · rw [X2, Y2]; exact a0
  · rw [X3, Y3]; exact a1
  · rw [X2, Y2]; exact h.conv.w0
  · rw [X3, Y3]; exact h.conv.w1
  · rw [X2, Y2]; omega
  · rw [X3, Y3]; omega
  · have hg := h.good
    unfold dimsC at hg
    rw [X0, ← hm1, Int.toNat_of_nonneg N0, Int.toNat_of_nonneg N1]
    exact hg
  · intro t2 h2 n2
    have v2 : (vAt ((t0 :: t1 :: rest).map valOf) 2) = valOf t2 := by
      cases rest with
      | nil => cases h2
      | cons r rs => simp at h2; subst h2; rfl
    have w2 : (valOf t2).fType = t2.fType ∧ (valOf t2).fDims = t2.fDims := by unfold valOf; rw [if_neg n2]; exact ⟨rfl, rfl⟩
    have hmem : t2 ∈ t0 :: t1 :: rest := by
      cases rest with
      | nil => cases h2
      | cons r rs => simp at h2; subst h2; simp
    have hb := h.conv.bias
    rw [v2, w2.1, w2.2] at hb
    have e2 : t2.fType = 1 := by
      have := h.typed (valOf t2) (List.mem_map_of_mem hmem)
      rw [w2.1] at this; exact this.resolve_left n2
    obtain ⟨g2, l2, b2, _, _⟩ := lens_F e2 ((hT t2 hmem).resolve_left n2)
    rw [hb n2] at l2
    simp [prod] at l2
    omega
  · unfold dimsC
    rw [X0, ← hm1, Int.toNat_of_nonneg N0, Int.toNat_of_nonneg N1]
end Go.Av
set_option linter.unusedVariables false
namespace Go.Av
section
variable {fu : Nat} {s : T_Setting} {t0 t1 : T_Tensor} {rest : List T_Tensor} {A gr c m H W kh kw C D : Nat} {T : T_conv_work → Int → Int → Int → Int → Option Int}
def elV (s : T_Setting) (t0 t1 : T_Tensor) (gr c m H W kh kw C D k : Nat) : Int :=
  sumOf 0 (termsV (canonT t0) (canonT t1) gr c m H W kh kw (axV s 0 (H : Int) (kh : Int)) (axV s 1 (W : Int) (kw : Int)) (k / (gr * m * (C * D))) (k % (gr * m * (C * D)) / (C * D)) (k % (gr * m * (C * D)) % (C * D) / D) (k % (gr * m * (C * D)) % (C * D) % D))
def ansV (s : T_Setting) (t0 t1 : T_Tensor) (rest : List T_Tensor) (A gr c m H W kh kw C D : Nat) : T_Tensor :=
  ⟨1, [(A : Int), ((gr * m : Nat) : Int), (C : Int), (D : Int)], (List.range (A * (gr * m * (C * D)))).map fun k => biasV ((t0 :: t1 :: rest).map canonT) (k % (gr * m * (C * D)) / (C * D)) (elV s t0 t1 gr c m H W kh kw C D k), [], []⟩
theorem k1G_ok {x0 x1 x2 x3 y0 y1 y2 y3 : Int} (hV : Tens fu (t0 :: t1 :: rest)) (hf : 1200000 < fu) (hS : SizedV ((t0 :: t1 :: rest).map valOf)) (hN : NodeC s ((t0 :: t1 :: rest).map valOf) x0 x1 x2 x3 y0 y1 y2 y3)
    (a : Ans s t0 t1 rest A gr c m H W kh kw C D) (hd : dimsC s x0 x2 x3 y0 y2 y3 = [(A : Int), ((gr * m : Nat) : Int), (C : Int), (D : Int)])
    (hT : ∀ i k p q : Nat, i < A → k < gr * m → p < C → q < D → p ≤ 4096 → q ≤ 4096 → T (cvW s ((t0 :: t1 :: rest).map canonT) [(A : Int), ((gr * m : Nat) : Int), (C : Int), (D : Int)] (axV s 0 (H : Int) (kh : Int)) (axV s 1 (W : Int) (kw : Int))) (i : Int) (k : Int) (p : Int) (q : Int) =
      some (sumOf 0 (termsV (canonT t0) (canonT t1) gr c m H W kh kw (axV s 0 (H : Int) (kh : Int)) (axV s 1 (W : Int) (kw : Int)) i k p q))) :
    k1G T fu s (t0 :: t1 :: rest) ((t0 :: t1 :: rest).map canonT) = some (ansV s t0 t1 rest A gr c m H W kh kw C D, 0) := by
  obtain ⟨f, rfl⟩ : ∃ f, fu = f + 3 := ⟨fu - 3, by omega⟩
  have hlv : ((t0 :: t1 :: rest).map valOf).length ≤ 3 := hN.full.2.1
  have gd := a.gd
  have E := a.cv
  have hC := gd.2.1 (C : Int) (by simp)
  have hD := gd.2.1 (D : Int) (by simp)
  unfold k1G
  rw [Vals_all hV, ob_some, Node_fwd hN hS (by omega), ob_some, if_pos rfl, hd]
  show (some _).bind _ = _
  rw [ob_some]
  show (some (canonT t0)).bind _ = _
  rw [ob_some]
  show (some (canonT t1)).bind _ = _
  rw [ob_some, E.dX, E.dY]
  show (some (H : Int)).bind _ = _
  rw [ob_some]
  show (some (kh : Int)).bind _ = _
  rw [ob_some]
  have x0' := axisOf_spec (fu := f + 3) (s := s) (a := 0) (sz := (H : Int)) (k := (kh : Int)) a.attr (by decide) (by omega)
  have x1' := axisOf_spec (fu := f + 3) (s := s) (a := 1) (sz := (W : Int)) (k := (kw : Int)) a.attr (by decide) (by omega)
  show (conv_axisOf (f + 3) s ((0 : Nat) : Int) (H : Int) (kh : Int)).bind _ = _
  rw [x0', ob_some]
  show (some (W : Int)).bind _ = _
  rw [ob_some]
  show (some (kw : Int)).bind _ = _
  rw [ob_some]
  show (conv_axisOf (f + 3) s ((1 : Nat) : Int) (W : Int) (kw : Int)).bind _ = _
  rw [x1', ob_some]
  show (tens_New (f + 3) 1 [(A : Int), ((gr * m : Nat) : Int), (C : Int), (D : Int)]).bind _ = _
  rw [New_spec (N := A * (gr * m * (C * D))) gd (by simp [prod]) (by omega), ob_some]
  refine each_spec (tV := elV s t0 t1 gr c m H W kh kw C D) gd (by omega) ?_ ?_
  · intro k hk
    have I := ix_of hk
    have := I.c; have := I.d
    exact hT _ _ _ _ I.a I.b I.c I.d (by omega) (by omega)
  · intro h2 h3
    cases rest with
    | nil => simp at h2
    | cons r rs =>
      have e : ((t0 :: t1 :: r :: rs).map canonT).getD 2 noT = canonT r := rfl
      rw [e] at h3 ⊢
      show (r.fF.map canonF).length = _
      rw [List.length_map]
      exact a.bias r rfl h3
end
theorem Do_k1 {fu : Nat} {s : T_Setting} {ts own : List T_Tensor} : conv_Do.k1 fu s ts own = k1G (fun w => conv_work_sum fu w) fu s ts own := rfl
theorem Do_head {fu : Nat} {s : T_Setting} {ts : List T_Tensor} (h : Tens fu ts) : conv_Do fu 75 s ts = match badV ts with | some e => some (noT, e) | none => conv_Do.k1 fu s ts (ts.map canonT) := by
  have e : conv_Do fu 75 s ts = conv_Do.W2 fu s ts [] 0 := rfl
  rw [e]; unfold conv_Do.W2
  exact head_loop h (er := fun e => some (noT, e)) (fun nx acc i => rfl)
theorem sized_of {ts : List T_Tensor} (h : ∀ t ∈ ts, t.fType = 0 ∨ checkV t = 0) : SizedV (ts.map valOf) := by
  intro v hv
  obtain ⟨t, ht, rfl⟩ := List.mem_map.1 hv
  by_cases h0 : t.fType = 0
  · left; unfold valOf; rw [if_pos h0]; exact ⟨rfl, rfl⟩
  · right; unfold valOf; rw [if_neg h0]; exact (checkV_zero.1 ((h t ht).resolve_left h0)).2.1
theorem k1G_bad {fu : Nat} {s : T_Setting} {ts own : List T_Tensor} {e : Int} {T : T_conv_work → Int → Int → Int → Int → Option Int} (hV : Tens fu ts) (he : e ≠ 0) (hN : infer_Node fu 75 s (ts.map valOf) 1 = some ([], e)) : k1G T fu s ts own = some (noT, e) := by
  unfold k1G
  rw [Vals_all hV, ob_some, hN, ob_some, if_neg he]
end Go.Av
set_option linter.unusedVariables false
namespace Go.Av
def offsetV (l xs : List Int) : Int × Int := if Good l then (if xs.length = l.length then (if okIx l xs = true then (offV l xs, 0) else (0, 2)) else (0, 2)) else (0, errS l)
theorem wk_idem (x : Int) : wk .i64 (wk .i64 x) = wk .i64 x := by
  have := wk_mul_l x 1
  simpa using this
theorem wk_hor (y p f : Int) : wk .i64 (wk .i64 y * p + f) = wk .i64 (y * p + f) := by
  rw [← wk_add_l (wk .i64 y * p), wk_mul_l, wk_add_l]
theorem refSizeW_spec {fu : Nat} {l : List Int} (hp : ∀ x ∈ l, 1 ≤ x ∧ x ≤ 4096) (hl : l.length ≤ 8) (hf : l.length < fu) : ref04_Size.W1 fu l 1 0 = some (if prod l ≤ 4096 then (prod l, 0) else (0, 4)) := by
  unfold ref04_Size.W1
  refine (cloop_ind (fun (s : Int × Int) => some (if s.1 * prod (l.drop s.2.toNat) ≤ 4096 then (s.1 * prod (l.drop s.2.toNat), 0) else (0, 4))) (fun s => 0 ≤ s.2 ∧ s.2 ≤ l.length ∧ 1 ≤ s.1 ∧ s.1 ≤ 4096) (fun s => l.length - s.2.toNat) ?_ fu (1, 0) (by simp) (by simp; omega)).trans (by simp)
  rintro ⟨m, i⟩ ⟨h0, h1, h2, h3⟩ next hn
  simp only at h0 h1 h2 h3 hn ⊢
  obtain ⟨k, rfl⟩ := Int.eq_ofNat_of_zero_le h0
  unfold ref04_Size.L1 ref04_Size.k2; try unfold jn
  simp only [Int.toNat_natCast]
  by_cases hk : k < l.length
  · obtain ⟨q1, q2⟩ := hp _ (List.getElem_mem hk)
    have hge : 1 ≤ m * l[k] := by have := Int.mul_le_mul h2 q1 (by decide) (by omega); simpa using this
    have hle : m * l[k] ≤ 4096 * 4096 := Int.mul_le_mul h3 q2 (by omega) (by decide)
    rw [if_pos (by omega), at?_get hk, ob_some, if_neg (by omega), ob_some, wk_eq (x := m * l[k]) (by omega) (by omega), List.drop_eq_getElem_cons hk]
    have hpos : 1 ≤ prod (l.drop (k + 1)) := prod_pos fun x hx => (hp x (List.mem_of_mem_drop hx)).1
    simp only [prod, ← Int.mul_assoc]
    by_cases hd : 4096 < m * l[k]
    · rw [if_pos hd]
      have : m * l[k] * 1 ≤ m * l[k] * prod (l.drop (k + 1)) := Int.mul_le_mul_of_nonneg_left hpos (by omega)
      rw [if_neg (by omega)]
    · rw [if_neg hd]
      rw [wk_succ (by omega), hn (m * l[k], ((k + 1 : Nat) : Int)) ⟨by simp only []; omega, by simp only []; omega, hge, by simp only []; omega⟩ (by simp; omega)]
      simp
  · rw [if_neg (by omega), List.drop_of_length_le (by omega)]
    simp only [prod, Int.mul_one]
    rw [if_pos h3]
theorem refSize_spec {fu : Nat} {l : List Int} (hl : Short l) (hf : l.length < fu) : ref04_Size fu l = some (sizeV l) := by
  unfold ref04_Size ref04_Size.W2; try unfold jn
  refine (cloop_ind (fun (s : Bool × Bool × Int) => cond ((l.drop s.2.2.toNat).any (fun x => decide (x < 0))) (some (0, 1)) (ref04_Size.k1 fu l (s.1 || (l.drop s.2.2.toNat).any (fun x => decide (x = 0))) (s.2.1 || (l.drop s.2.2.toNat).any (fun x => decide (4096 < x))))) (fun s => 0 ≤ s.2.2 ∧ s.2.2 ≤ l.length) (fun s => l.length - s.2.2.toNat) ?_ fu _ (by simp) (by simp; omega)).trans ?_
  · rintro ⟨z, b, i⟩ ⟨h0, h1⟩ next hn
    simp only at h0 h1 hn ⊢
    obtain ⟨k, rfl⟩ := Int.eq_ofNat_of_zero_le h0
    unfold ref04_Size.L2; try unfold jn
    simp only [Int.toNat_natCast]
    by_cases hk : k < l.length
    · rw [if_pos (by omega), at?_get hk, ob_some, List.drop_eq_getElem_cons hk]
      simp only [List.any_cons]
      by_cases h2 : l[k] < 0
      · rw [if_pos h2]; simp [h2]
      · rw [if_neg h2]
        have hx := fun z' b' => hn (z', b', ((k + 1 : Nat) : Int)) (by simp only []; omega) (by simp; omega)
        simp only [Int.toNat_natCast] at hx
        have hz : (if z = true then ref04_Size.k3 fu (fun x13 x14 x15 => next (x13, x14, x15)) b (k : Int) l[k] true else ref04_Size.k3 fu (fun x13 x14 x15 => next (x13, x14, x15)) b (k : Int) l[k] (decide (l[k] = 0))) = next (z || decide (l[k] = 0), b || decide (4096 < l[k]), wk .i64 ((k : Int) + 1)) := by
          unfold ref04_Size.k3
          cases z <;> cases b <;> simp
        rw [hz, wk_succ (by unfold Short at hl; omega), hx]
        simp only [Bool.or_assoc]
        simp [h2]
    · rw [if_neg (by omega), List.drop_of_length_le (by omega)]
      simp
  · simp only [Int.toNat_zero, List.drop_zero, Bool.false_or]
    by_cases h1 : l.any (fun x => decide (x < 0)) = true
    · rw [h1, cond_true]
      have hg : ¬ Good l := fun hg => by
        obtain ⟨x, hx, hx2⟩ := List.any_eq_true.1 h1
        have := (hg.2.1 x hx).1
        simp at hx2; omega
      simp only [sizeV, if_neg hg, errS, if_pos h1]
    have h1' : l.any (fun x => decide (x < 0)) = false := by simpa using h1
    rw [h1', cond_false]
    have he : errS l = 4 := by simp only [errS, if_neg h1]
    unfold ref04_Size.k1
    by_cases h2 : (decide (8 < (l.length : Int)) || l.any fun x => decide (4096 < x)) = true
    · rw [if_pos h2]
      have hg : ¬ Good l := fun hg => by
        rcases Bool.or_eq_true_iff.1 h2 with h3 | h3
        · have := hg.1; simp at h3; omega
        · obtain ⟨x, hx, hx2⟩ := List.any_eq_true.1 h3
          have := (hg.2.1 x hx).2
          simp at hx2; omega
      simp only [sizeV, if_neg hg, he]
    rw [if_neg h2]
    simp only [Bool.or_eq_true, decide_eq_true_eq, List.any_eq_true, not_or, not_exists, not_and] at h1 h2
    have hr : Rng l := fun x hx => by have := h1 x hx; have := h2.2 x hx; omega
    by_cases h4 : (l.any fun x => decide (x = 0)) = true
    · rw [if_pos h4]
      have hz : (0 : Int) ∈ l := by
        obtain ⟨x, hx, hx2⟩ := List.any_eq_true.1 h4
        simp at hx2; subst hx2; exact hx
      have hg : Good l := ⟨by omega, hr, by rw [prod_zero hz]; decide⟩
      simp only [sizeV, if_pos hg, prod_zero hz]
    rw [if_neg h4]
    have hp : ∀ x ∈ l, 1 ≤ x ∧ x ≤ 4096 := fun x hx => by
      have := hr x hx
      simp only [List.any_eq_true, decide_eq_true_eq, not_exists, not_and] at h4
      have := h4 x hx; omega
    rw [refSizeW_spec hp (by omega) hf]
    by_cases h5 : prod l ≤ 4096
    · have hg : Good l := ⟨by omega, hr, h5⟩
      simp only [sizeV, if_pos hg, if_pos h5]
    · have hg : ¬ Good l := fun hg => h5 hg.2.2
      simp only [sizeV, if_neg hg, if_neg h5, he]
theorem idx_step {a d P : Int} (ha : 0 ≤ a) (hd : 1 ≤ d) (hP : 1 ≤ P) : a % (d * P) / P = a / P % d ∧ a % (d * P) % P = a % P := by
  have h1 := Int.mul_ediv_add_emod a (d * P)
  have hdP : 0 < d * P := Int.mul_pos (by omega) (by omega)
  have hr := Int.emod_nonneg a (b := d * P) (by omega)
  have hr2 := Int.emod_lt_of_pos a hdP
  generalize a % (d * P) = r at h1 hr hr2 ⊢
  generalize a / (d * P) = q at h1
  have e : a = r + P * (d * q) := by rw [← h1, Int.mul_comm d P, Int.mul_assoc, Int.add_comm]
  have hq : r / P < d := Int.ediv_lt_of_lt_mul (by omega) hr2
  have hq0 : 0 ≤ r / P := Int.ediv_nonneg hr (by omega)
  rw [e, Int.add_mul_ediv_left _ _ (by omega : P ≠ 0), Int.add_mul_emod_self_left, Int.add_mul_emod_self_left, Int.emod_eq_of_lt hq0 hq]
  exact ⟨rfl, rfl⟩
theorem refIndexW_spec {fu : Nat} {l : List Int} {a : Int} (hg : Good l) (hn0 : 1 ≤ prod l) (ha : 0 ≤ a) (ha2 : a < prod l) (hf : l.length < fu) : ref04_Index.W1 fu l (List.replicate l.length 0) a (wk .i64 ((l.length : Int) - 1)) = some (idxV l a, 0) := by
  have hp := pos_of_good hg (by omega)
  have hd := prod_drop_le hp
  have h8 := hg.1
  have hP := hg.2.2
  rw [wk_eq (by omega) (by omega)]
  unfold ref04_Index.W1
  refine cloop_ind (fun _ => some (idxV l a, (0 : Int))) (fun (s : List Int × Int × Int) => ∃ k : Nat, k ≤ l.length ∧ s = (List.replicate k 0 ++ idxV (l.drop k) (a % prod (l.drop k)), a / prod (l.drop k), (k : Int) - 1)) (fun s => (s.2.2 + 1).toNat) ?_ fu _ ⟨l.length, Nat.le_refl _, by simp [idxV, prod]⟩ (by simp; omega)
  rintro _ ⟨k, hk, rfl⟩ next hn
  unfold ref04_Index.L1
  simp only
  match k, hk with
  | 0, _ =>
    rw [if_neg (by decide)]
    simp only [List.replicate_zero, List.nil_append, List.drop_zero]
    rw [Int.emod_eq_of_lt ha ha2]
  | k + 1, hk =>
    have e1 : (((k + 1 : Nat) : Int) - 1) = (k : Int) := by omega
    have hlen : (List.replicate (k + 1) (0 : Int) ++ idxV (l.drop (k + 1)) (a % prod (l.drop (k + 1)))).length = l.length := by simp [idxV_length]; omega
    have hq := hp l[k] (List.getElem_mem _)
    have hr := (hg.2.1 l[k] (List.getElem_mem _)).2
    obtain ⟨d1, d2⟩ := hd (k + 1)
    have q0 : 0 ≤ a / prod (l.drop (k + 1)) := Int.ediv_nonneg ha (by omega)
    have q1 : a / prod (l.drop (k + 1)) ≤ a := Int.ediv_le_self _ ha
    have q2 : 0 ≤ a / prod (l.drop (k + 1)) / l[k] := Int.ediv_nonneg q0 (by omega)
    have q3 : a / prod (l.drop (k + 1)) / l[k] ≤ a / prod (l.drop (k + 1)) := Int.ediv_le_self _ q0
    rw [e1, if_pos (by omega), hlen, at?_get (by omega), ob_some, chk_pos (by omega), chk_pos (by omega), Int.toNat_natCast, rep_set]
    rw [Int.tdiv_eq_ediv_of_nonneg q0, Int.tmod_eq_emod_of_nonneg q0, wk_eq (by omega) (by omega), wk_eq (x := (k : Int) - 1) (by omega) (by omega)]
    refine hn _ ⟨k, by omega, ?_⟩ (by simp)
    rw [List.drop_eq_getElem_cons (by omega : k < l.length)]
    obtain ⟨s1, s2⟩ := idx_step (P := prod (l.drop (k + 1))) ha hq d1
    simp only [prod, idxV, s1, s2]
    rw [Int.ediv_ediv_of_nonneg (by omega), Int.mul_comm]
theorem refIndex_spec {fu : Nat} {l : List Int} {a : Int} (hl : Short l) (hf : l.length < fu) : ref04_Index fu l a = some (indexV l a) := by
  unfold ref04_Index; try unfold jn
  rw [refSize_spec hl hf, ob_some]
  simp only [sizeV, indexV]
  by_cases hg : Good l
  · simp only [if_pos hg, if_true]
    by_cases h1 : a < 0
    · rw [if_pos h1, if_neg (by omega)]
    · rw [if_neg h1]
      by_cases h2 : prod l ≤ a
      · rw [if_pos h2, if_neg (by omega)]
      · rw [if_neg h2, if_pos (by omega)]
        unfold ref04_Index.k1
        have := hg.1
        rw [chk_pos (by omega), Int.toNat_natCast, refIndexW_spec hg (by omega) (by omega) (by omega) hf]
  · simp only [if_neg hg]
    rw [if_neg (errS_ne l)]
theorem offV_lt : ∀ {l xs : List Int}, (∀ x ∈ l, 0 ≤ x) → xs.length = l.length → okIx l xs = true → 0 ≤ offV l xs ∧ offV l xs < prod l
  | [], [], _, _, _ => by simp [offV, prod]
  | d :: l, x :: xs, hp, hl, h => by
    simp only [okIx, Bool.and_eq_true, decide_eq_true_eq] at h
    obtain ⟨h1, h2⟩ := offV_lt (l := l) (xs := xs) (fun y hy => hp y (by simp [hy])) (by simpa using hl) h.2
    simp only [offV, prod]
    have m1 : (x + 1) * prod l ≤ d * prod l := Int.mul_le_mul_of_nonneg_right (by omega) (by omega)
    rw [Int.add_mul, Int.one_mul] at m1
    have m2 : 0 ≤ x * prod l := Int.mul_nonneg h.1.1 (by omega)
    omega
theorem refOffset_spec {fu : Nat} {l xs : List Int} (hl : Short l) (hf : l.length < fu) : ref04_Offset fu l xs = some (offsetV l xs) := by
  unfold ref04_Offset
  rw [refSize_spec hl hf, ob_some]
  simp only [sizeV, offsetV]
  by_cases hg : Good l
  · simp only [if_pos hg, if_true]
    by_cases hx : xs.length = l.length
    · rw [if_pos (by omega), if_pos hx]
      unfold ref04_Offset.W1
      have hP := hg.2.2
      have h8 := hg.1
      refine (cloop_ind (fun s => some (if okIx (l.drop s.2.toNat) (xs.drop s.2.toNat) = true then (wk .i64 (s.1 * prod (l.drop s.2.toNat) + offV (l.drop s.2.toNat) (xs.drop s.2.toNat)), (0 : Int)) else (0, 2))) (fun (s : Int × Int) => 0 ≤ s.2 ∧ s.2 ≤ l.length ∧ ∃ s', s.1 = wk .i64 s') (fun s => l.length - s.2.toNat) ?_ fu _ ⟨by simp, by simp, 0, by decide⟩ (by simp; omega)).trans ?_
      · rintro ⟨o, i⟩ ⟨h0, h1, s', rfl⟩ next hn
        simp only at h0 h1 hn ⊢
        obtain ⟨k, rfl⟩ := Int.eq_ofNat_of_zero_le h0
        unfold ref04_Offset.L1 ref04_Offset.k1; try unfold jn
        simp only [Int.toNat_natCast]
        by_cases hk : k < l.length
        · have hkx : k < xs.length := by omega
          rw [if_pos (by omega), at?_get hkx, ob_some]
          rw [List.drop_eq_getElem_cons hk, List.drop_eq_getElem_cons hkx]
          simp only [okIx, offV, Bool.and_eq_true, decide_eq_true_eq]
          by_cases hx1 : xs[k] < 0
          · rw [if_pos hx1, if_neg (by omega)]
          rw [if_neg hx1, at?_get hk, ob_some]
          by_cases hx2 : l[k] ≤ xs[k]
          · rw [if_pos hx2, if_neg (by omega)]
          rw [if_neg hx2, ob_some, ob_some, wk_add_l, wk_succ (by omega)]
          rw [hn (wk .i64 (wk .i64 s' * l[k] + xs[k]), ((k + 1 : Nat) : Int)) ⟨by simp only []; omega, by simp only []; omega, _, rfl⟩ (by simp; omega)]
          simp only [Int.toNat_natCast]
          by_cases hok : okIx (l.drop (k + 1)) (xs.drop (k + 1)) = true
          · rw [if_pos hok, if_pos ⟨⟨by omega, by omega⟩, hok⟩, wk_hor, Int.add_mul, prod, ← Int.mul_assoc, Int.add_assoc]
          · rw [if_neg hok, if_neg (fun h => hok h.2)]
        · rw [if_neg (by omega), List.drop_of_length_le (by omega), List.drop_of_length_le (by omega)]
          simp [okIx, offV, prod, wk_idem]
      · simp only [Int.toNat_zero, List.drop_zero, Int.zero_mul, Int.zero_add]
        by_cases hok : okIx l xs = true
        · obtain ⟨b1, b2⟩ := offV_lt (fun x hx => (hg.2.1 x hx).1) hx hok
          rw [if_pos hok, if_pos hok, wk_eq (by omega) (by omega)]
        · rw [if_neg hok, if_neg hok]
    · rw [if_neg (by omega), if_neg hx]
  · simp only [if_neg hg]
    rw [if_neg (errS_ne l)]
end Go.Av
set_option linter.unusedVariables false
namespace Go.Av
def newV (k : Int) (d : List Int) : T_Tensor × Int :=
  if k = 1 ∨ k = 7 ∨ k = 9 then (if Good d then (if k = 1 then (⟨k, d, List.replicate (prod d).toNat 0, [], []⟩, 0) else if k = 7 then (⟨k, d, [], List.replicate (prod d).toNat 0, []⟩, 0) else (⟨k, d, [], [], List.replicate (prod d).toNat false⟩, 0)) else (noT, errS d)) else (noT, 5)
theorem refKnown_spec {fu : Nat} {k : Int} : ref05_Known fu k = some (decide (k = 1 ∨ k = 7 ∨ k = 9)) := by
  unfold ref05_Known
  by_cases h1 : k = 1
  · simp [h1]
  · by_cases h2 : k = 7
    · simp [h2]
    · by_cases h3 : k = 9 <;> simp [h1, h2, h3]
theorem refNew_spec {fu : Nat} {k : Int} {d : List Int} (hd : Short d) (hf : d.length < fu) : ref05_New fu k d = some (newV k d) := by
  unfold ref05_New newV
  rw [refKnown_spec, ob_some, refSize_spec hd hf, ob_some]
  by_cases hk : k = 1 ∨ k = 7 ∨ k = 9
  · rw [if_pos (by simpa using hk), if_pos hk]
    simp only [sizeV]
    by_cases hg : Good d
    · simp only [if_pos hg, if_true]
      have h1 := prod_nonneg hg.2.1
      have h2 := hg.2.2
      have h3 := hg.1
      rw [chk_pos (by omega), chk_pos (by omega), chk_pos (by omega), chk_pos (by omega)]
      by_cases e1 : k = 1
      · rw [if_pos e1, if_pos e1]
      · rw [if_neg e1, if_neg e1]
        by_cases e2 : k = 7
        · rw [if_pos e2, if_pos e2]
        · rw [if_neg e2, if_neg e2]
    · simp only [if_neg hg]
      rw [if_neg (errS_ne d)]
      rfl
  · rw [if_neg (by simpa using hk), if_neg hk]
    rfl
theorem newV_small (k : Int) (d : List Int) : (newV k d).1.fDims.length ≤ 8 ∧ (newV k d).1.fF.length ≤ 4096 ∧ (newV k d).1.fI.length ≤ 4096 ∧ (newV k d).1.fB.length ≤ 4096 := by
  unfold newV noT
  split
  · split
    · rename_i hg
      have h2 := hg.2.2
      have h3 := hg.1
      split
      · simp; omega
      · split <;> simp <;> omega
    · simp
  · simp
theorem refCheck_spec {fu : Nat} {t : T_Tensor} (hs : Small t) (hf : Fuel fu t) : ref05_Check fu t = some (checkV t) := by
  obtain ⟨s1, s2, s3, s4⟩ := hs
  unfold ref05_Check checkV; try unfold jn
  rw [refKnown_spec, ob_some, refSize_spec (by unfold Short; omega) hf.1]
  by_cases hk : Known t.fType
  · rw [if_pos (by simpa [Known] using hk), ob_some, if_pos hk]
    simp only [sizeV]
    by_cases hg : Good t.fDims
    · simp only [if_pos hg, if_true]
      unfold ref05_Check.k1 LensOK
      have key : ∀ a b c : Int, (if (t.fF.length : Int) = a then (if (t.fI.length : Int) = b then (if (t.fB.length : Int) = c then (some 0 : Option Int) else some 3) else some 3) else some 3) = some (if (t.fF.length : Int) = a ∧ (t.fI.length : Int) = b ∧ (t.fB.length : Int) = c then 0 else 3) := fun a b c => by
        by_cases h1 : (t.fF.length : Int) = a <;> by_cases h2 : (t.fI.length : Int) = b <;> by_cases h3 : (t.fB.length : Int) = c <;> simp [h1, h2, h3]
      rcases hk with e | e | e
      · simp only [e, show ¬ (1 : Int) = 7 by decide, show ¬ (1 : Int) = 9 by decide, if_false, if_true, key]
      · simp only [e, show ¬ (7 : Int) = 1 by decide, show ¬ (7 : Int) = 9 by decide, if_false, if_true, key]
      · simp only [e, show ¬ (9 : Int) = 1 by decide, show ¬ (9 : Int) = 7 by decide, if_false, if_true, key]
    · simp only [if_neg hg]
      rw [if_neg (errS_ne _)]
  · rw [if_neg (by simpa [Known] using hk), if_neg hk]
theorem pick_loop {σ α β : Type} (st : List α → Nat → σ) {B : (σ → Option β) → σ → Option β} {at_ : List Int} (bad : Int → Bool) (pk : Int → α) (z : α) {e : Option β} {c : List α → Option β}
    (hB : ∀ (next : σ → Option β) (k : Nat) (m : List α) (hk : k < at_.length), m.length = at_.length → B next (st m k) = if bad at_[k] = true then e else next (st (if 0 ≤ at_[k] then m.set k (pk at_[k]) else m) (k + 1)))
    (hE : ∀ (next : σ → Option β) (m : List α), m.length = at_.length → B next (st m at_.length) = c m) (hz : ∀ a, ¬ 0 ≤ a → pk a = z) {fu : Nat} (hf : at_.length < fu) :
    cloop B fu (st (List.replicate at_.length z) 0) = if at_.any bad = true then e else c (at_.map pk) := by
  have key : ∀ (f k : Nat), k ≤ at_.length → at_.length - k < f → cloop B f (st ((at_.take k).map pk ++ List.replicate (at_.length - k) z) k) = if (at_.drop k).any bad = true then e else c (at_.map pk) := by
    intro f
    induction f with
    | zero => intro k _ h; omega
    | succ f ih =>
      intro k hk hf
      by_cases hkn : k = at_.length
      · subst hkn
        show B _ _ = _
        have := hE (cloop B f) ((at_.take at_.length).map pk ++ List.replicate (at_.length - at_.length) z) (by simp)
        rw [this]
        simp
      · have hk' : k < at_.length := by omega
        show B _ _ = _
        rw [hB _ _ _ hk' (by simp; omega), List.drop_eq_getElem_cons hk', List.any_cons]
        by_cases hb : bad at_[k] = true
        · simp [hb]
        · rw [if_neg hb]
          have hm : (if 0 ≤ at_[k] then ((at_.take k).map pk ++ List.replicate (at_.length - k) z).set k (pk at_[k]) else (at_.take k).map pk ++ List.replicate (at_.length - k) z) = (at_.take (k + 1)).map pk ++ List.replicate (at_.length - (k + 1)) z := by
            have hr : List.replicate (at_.length - k) z = z :: List.replicate (at_.length - (k + 1)) z := by rw [show at_.length - k = at_.length - (k + 1) + 1 by omega, List.replicate_succ]
            have ht : at_.take (k + 1) = at_.take k ++ [at_[k]] := by rw [List.take_add_one, List.getElem?_eq_getElem hk']; rfl
            have hlen : ((at_.take k).map pk).length = k := by simp; omega
            rw [hr, ht, List.map_append, List.append_assoc]
            split
            · rw [List.set_append_right _ _ (by omega), hlen, Nat.sub_self]
              rfl
            · rename_i h0
              rw [List.map_singleton, hz _ h0]
              rfl
          rw [hm, ih (k + 1) (by omega) (by omega)]
          simp [hb]
  have := key fu 0 (by omega) (by omega)
  simpa using this
def badP (N : Int) (x : Int) : Bool := decide (x < -1) || decide (N ≤ x)
def pkOf {α : Type} (src : List α) (z : α) (a : Int) : α := if 0 ≤ a then src.getD a.toNat z else z
def pickV (t : T_Tensor) (d l : List Int) : T_Tensor × Int :=
  if checkV t = 0 then (if (newV t.fType d).2 = 0 then (if (l.length : Int) = prod d then (if l.any (badP (t.fF.length + t.fI.length + t.fB.length)) = true then (noT, 2) else
    (if t.fType = 1 then ⟨t.fType, d, l.map (pkOf t.fF 0), [], []⟩ else if t.fType = 7 then ⟨t.fType, d, [], l.map (pkOf t.fI 0), []⟩ else ⟨t.fType, d, [], [], l.map (pkOf t.fB false)⟩, 0)) else (noT, 3)) else (noT, (newV t.fType d).2)) else (noT, checkV t)
theorem at?_pk {α : Type} {src : List α} {z : α} {a : Int} (h0 : 0 ≤ a) (h : a < src.length) : at? src a = some (pkOf src z a) := by
  obtain ⟨k, rfl⟩ := Int.eq_ofNat_of_zero_le h0
  rw [at?_get (by omega), pkOf, if_pos h0, List.getD_eq_getElem?_getD, Int.toNat_natCast, List.getElem?_eq_getElem (by omega)]
  rfl
theorem pkOf_neg {α : Type} {src : List α} {z : α} {a : Int} (h : ¬ 0 ≤ a) : pkOf src z a = z := if_neg h
theorem newV_ok {k : Int} {d : List Int} (h : (newV k d).2 = 0) : Known k ∧ Good d ∧ newV k d = (if k = 1 then (⟨k, d, List.replicate (prod d).toNat 0, [], []⟩, 0) else if k = 7 then (⟨k, d, [], List.replicate (prod d).toNat 0, []⟩, 0) else (⟨k, d, [], [], List.replicate (prod d).toNat false⟩, 0)) := by
  unfold newV at h ⊢
  by_cases hk : k = 1 ∨ k = 7 ∨ k = 9
  · rw [if_pos hk] at h ⊢
    by_cases hg : Good d
    · rw [if_pos hg]
      exact ⟨hk, hg, rfl⟩
    · rw [if_neg hg] at h
      exact absurd h (errS_ne d)
  · rw [if_neg hk] at h
    cases h
theorem sumW {a b c : Nat} (h1 : a ≤ 140737488355328) (h2 : b ≤ 140737488355328) (h3 : c ≤ 140737488355328) : wk .i64 ((wk .i64 ((a : Int) + (b : Int))) + (c : Int)) = (a : Int) + b + c := by
  rw [wk_add_l, wk_eq (by omega) (by omega)]
theorem notbad {N : Int} {l : List Int} (h : ¬ l.any (badP N) = true) {k : Nat} (hk : k < l.length) : -1 ≤ l[k] ∧ l[k] < N := by
  have := h
  simp only [List.any_eq_true, not_exists, not_and, badP, Bool.or_eq_true, decide_eq_true_eq] at this
  have := this _ (List.getElem_mem hk)
  omega
theorem refPick_spec {fu : Nat} {t : T_Tensor} {d l : List Int} (hs : Small t) (hf : Fuel fu t) (hd : Short d) (hfd : d.length < fu) (hl : Short l) (hfl : l.length < fu) : ref05_Pick fu t d l = some (pickV t d l) := by
  unfold ref05_Pick pickV
  rw [refCheck_spec hs hf, ob_some]
  by_cases hc : checkV t = 0
  · rw [if_pos hc, if_pos hc, refNew_spec hd hfd, ob_some]
    obtain ⟨_, hg0, hlen⟩ := checkV_zero.1 hc
    obtain ⟨s1, s2, s3, s4⟩ := hs
    by_cases hn : (newV t.fType d).2 = 0
    · obtain ⟨hk, hg, e⟩ := newV_ok hn
      rw [if_pos hn, if_pos hn, refSize_spec hd hfd, ob_some]
      have hpn := prod_nonneg hg.2.1
      have hp4 := hg.2.2
      unfold Short at hl
      simp only [sizeV, if_pos hg]
      by_cases hll : (l.length : Int) = prod d
      · rw [if_pos hll, if_pos hll]
        have hnl : (prod d).toNat = l.length := by omega
        have hN : wk .i64 ((wk .i64 ((t.fF.length : Int) + (t.fI.length : Int))) + (t.fB.length : Int)) = t.fF.length + t.fI.length + t.fB.length := sumW (by omega) (by omega) (by omega)
        obtain ⟨l1, l2, l3⟩ := hlen
        have hbad : ∀ {k : Nat} (hk : k < l.length) {R : Option (T_Tensor × Int)}, (if l[k] < -1 then some (noT, (2 : Int)) else if (t.fF.length : Int) + t.fI.length + t.fB.length ≤ l[k] then some (noT, 2) else R) = if badP (t.fF.length + t.fI.length + t.fB.length) l[k] = true then some (noT, 2) else R := fun {k} hk {R} => by
          unfold badP
          by_cases h1 : l[k] < -1
          · simp [h1]
          · by_cases h2 : (t.fF.length : Int) + t.fI.length + t.fB.length ≤ l[k] <;> simp [h1, h2]
        have hwrap : ∀ {a b : T_Tensor × Int}, (if (l.any (badP (t.fF.length + t.fI.length + t.fB.length)) = true) then (some a) else some b) = some (if (l.any (badP (t.fF.length + t.fI.length + t.fB.length)) = true) then a else b) := fun {a b} => by split <;> rfl
        rcases hk with e1 | e1 | e1
        · rw [e1] at e
          simp only [if_true] at e
          simp only [e1, e, if_true, show ¬ (1 : Int) = 7 by decide, show ¬ (1 : Int) = 9 by decide, if_false, hnl] at l1 l2 l3 ⊢
          unfold ref05_Pick.W1
          refine (pick_loop (fun (m : List Int) (k : Nat) => (m, ([] : List Int), ([] : List Bool), (k : Int))) (badP (t.fF.length + t.fI.length + t.fB.length)) (pkOf t.fF 0) 0 (e := some (noT, 2)) (c := fun m => some (⟨1, d, m, [], []⟩, 0)) ?_ ?_ (fun a => pkOf_neg) hfl).trans hwrap
          · intro next k m hk hm
            unfold ref05_Pick.L1; try unfold jn
            simp only []
            rw [hN, if_pos (by omega), at?_get hk, ob_some]
            refine Eq.trans (hbad hk) ?_
            by_cases hb : badP (t.fF.length + t.fI.length + t.fB.length) l[k] = true
            · rw [if_pos hb, if_pos hb]
            · rw [if_neg hb, if_neg hb]
              unfold ref05_Pick.k1 ref05_Pick.c2 jc
              have hnb : -1 ≤ l[k] ∧ l[k] < (t.fF.length : Int) + t.fI.length + t.fB.length := by
                simp only [badP, Bool.or_eq_true, decide_eq_true_eq] at hb; omega
              simp only [Int.toNat_natCast]
              rw [at?_get hk, ob_some, wk_succ (by omega)]
              by_cases ha : 0 ≤ l[k]
              · rw [if_pos ha, if_pos ha, if_pos trivial, at?_pk (z := 0) ha (by omega), ob_some, chk_pos (by omega), chk_pos (by simp), chk_pos trivial, chk_pos trivial]
              · rw [if_neg ha, if_neg ha]
          · intro next m hm
            unfold ref05_Pick.L1; try unfold jn
            rw [if_neg (by simp only []; omega)]
        · rw [e1] at e
          simp only [show ¬ (7 : Int) = 1 by decide, if_false, if_true] at e
          simp only [e1, e, if_true, show ¬ (7 : Int) = 1 by decide, show ¬ (7 : Int) = 9 by decide, if_false, hnl] at l1 l2 l3 ⊢
          unfold ref05_Pick.W1
          refine (pick_loop (fun (m : List Int) (k : Nat) => (([] : List Int), m, ([] : List Bool), (k : Int))) (badP (t.fF.length + t.fI.length + t.fB.length)) (pkOf t.fI 0) 0 (e := some (noT, 2)) (c := fun m => some (⟨7, d, [], m, []⟩, 0)) ?_ ?_ (fun a => pkOf_neg) hfl).trans hwrap
          · intro next k m hk hm
            unfold ref05_Pick.L1; try unfold jn
            simp only []
            rw [hN, if_pos (by omega), at?_get hk, ob_some]
            refine Eq.trans (hbad hk) ?_
            by_cases hb : badP (t.fF.length + t.fI.length + t.fB.length) l[k] = true
            · rw [if_pos hb, if_pos hb]
            · rw [if_neg hb, if_neg hb]
              unfold ref05_Pick.k1 ref05_Pick.c2 jc
              have hnb : -1 ≤ l[k] ∧ l[k] < (t.fF.length : Int) + t.fI.length + t.fB.length := by
                simp only [badP, Bool.or_eq_true, decide_eq_true_eq] at hb; omega
              simp only [Int.toNat_natCast]
              rw [at?_get hk, ob_some, wk_succ (by omega)]
              by_cases ha : 0 ≤ l[k]
              · rw [if_pos ha, if_pos ha, if_neg (by decide), if_pos trivial, at?_pk (z := 0) ha (by omega), ob_some, chk_pos (by omega), chk_pos trivial, chk_pos (by simp), chk_pos trivial]
              · rw [if_neg ha, if_neg ha]
          · intro next m hm
            unfold ref05_Pick.L1; try unfold jn
            rw [if_neg (by simp only []; omega)]
        · rw [e1] at e
          simp only [show ¬ (9 : Int) = 1 by decide, show ¬ (9 : Int) = 7 by decide, if_false] at e
          simp only [e1, e, if_true, show ¬ (9 : Int) = 1 by decide, show ¬ (9 : Int) = 7 by decide, if_false, hnl] at l1 l2 l3 ⊢
          unfold ref05_Pick.W1
          refine (pick_loop (fun (m : List Bool) (k : Nat) => (([] : List Int), ([] : List Int), m, (k : Int))) (badP (t.fF.length + t.fI.length + t.fB.length)) (pkOf t.fB false) false (e := some (noT, 2)) (c := fun m => some (⟨9, d, [], [], m⟩, 0)) ?_ ?_ (fun a => pkOf_neg) hfl).trans hwrap
          · intro next k m hk hm
            unfold ref05_Pick.L1; try unfold jn
            simp only []
            rw [hN, if_pos (by omega), at?_get hk, ob_some]
            refine Eq.trans (hbad hk) ?_
            by_cases hb : badP (t.fF.length + t.fI.length + t.fB.length) l[k] = true
            · rw [if_pos hb, if_pos hb]
            · rw [if_neg hb, if_neg hb]
              unfold ref05_Pick.k1 ref05_Pick.c2 jc
              have hnb : -1 ≤ l[k] ∧ l[k] < (t.fF.length : Int) + t.fI.length + t.fB.length := by
                simp only [badP, Bool.or_eq_true, decide_eq_true_eq] at hb; omega
              simp only [Int.toNat_natCast]
              rw [at?_get hk, ob_some, wk_succ (by omega)]
              by_cases ha : 0 ≤ l[k]
              · rw [if_pos ha, if_pos ha, if_neg (by decide), if_neg (by decide), at?_pk (z := false) ha (by omega), ob_some, chk_pos (by omega), chk_pos trivial, chk_pos trivial, chk_pos (by simp)]
              · rw [if_neg ha, if_neg ha]
          · intro next m hm
            unfold ref05_Pick.L1; try unfold jn
            rw [if_neg (by simp only []; omega)]
      · rw [if_neg hll, if_neg hll]; rfl
    · rw [if_neg hn, if_neg hn]; rfl
  · rw [if_neg hc, if_neg hc]; rfl
/-- a list that is made anew, one after the other -/
theorem pickV_small (t : T_Tensor) (d l : List Int) : (pickV t d l).1.fDims.length ≤ 8 ∧ (pickV t d l).1.fF.length ≤ 4096 ∧ (pickV t d l).1.fI.length ≤ 4096 ∧ (pickV t d l).1.fB.length ≤ 4096 := by
  unfold pickV
  split
  · split
    · rename_i hn
      obtain ⟨hk, hg, e⟩ := newV_ok hn
      have h2 := hg.2.2
      have h3 := hg.1
      split
      · split
        · simp [noT]
        · split
          · simp; omega
          · split <;> simp <;> omega
      · simp [noT]
    · simp [noT]
  · simp [noT]
end Go.Av
set_option linter.unusedVariables false
namespace Go.Av
def srcV (P o k : Nat) : Nat := k / P * (2 * P) + o + k % P
def halfV (t : T_Tensor) (A P o : Nat) (d : List Int) : T_Tensor := ⟨1, d, (List.range (A * P)).map fun k => t.fF.getD (srcV P o k) 0, [], []⟩
theorem src_lt {A P o k : Nat} (hk : k < A * P) (ho : o ≤ P) : srcV P o k < A * (2 * P) := by
  unfold srcV
  have hP : 0 < P := Nat.pos_of_ne_zero fun h => by subst h; omega
  have h1 : k / P < A := Nat.div_lt_of_lt_mul (by rw [Nat.mul_comm]; exact hk)
  have h2 := Nat.mod_lt k hP
  rw [Nat.add_assoc]
  exact two_lt h1 (by omega)
section
variable {fu : Nat} {t : T_Tensor} {A c H W : Nat} {second : Bool}
theorem half_good (hg : Good [(A : Int), ((2 * c : Nat) : Int), (H : Int), (W : Int)]) : Good [(A : Int), (c : Int), (H : Int), (W : Int)] := by
  have hr := hg.2.1
  have a := hr (A : Int) (by simp)
  have b := hr ((2 * c : Nat) : Int) (by simp)
  have d := hr (H : Int) (by simp)
  have e := hr (W : Int) (by simp)
  refine ⟨by simp, fun z hz => ?_, ?_⟩
  · simp at hz; omega
  · have e1 : prod [(A : Int), (c : Int), (H : Int), (W : Int)] = ((A * (c * (H * W)) : Nat) : Int) := by simp [prod]
    have e2 : prod [(A : Int), ((2 * c : Nat) : Int), (H : Int), (W : Int)] = ((A * (2 * c * (H * W)) : Nat) : Int) := by simp [prod]
    have h := hg.2.2
    rw [e2] at h
    rw [e1]
    have : A * (c * (H * W)) ≤ A * (2 * c * (H * W)) := Nat.mul_le_mul_left _ (Nat.mul_le_mul_right _ (by omega))
    omega
/-- where an element of the half stands in the whole -/
theorem src_off {k : Nat} {o : Nat} (hk : k < A * (c * (H * W))) :
    offV [(A : Int), ((2 * c : Nat) : Int), (H : Int), (W : Int)] [((k / (c * (H * W)) : Nat) : Int), ((k % (c * (H * W)) / (H * W) + o : Nat) : Int), ((k % (c * (H * W)) % (H * W) / W : Nat) : Int), ((k % (c * (H * W)) % (H * W) % W : Nat) : Int)] = ((srcV (c * (H * W)) (o * (H * W)) k : Nat) : Int) := by
  have e1 : prod [((2 * c : Nat) : Int), (H : Int), (W : Int)] = ((2 * (c * (H * W)) : Nat) : Int) := by
    rw [← Nat.mul_assoc]; simp [prod]
  have e2 : prod [(H : Int), (W : Int)] = ((H * W : Nat) : Int) := by simp [prod]
  have e3 : prod [(W : Int)] = (W : Int) := by simp [prod]
  have h1 := Nat.div_add_mod' (k % (c * (H * W))) (H * W)
  have h2 := Nat.div_add_mod' (k % (c * (H * W)) % (H * W)) W
  unfold srcV
  generalize k % (c * (H * W)) = q at *
  generalize k / (c * (H * W)) = i at *
  simp only [offV, e1, e2, e3]
  show ((i : Nat) : Int) * ((2 * (c * (H * W)) : Nat) : Int) + (((q / (H * W) + o : Nat) : Int) * ((H * W : Nat) : Int) + (((q % (H * W) / W : Nat) : Int) * (W : Int) + (((q % (H * W) % W : Nat) : Int) * prod [] + 0))) = _
  rw [show prod [] = 1 from rfl, Int.mul_one, Int.add_zero, ← Int.natCast_mul, ← Int.natCast_mul, ← Int.natCast_mul, ← Int.natCast_add, ← Int.natCast_add, ← Int.natCast_add]
  congr 1
  rw [Nat.add_mul, Nat.add_assoc, Nat.add_assoc]
  congr 1
  generalize q / (H * W) * (H * W) = z at *
  generalize q % (H * W) / W * W = y at *
  omega
theorem half_spec (ht : t.fType = 1) (hd : t.fDims = [(A : Int), ((2 * c : Nat) : Int), (H : Int), (W : Int)]) (hc : checkV t = 0) (hs : Small t) (hft : Fuel fu t) (hf : 10000 < fu) :
    law15_half fu t second = some (halfV t A (c * (H * W)) (if second = true then c * (H * W) else 0) [(A : Int), (c : Int), (H : Int), (W : Int)]) := by
  obtain ⟨hg, hl, hb, hI, hB⟩ := lens_F ht hc
  rw [hd] at hg hl
  have gd := half_good hg
  have hr := hg.2.1
  have b := hr ((2 * c : Nat) : Int) (by simp)
  have e1 : prod [(A : Int), (c : Int), (H : Int), (W : Int)] = ((A * (c * (H * W)) : Nat) : Int) := by simp [prod]
  have e2 : prod [(A : Int), ((2 * c : Nat) : Int), (H : Int), (W : Int)] = ((A * (2 * (c * (H * W))) : Nat) : Int) := by
    rw [← Nat.mul_assoc 2]; simp [prod]
  have hn := gd.2.2
  rw [e1] at hn
  rw [e2] at hl
  have hl' : t.fF.length = A * (2 * (c * (H * W))) := by omega
  have ew : wk .i64 (Int.tdiv ((2 * c : Nat) : Int) 2) = (c : Int) := by
    rw [Int.tdiv_eq_ediv_of_nonneg (Int.natCast_nonneg _), wk_eq (by omega) (by omega)]; omega
  unfold law15_half jn
  rw [hd]
  show (some (A : Int)).bind _ = _
  rw [ob_some]
  show (some ((2 * c : Nat) : Int)).bind _ = _
  rw [ob_some]
  show (some (H : Int)).bind _ = _
  rw [ob_some]
  show (some (W : Int)).bind _ = _
  rw [ob_some, ew, refSize_spec (by unfold Short; simp) (by simp; omega), ob_some, sizeV, if_pos gd, e1]
  generalize ho : (if second = true then c * (H * W) else 0) = o
  have hoP : o ≤ c * (H * W) := by rw [← ho]; split <;> omega
  unfold law15_half.W1
  have hz : ([(A : Int), (c : Int), (H : Int), (W : Int)], ([] : List Int), second, (0 : Int)) = (fun k : Nat => ([(A : Int), (c : Int), (H : Int), (W : Int)], (List.range k).map (fun k => ((srcV (c * (H * W)) o k : Nat) : Int)), second, (k : Int))) 0 := by simp
  rw [hz]
  refine cloop_to (A * (c * (H * W))) (fun k : Nat => ([(A : Int), (c : Int), (H : Int), (W : Int)], (List.range k).map (fun k => ((srcV (c * (H * W)) o k : Nat) : Int)), second, (k : Int))) _ ?_ ?_ (by omega)
  · intro k hk next hn2
    have I := ix_of hk
    have hk1 : k < A * (c * (H * W)) := hk
    have hix : indexV [(A : Int), (c : Int), (H : Int), (W : Int)] (k : Int) = ([((k / (c * (H * W)) : Nat) : Int), ((k % (c * (H * W)) / (H * W) : Nat) : Int), ((k % (c * (H * W)) % (H * W) / W : Nat) : Int), ((k % (c * (H * W)) % (H * W) % W : Nat) : Int)], 0) := by
      unfold indexV
      rw [if_pos gd, if_pos (by rw [e1]; omega), ix4 hk]
    show law15_half.L1 fu t (((A * (c * (H * W)) : Nat) : Int), 0) _ [(A : Int), (c : Int), (H : Int), (W : Int)] ((List.range k).map (fun k => ((srcV (c * (H * W)) o k : Nat) : Int))) second (k : Int) = _
    rw [law15_half.L1, if_pos (show (k : Int) < (((A * (c * (H * W)) : Nat) : Int), (0 : Int)).1 by show (k : Int) < ((A * (c * (H * W)) : Nat) : Int); omega), refIndex_spec (by unfold Short; simp) (by simp; omega), ob_some, hix]
    have hk2 : ∀ (j : Nat) (sb : Bool), sb = second → j = k % (c * (H * W)) / (H * W) + o / (H * W) → o = o / (H * W) * (H * W) → j < 2 * c →
        law15_half.k2 fu (fun x17 x18 x19 x20 => next (x17, x18, x19, x20)) t [(A : Int), (c : Int), (H : Int), (W : Int)] ((List.range k).map (fun k => ((srcV (c * (H * W)) o k : Nat) : Int))) (k : Int) [((k / (c * (H * W)) : Nat) : Int), (j : Int), ((k % (c * (H * W)) % (H * W) / W : Nat) : Int), ((k % (c * (H * W)) % (H * W) % W : Nat) : Int)] sb = some (halfV t A (c * (H * W)) o [(A : Int), (c : Int), (H : Int), (W : Int)]) := fun j sb hsb hj ho2 hj2 => by
      subst hsb
      unfold law15_half.k2
      have hsrc := src_off (A := A) (o := o / (H * W)) hk1
      rw [← ho2] at hsrc
      rw [hj] at hj2 ⊢
      have ia := I.a; have ic := I.c; have id := I.d
      have hoff : offsetV [(A : Int), ((2 * c : Nat) : Int), (H : Int), (W : Int)] [((k / (c * (H * W)) : Nat) : Int), ((k % (c * (H * W)) / (H * W) + o / (H * W) : Nat) : Int), ((k % (c * (H * W)) % (H * W) / W : Nat) : Int), ((k % (c * (H * W)) % (H * W) % W : Nat) : Int)] = (((srcV (c * (H * W)) o k : Nat) : Int), 0) := by
        unfold offsetV
        rw [if_pos hg, if_pos (by simp only [List.length_cons, List.length_nil]), if_pos, hsrc]
        generalize k / (c * (H * W)) = i0 at *
        generalize k % (c * (H * W)) % (H * W) / W = i2 at *
        generalize k % (c * (H * W)) % (H * W) % W = i3 at *
        generalize k % (c * (H * W)) / (H * W) + o / (H * W) = i1 at *
        simp only [okIx, Bool.and_true, Bool.and_eq_true, decide_eq_true_eq]
        omega
      rw [hd, refOffset_spec (by unfold Short; simp) (by simp; omega), ob_some, hoff, chk_pos (by simp; omega), wk_succ (by omega)]
      rw [List.range_succ, List.map_append] at hn2
      exact hn2
    have hHW : 0 < H * W := Nat.pos_of_ne_zero fun h => by rw [h] at hk1; simp at hk1
    unfold jn
    by_cases hsec : second = true
    · rw [if_pos hsec]
      rw [if_pos hsec] at ho
      show (some ((k % (c * (H * W)) / (H * W) : Nat) : Int)).bind _ = _
      rw [ob_some]
      show (some (c : Int)).bind _ = _
      have ib := I.b
      rw [ob_some, chk_pos (by simp), wkn_add (by omega)]
      exact hk2 (k % (c * (H * W)) / (H * W) + c) true hsec.symm (by rw [← ho, Nat.mul_div_cancel _ hHW]) (by rw [← ho, Nat.mul_div_cancel _ hHW]) (by omega)
    · rw [if_neg hsec]
      rw [if_neg hsec] at ho
      have ib := I.b
      exact hk2 (k % (c * (H * W)) / (H * W)) false (by simpa using (Bool.eq_false_iff.2 hsec).symm) (by rw [← ho]; simp) (by rw [← ho]; simp) (by omega)
  · intro next
    show law15_half.L1 fu t (((A * (c * (H * W)) : Nat) : Int), 0) _ [(A : Int), (c : Int), (H : Int), (W : Int)] ((List.range (A * (c * (H * W)))).map (fun k => ((srcV (c * (H * W)) o k : Nat) : Int))) second ((A * (c * (H * W)) : Nat) : Int) = _
    rw [law15_half.L1, if_neg (show ¬ ((A * (c * (H * W)) : Nat) : Int) < (((A * (c * (H * W)) : Nat) : Int), (0 : Int)).1 by show ¬ ((A * (c * (H * W)) : Nat) : Int) < ((A * (c * (H * W)) : Nat) : Int); omega)]
    unfold law15_half.k1
    have hpick := refPick_spec (fu := fu) (t := t) (d := [(A : Int), (c : Int), (H : Int), (W : Int)]) (l := (List.range (A * (c * (H * W)))).map (fun k => ((srcV (c * (H * W)) o k : Nat) : Int))) hs hft (by unfold Short; simp) (by simp; omega) (by unfold Short; simp; omega) (by simp; omega)
    rw [hpick, ob_some]
    have hnew : (newV t.fType [(A : Int), (c : Int), (H : Int), (W : Int)]).2 = 0 := by
      rw [ht]; unfold newV
      simp [gd]
    have hbad : ¬ ((List.range (A * (c * (H * W)))).map (fun k => ((srcV (c * (H * W)) o k : Nat) : Int))).any (badP (t.fF.length + t.fI.length + t.fB.length)) = true := by
      rw [List.any_eq_true]
      rintro ⟨x, hx, hb2⟩
      obtain ⟨k, hk, rfl⟩ := List.mem_map.1 hx
      have := src_lt (List.mem_range.1 hk) hoP
      simp [badP] at hb2
      omega
    unfold pickV halfV
    rw [if_pos hc, if_pos hnew, if_pos (by rw [e1]; simp), if_neg hbad, if_pos ht, ht]
    rw [List.map_map]
    have hm : (List.range (A * (c * (H * W)))).map (pkOf t.fF 0 ∘ fun k => ((srcV (c * (H * W)) o k : Nat) : Int)) = (List.range (A * (c * (H * W)))).map fun k => t.fF.getD (srcV (c * (H * W)) o k) 0 := by
     refine List.map_congr_left fun k hk => ?_
     show pkOf t.fF 0 ((srcV (c * (H * W)) o k : Nat) : Int) = _
     unfold pkOf
     rw [if_pos (by omega), Int.toNat_natCast]
    rw [hm]
end
end Go.Av
set_option linter.unusedVariables false
namespace Go.Av
theorem flatMap_same {α β : Type} {f f' : α → List β} : ∀ {l : List α}, (∀ x ∈ l, f x = f' x) → l.flatMap f = l.flatMap f'
  | [], _ => rfl
  | x :: l, h => by rw [List.flatMap_cons, List.flatMap_cons, h x (by simp), flatMap_same fun y hy => h y (by simp [hy])]
theorem filterMap_same {α β : Type} {f f' : α → Option β} : ∀ {l : List α}, (∀ x ∈ l, f x = f' x) → l.filterMap f = l.filterMap f'
  | [], _ => rfl
  | x :: l, h => by rw [List.filterMap_cons, List.filterMap_cons, h x (by simp), filterMap_same fun y hy => h y (by simp [hy])]
section
variable {s1 s2 : T_Setting} {x y hx own : T_Tensor} {A c m H W kh kw : Nat} {h w : T_conv_axis}
theorem canon_getD {t : T_Tensor} {i : Nat} (hi : i < t.fF.length) : (canonT t).fF.getD i 0 = canonF (t.fF.getD i 0) := by
  show (t.fF.map canonF).getD i 0 = _
  rw [List.getD_eq_getElem?_getD, List.getD_eq_getElem?_getD, List.getElem?_map, List.getElem?_eq_getElem hi]; rfl
/-- where the half's element stands in the whole image -/
theorem ix_half {i k m g o : Nat} {r t : Int} (hk : k < m) (hg : g < c) (hr : 0 ≤ r ∧ r < (H : Int)) (ht : 0 ≤ t ∧ t < (W : Int)) :
    srcV (c * (H * W)) (o * (c * (H * W))) (ixV 1 c H W i k m g r t) = ixV 2 c H W i (k + o * m) m g r t := by
  unfold ixV srcV
  have hlt : (g * H + r.toNat) * W + t.toNat < c * H * W := two_lt (two_lt hg (by omega)) (by omega)
  have e0 : k / m = 0 := Nat.div_eq_of_lt hk
  have e1 : (k + o * m) / m = o := by rw [Nat.add_mul_div_right _ _ (by omega), Nat.div_eq_of_lt hk]; omega
  rw [e0, e1, Nat.one_mul, Nat.zero_mul, Nat.add_zero]
  have hs : ((i * c + g) * H + r.toNat) * W + t.toNat = i * (c * (H * W)) + ((g * H + r.toNat) * W + t.toNat) := by
    simp only [Nat.add_mul, Nat.mul_assoc, Nat.add_assoc]
  have hP : 0 < c * (H * W) := by rw [← Nat.mul_assoc]; omega
  have hlt' : (g * H + r.toNat) * W + t.toNat < c * (H * W) := by rw [← Nat.mul_assoc]; exact hlt
  have hd : (i * (c * (H * W)) + ((g * H + r.toNat) * W + t.toNat)) / (c * (H * W)) = i := by
    rw [Nat.mul_comm, Nat.mul_add_div hP, Nat.div_eq_of_lt hlt']; omega
  have hm : (i * (c * (H * W)) + ((g * H + r.toNat) * W + t.toNat)) % (c * (H * W)) = (g * H + r.toNat) * W + t.toNat := by
    rw [Nat.mul_comm, Nat.mul_add_mod, Nat.mod_eq_of_lt hlt']
  rw [hs, hd, hm]
  simp only [Nat.add_mul, Nat.mul_assoc, Nat.add_assoc]
theorem iy_half {k m g p q o : Nat} : o * (m * c * kh * kw) + iyV c kh kw k g p q = iyV c kh kw (k + o * m) g p q := by
  unfold iyV
  simp only [Nat.add_mul, Nat.mul_assoc]
  omega
/-- the terms of one group are the terms of the half by itself -/
theorem terms_half {o i k a b : Nat} (E1 : Cv s1 (canonT hx) (canonT own) A 1 c m H W kh kw h w) (E2 : Cv s2 (canonT x) (canonT y) A 2 c m H W kh kw h w) (ho : o < 2)
    (hX : ∀ e, e < A * (c * (H * W)) → hx.fF.getD e 0 = x.fF.getD (srcV (c * (H * W)) (o * (c * (H * W))) e) 0) (hY : ∀ e, e < m * c * kh * kw → own.fF.getD e 0 = y.fF.getD (o * (m * c * kh * kw) + e) 0)
    (hi : i < A) (hk : k < m) : termsV (canonT hx) (canonT own) 1 c m H W kh kw h w i k a b = termsV (canonT x) (canonT y) 2 c m H W kh kw h w i (k + o * m) a b := by
  have hk1 : k < 1 * m := by omega
  have hk2 : k + o * m < 2 * m := by
    have : o = 0 ∨ o = 1 := by omega
    rcases this with rfl | rfl <;> omega
  unfold termsV
  refine flatMap_same fun g hg => ?_
  have hg := List.mem_range.1 hg
  unfold termsG
  refine flatMap_same fun p hp => ?_
  have hp := List.mem_range.1 hp
  unfold rowT
  refine filterMap_same fun q hq => ?_
  have hq := List.mem_range.1 hq
  unfold cellV
  by_cases hin : inV h a p = true ∧ inV w b q = true
  · rw [if_pos hin, if_pos hin]
    have hr := of_decide_eq_true hin.1
    rw [E1.ah.size] at hr
    have ht := of_decide_eq_true hin.2
    rw [E1.aw.size] at ht
    have l1 := ix_lt (gr := 1) (c := c) (m := m) (x0 := A) E1.m0 hi hk1 hg hr ht
    have l2 := ix_lt (gr := 2) (c := c) (m := m) (x0 := A) E2.m0 hi hk2 hg hr ht
    have y1 := iy_lt (gr := 1) (c := c) (m := m) hk1 hg hp hq
    have y2 := iy_lt (gr := 2) (c := c) (m := m) hk2 hg hp hq
    have n1 : hx.fF.length = A * (1 * c) * H * W := by have := E1.lX; rwa [show (canonT hx).fF = hx.fF.map canonF from rfl, List.length_map] at this
    have n2 : x.fF.length = A * (2 * c) * H * W := by have := E2.lX; rwa [show (canonT x).fF = x.fF.map canonF from rfl, List.length_map] at this
    have n3 : own.fF.length = 1 * m * c * kh * kw := by have := E1.lY; rwa [show (canonT own).fF = own.fF.map canonF from rfl, List.length_map] at this
    have n4 : y.fF.length = 2 * m * c * kh * kw := by have := E2.lY; rwa [show (canonT y).fF = y.fF.map canonF from rfl, List.length_map] at this
    rw [canon_getD (by rw [n1]; exact l1), canon_getD (by rw [n3]; exact y1), canon_getD (by rw [n2]; exact l2), canon_getD (by rw [n4]; exact y2)]
    rw [hX _ (by rw [mul4]; rw [Nat.one_mul] at l1; exact l1), hY _ (by rw [Nat.one_mul] at y1; exact y1), ix_half hk hg hr ht, iy_half]
  · rw [if_neg hin, if_neg hin]
end
end Go.Av
