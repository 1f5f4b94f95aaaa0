/- Layer 4, shapes: what the plain functions come to. Strides, indices, offsets. Shapes brought together. From a place to where it stands in a smaller shape; ShapeBoth: the law over the plain functions. Layer 5: sameness, whether a tensor may be, copies whose no numbers are one. Floats: a product and a sum always come to something. What infer tells of MatMul, for two tensors that may be. What mat.product comes to. What mat.product comes to, as a list. What mat.Do comes to for MatMul. Rows and matrices of a product. Floats: what is exact comes out as it is. The document's sizes, and whether a tensor may be. MatPicks: the law over the plain functions. Conditions: those that each names. -/
import Derived.Test.YtoobokgbmjbofaaGreatQS
import Derived.Test.YtoobokgbmjbofaaGreatPl
import Derived.Test.YtoobokgbmjbofaaGreatQA
set_option linter.unusedVariables false
namespace Go.Av

/-- where the first stands that fits; -1 -/
def fstAt (p : Int → Bool) : Nat → List Int → Int
  | _, [] => -1
  | i, x :: l => if p x = true then i else fstAt p (i + 1) l
theorem fstAt_any (p : Int → Bool) : ∀ (l : List Int) (i : Nat), decide (0 ≤ fstAt p i l) = l.any p
  | [], i => rfl
  | x :: l, i => by
    simp only [fstAt, List.any_cons]
    by_cases h : p x = true
    · simp [h]
    · simp [h, ← fstAt_any p l (i + 1)]
def Short (l : List Int) : Prop := l.length ≤ 140737488355328

/-- one round: a counter goes on -/
theorem wk_succ {k : Nat} (h : k ≤ 140737488355328) : wk .i64 ((k : Int) + 1) = ((k + 1 : Nat) : Int) := by rw [wk_eq (by omega) (by omega)]; omega

theorem IndexFunc_spec {fu : Nat} {l : List Int} {p : Int → Option Bool} {q : Int → Bool} (hp : ∀ x, p x = some (q x)) (hl : Short l) (hf : l.length < fu) : slices_IndexFunc_int fu l p = some (fstAt q 0 l) := by
  unfold slices_IndexFunc_int slices_IndexFunc_int_W1
  refine cloop_ind (fun (i : Int) => some (fstAt q i.toNat (l.drop i.toNat))) (fun i => 0 ≤ i ∧ i ≤ l.length) (fun i => l.length - i.toNat) ?_ fu 0 (by omega) (by simp; omega)
  rintro i ⟨h0, h1⟩ next hn
  obtain ⟨k, rfl⟩ := Int.eq_ofNat_of_zero_le h0
  unfold slices_IndexFunc_int_L1
  simp only [Int.toNat_natCast]
  by_cases hk : k < l.length
  · rw [if_pos (by omega), at?_get hk, ob_some, hp, ob_some, List.drop_eq_getElem_cons hk]
    simp only [fstAt]
    by_cases hq : q l[k] = true
    · rw [if_pos hq, if_pos hq]
    · rw [if_neg hq, if_neg hq, wk_succ (by unfold Short at hl; omega), hn _ (by omega) (by simp; omega)]
      simp
  · rw [if_neg (by omega), List.drop_of_length_le (by omega)]; rfl
theorem ContainsFunc_spec {fu : Nat} {l : List Int} {p : Int → Option Bool} {q : Int → Bool} (hp : ∀ x, p x = some (q x)) (hl : Short l) (hf : l.length < fu) : slices_ContainsFunc_int fu l p = some (l.any q) := by
  unfold slices_ContainsFunc_int
  rw [IndexFunc_spec hp hl hf, ob_some, fstAt_any]
theorem IndexI_spec {fu : Nat} {l : List Int} {x : Int} (hl : Short l) (hf : l.length < fu) : slices_Index_int fu l x = some (fstAt (fun y => decide (x = y)) 0 l) := by
  unfold slices_Index_int slices_Index_int_W1
  refine cloop_ind (fun (i : Int) => some (fstAt (fun y => decide (x = y)) i.toNat (l.drop i.toNat))) (fun i => 0 ≤ i ∧ i ≤ l.length) (fun i => l.length - i.toNat) ?_ fu 0 (by omega) (by simp; omega)
  rintro i ⟨h0, h1⟩ next hn
  obtain ⟨k, rfl⟩ := Int.eq_ofNat_of_zero_le h0
  unfold slices_Index_int_L1
  simp only [Int.toNat_natCast]
  by_cases hk : k < l.length
  · rw [if_pos (by omega), at?_get hk, ob_some, List.drop_eq_getElem_cons hk]
    simp only [fstAt]
    by_cases hq : x = l[k]
    · rw [if_pos hq, if_pos (by simpa using hq)]
    · rw [if_neg hq, if_neg (by simpa using hq), wk_succ (by unfold Short at hl; omega), hn _ (by omega) (by simp; omega)]
      simp
  · rw [if_neg (by omega), List.drop_of_length_le (by omega)]; rfl
theorem Contains_spec {fu : Nat} {l : List Int} {x : Int} (hl : Short l) (hf : l.length < fu) : slices_Contains_int fu l x = some (l.any fun y => decide (x = y)) := by
  unfold slices_Contains_int
  rw [IndexI_spec hl hf, ob_some, fstAt_any]

/-- the product -/
def prod : List Int → Int
  | [] => 1
  | x :: l => x * prod l
def Rng (l : List Int) : Prop := ∀ x ∈ l, 0 ≤ x ∧ x ≤ 4096
/-- dims that may be -/
def Good (l : List Int) : Prop := l.length ≤ 8 ∧ Rng l ∧ prod l ≤ 4096
instance (l : List Int) : Decidable (Rng l) := by unfold Rng; infer_instance
instance (l : List Int) : Decidable (Good l) := by unfold Good; infer_instance
def errS (l : List Int) : Int := if l.any (fun x => decide (x < 0)) = true then 1 else 4
def sizeV (l : List Int) : Int × Int := if Good l then (prod l, 0) else (0, errS l)
theorem errS_ne (l : List Int) : errS l ≠ 0 := by unfold errS; split <;> decide
theorem prod_nonneg : ∀ {l : List Int}, Rng l → 0 ≤ prod l
  | [], _ => by decide
  | x :: l, h => Int.mul_nonneg (h x (by simp)).1 (prod_nonneg fun y hy => h y (by simp [hy]))
theorem prod_pos : ∀ {l : List Int}, (∀ x ∈ l, 1 ≤ x) → 1 ≤ prod l
  | [], _ => by decide
  | x :: l, h => by
    have h1 := h x (by simp)
    have h2 := prod_pos (l := l) fun y hy => h y (by simp [hy])
    have := Int.mul_le_mul h1 h2 (by decide) (by omega)
    simpa [prod] using this
theorem prod_zero : ∀ {l : List Int}, 0 ∈ l → prod l = 0
  | x :: l, h => by
    rcases List.mem_cons.1 h with rfl | h
    · simp [prod]
    · simp [prod, prod_zero h]
theorem prod_zero_mem : ∀ {l : List Int}, prod l = 0 → 0 ∈ l
  | [], h => by simp [prod] at h
  | x :: l, h => by
    rcases Int.mul_eq_zero.1 h with rfl | h
    · simp
    · simp [prod_zero_mem h]
theorem div_lt_iff {m d : Int} (hm : 1 ≤ m) (hd : 0 ≤ d) : (Int.tdiv 4096 m < d) ↔ 4096 < m * d := by
  rw [Int.tdiv_eq_ediv_of_nonneg (by decide)]
  constructor
  · intro h
    have := Int.lt_mul_of_ediv_lt (by omega : 0 < m) h
    rwa [Int.mul_comm] at this
  · intro h
    exact Int.ediv_lt_of_lt_mul (by omega) (by rwa [Int.mul_comm])
theorem SizeW_spec {fu : Nat} {l : List Int} (hp : ∀ x ∈ l, 1 ≤ x ∧ x ≤ 4096) (hl : l.length ≤ 8) (hf : l.length < fu) : shape_Size_W1 fu l 1 0 = some (if prod l ≤ 4096 then (prod l, 0) else (0, 4)) := by
  unfold shape_Size_W1
  refine (cloop_ind (fun (s : Int × Int) => some (if s.1 * prod (l.drop s.2.toNat) ≤ 4096 then (s.1 * prod (l.drop s.2.toNat), 0) else (0, 4))) (fun s => 0 ≤ s.2 ∧ s.2 ≤ l.length ∧ 1 ≤ s.1 ∧ s.1 ≤ 4096) (fun s => l.length - s.2.toNat) ?_ fu (1, 0) (by simp) (by simp; omega)).trans (by simp)
  rintro ⟨m, i⟩ ⟨h0, h1, h2, h3⟩ next hn
  simp only at h0 h1 h2 h3 hn ⊢
  obtain ⟨k, rfl⟩ := Int.eq_ofNat_of_zero_le h0
  unfold shape_Size_L1
  simp only [Int.toNat_natCast]
  by_cases hk : k < l.length
  · obtain ⟨q1, q2⟩ := hp _ (List.getElem_mem hk)
    have t0 : 0 ≤ Int.tdiv 4096 m ∧ Int.tdiv 4096 m ≤ 4096 := by
      rw [Int.tdiv_eq_ediv_of_nonneg (by decide)]
      exact ⟨Int.ediv_nonneg (by decide) (by omega), Int.ediv_le_self _ (by decide)⟩
    rw [if_pos (by omega), at?_get hk, ob_some, chk_pos (by omega), wk_eq (by omega) (by omega), List.drop_eq_getElem_cons hk]
    have hpos : 1 ≤ prod (l.drop (k + 1)) := prod_pos fun x hx => (hp x (List.mem_of_mem_drop hx)).1
    have hge : 1 ≤ m * l[k] := by have := Int.mul_le_mul h2 q1 (by decide) (by omega); simpa using this
    simp only [prod, ← Int.mul_assoc]
    by_cases hd : Int.tdiv 4096 m < l[k]
    · rw [if_pos hd]
      rw [div_lt_iff h2 (by omega)] at hd
      have : m * l[k] * 1 ≤ m * l[k] * prod (l.drop (k + 1)) := Int.mul_le_mul_of_nonneg_left hpos (by omega)
      rw [if_neg (by omega)]
    · rw [if_neg hd]
      rw [div_lt_iff h2 (by omega)] at hd
      rw [wk_eq (by omega) (by omega), wk_succ (by omega), hn (m * l[k], ((k + 1 : Nat) : Int)) ⟨by simp only []; omega, by simp only []; omega, hge, by simp only []; omega⟩ (by simp; omega)]
      simp
  · rw [if_neg (by omega), List.drop_of_length_le (by omega)]
    simp only [prod, Int.mul_one]
    rw [if_pos h3]
theorem Size_spec {fu : Nat} {l : List Int} (hl : Short l) (hf : l.length < fu) : shape_Size fu l = some (sizeV l) := by
  unfold shape_Size
  rw [ContainsFunc_spec (p := fun y0 => shape_Size_1 fu y0) (q := fun x => decide (x < 0)) (fun x => rfl) hl hf, ob_some]
  by_cases h1 : l.any (fun x => decide (x < 0)) = true
  · rw [if_pos h1]
    have hg : ¬ Good l := fun hg => by
      obtain ⟨x, hx, hx2⟩ := List.any_eq_true.1 h1
      have := (hg.2.1 x hx).1
      simp at hx2; omega
    simp only [sizeV, if_neg hg, errS, if_pos h1]
  rw [if_neg h1]
  have he : errS l = 4 := by simp only [errS, if_neg h1]
  by_cases h2 : 8 < (l.length : Int)
  · rw [if_pos h2]
    have hg : ¬ Good l := fun hg => by have := hg.1; omega
    simp only [sizeV, if_neg hg, he]
  rw [if_neg h2, ContainsFunc_spec (p := fun y0 => shape_Size_2 fu y0) (q := fun x => decide (4096 < x)) (fun x => rfl) hl hf, ob_some]
  by_cases h3 : l.any (fun x => decide (4096 < x)) = true
  · rw [if_pos h3]
    have hg : ¬ Good l := fun hg => by
      obtain ⟨x, hx, hx2⟩ := List.any_eq_true.1 h3
      have := (hg.2.1 x hx).2
      simp at hx2; omega
    simp only [sizeV, if_neg hg, he]
  rw [if_neg h3]
  have hr : Rng l := fun x hx => by
    simp only [List.any_eq_true, decide_eq_true_eq, not_exists, not_and] at h1 h3
    have := h1 x hx; have := h3 x hx; omega
  unfold shape_Size_k1
  rw [Contains_spec hl hf, ob_some]
  by_cases h4 : (l.any fun y => decide ((0 : Int) = y)) = true
  · rw [if_pos h4]
    have hz : (0 : Int) ∈ l := by
      obtain ⟨x, hx, hx2⟩ := List.any_eq_true.1 h4
      simp at hx2; subst hx2; exact hx
    have hg : Good l := ⟨by omega, hr, by rw [prod_zero hz]; decide⟩
    simp only [sizeV, if_pos hg, prod_zero hz]
  rw [if_neg h4]
  have hp : ∀ x ∈ l, 1 ≤ x ∧ x ≤ 4096 := fun x hx => by
    have := hr x hx
    simp only [List.any_eq_true, decide_eq_true_eq, not_exists, not_and] at h4
    have := h4 x hx; omega
  rw [SizeW_spec hp (by omega) hf]
  by_cases h5 : prod l ≤ 4096
  · have hg : Good l := ⟨by omega, hr, h5⟩
    simp only [sizeV, if_pos hg, if_pos h5]
  · have hg : ¬ Good l := fun hg => h5 hg.2.2
    simp only [sizeV, if_neg hg, if_neg h5, he]
end Go.Av
set_option linter.unusedVariables false
namespace Go.Av
def strdW : List Int → List Int
  | [] => []
  | _ :: l => wk .i64 (prod l) :: strdW l
theorem strdW_length : ∀ l, (strdW l).length = l.length
  | [] => rfl
  | _ :: l => by simp [strdW, strdW_length l]
theorem strdW_get : ∀ {l : List Int} {i : Nat} (h : i < l.length), (strdW l)[i]? = some (wk .i64 (prod (l.drop (i + 1))))
  | _ :: l, 0, _ => by simp [strdW]
  | _ :: l, i + 1, h => by
    have := strdW_get (l := l) (i := i) (by simpa using h)
    simpa [strdW] using this
theorem rep_set (i : Nat) (x : Int) (s : List Int) : (List.replicate (i + 1) 0 ++ s).set i x = List.replicate i 0 ++ x :: s := by
  rw [List.replicate_succ', List.append_assoc, List.set_append_right _ _ (by simp)]
  simp
theorem strides_spec {fu : Nat} {l : List Int} (hl : l.length * 8 ≤ 140737488355328) (hf : l.length < fu) : shape_strides fu l = some (strdW l) := by
  unfold shape_strides shape_strides_W1
  rw [chk_pos (by omega)]
  have hw : wk .i64 ((l.length : Int) - 1) = ((l.length : Int) - 1) := wk_eq (by omega) (by omega)
  rw [hw, Int.toNat_natCast]
  refine (cloop_ind (fun _ => some (strdW l)) (fun (s : List Int × Int × Int) => ∃ k : Nat, k ≤ l.length ∧ s = (List.replicate k 0 ++ strdW (l.drop k), wk .i64 (prod (l.drop k)), (k : Int) - 1)) (fun s => (s.2.2 + 1).toNat) ?_ fu _ ⟨l.length, Nat.le_refl _, by simp [strdW, prod]; decide⟩ (by simp; omega))
  rintro _ ⟨k, hk, rfl⟩ next hn
  unfold shape_strides_L1
  simp only
  match k, hk with
  | 0, _ => rw [if_neg (by decide)]; simp
  | k + 1, hk =>
    have e1 : (((k + 1 : Nat) : Int) - 1) = (k : Int) := by omega
    have hlen : (List.replicate (k + 1) (0 : Int) ++ strdW (l.drop (k + 1))).length = l.length := by simp [strdW_length]; omega
    rw [e1, if_pos (by omega), hlen, chk_pos (by omega), at?_get (by omega), ob_some, Int.toNat_natCast, rep_set, wk_mul_l, wk_eq (x := (k : Int) - 1) (by omega) (by omega)]
    refine hn _ ⟨k, by omega, ?_⟩ (by simp)
    rw [List.drop_eq_getElem_cons (by omega : k < l.length)]
    simp only [strdW, prod]
    rw [Int.mul_comm]

/-- all strides and indices of dims without noughts are small -/
theorem prod_drop_le {l : List Int} (hp : ∀ x ∈ l, 1 ≤ x) : ∀ k, 1 ≤ prod (l.drop k) ∧ prod (l.drop k) ≤ prod l := by
  induction l with
  | nil => intro k; simp [prod]
  | cons x l ih =>
    intro k
    have hx := hp x (by simp)
    have ih' := ih fun y hy => hp y (by simp [hy])
    cases k with
    | zero => exact ⟨by simpa using prod_pos hp, by simp⟩
    | succ k =>
      obtain ⟨h1, h2⟩ := ih' k
      have h3 := prod_pos (l := l) fun y hy => hp y (by simp [hy])
      refine ⟨by simpa using h1, ?_⟩
      simp only [List.drop_succ_cons, prod]
      have : 1 * prod l ≤ x * prod l := Int.mul_le_mul_of_nonneg_right hx (by omega)
      omega
theorem pos_of_good {l : List Int} (hg : Good l) (h0 : prod l ≠ 0) : ∀ x ∈ l, 1 ≤ x := fun x hx => by
  have := (hg.2.1 x hx).1
  by_cases h : x = 0
  · subst h; exact absurd (prod_zero hx) h0
  · omega
theorem good_short {l : List Int} (hg : Good l) : l.length * 8 ≤ 140737488355328 := by have := hg.1; omega

def idxV : List Int → Int → List Int
  | [], _ => []
  | _ :: l, a => a / prod l :: idxV l (a % prod l)
theorem idxV_length : ∀ l a, (idxV l a).length = l.length
  | [], _ => rfl
  | _ :: l, a => by simp [idxV, idxV_length l]
theorem IndexW_spec {fu : Nat} {l : List Int} {a : Int} (hg : Good l) (hn0 : 1 ≤ prod l) (ha : 0 ≤ a) (ha2 : a ≤ 4096) (hf : l.length < fu) : shape_Index_W1 fu (strdW l) (List.replicate l.length 0) a 0 = some (idxV l a, 0) := by
  have hp := pos_of_good hg (by omega)
  have hd := prod_drop_le hp
  have hP := hg.2.2
  have hL := hg.1
  unfold shape_Index_W1
  refine (cloop_ind (fun s => some (s.1.take s.2.2.toNat ++ idxV (l.drop s.2.2.toNat) s.2.1, (0 : Int))) (fun (s : List Int × Int × Int) => 0 ≤ s.2.2 ∧ s.2.2 ≤ l.length ∧ s.1.length = l.length ∧ 0 ≤ s.2.1 ∧ s.2.1 ≤ 4096) (fun s => l.length - s.2.2.toNat) ?_ fu _ ⟨by simp, by simp, by simp, ha, ha2⟩ (by simp; omega)).trans (by simp)
  rintro ⟨o, b, i⟩ ⟨h0, h1, h2, h3, h4⟩ next hn
  simp only at h0 h1 h2 h3 h4 hn ⊢
  obtain ⟨k, rfl⟩ := Int.eq_ofNat_of_zero_le h0
  unfold shape_Index_L1
  simp only [Int.toNat_natCast, strdW_length]
  by_cases hk : k < l.length
  · obtain ⟨d1, d2⟩ := hd (k + 1)
    have hw : wk .i64 (prod (l.drop (k + 1))) = prod (l.drop (k + 1)) := wk_eq (by omega) (by omega)
    rw [if_pos (by omega), at?_nat, strdW_get hk, ob_some, hw]
    have q1 : Int.tdiv b (prod (l.drop (k + 1))) = b / prod (l.drop (k + 1)) := Int.tdiv_eq_ediv_of_nonneg h3
    have q2 : Int.tmod b (prod (l.drop (k + 1))) = b % prod (l.drop (k + 1)) := Int.tmod_eq_emod_of_nonneg h3
    have q3 : 0 ≤ b / prod (l.drop (k + 1)) := Int.ediv_nonneg h3 (by omega)
    have q4 : b / prod (l.drop (k + 1)) ≤ b := Int.ediv_le_self _ h3
    have q5 : 0 ≤ b % prod (l.drop (k + 1)) := Int.emod_nonneg _ (by omega)
    have q6 : b % prod (l.drop (k + 1)) < prod (l.drop (k + 1)) := Int.emod_lt_of_pos _ (by omega)
    rw [chk_pos (by omega), chk_pos (by omega), q1, q2, wk_eq (by omega) (by omega), wk_succ (by omega)]
    rw [hn (_, _, ((k + 1 : Nat) : Int)) ⟨by simp only []; omega, by simp only []; omega, by simp [h2], q5, by simp only []; omega⟩ (by simp; omega)]
    simp only [Int.toNat_natCast, Option.some.injEq, Prod.mk.injEq, and_true]
    rw [List.drop_eq_getElem_cons hk]
    simp only [idxV]
    rw [List.take_succ_eq_append_getElem (by simp; omega), List.append_assoc, List.take_set, List.set_eq_of_length_le (by simp; omega)]
    simp
  · rw [if_neg (by omega), List.drop_of_length_le (by omega), List.take_of_length_le (by omega)]
    simp [idxV]
def indexV (l : List Int) (a : Int) : List Int × Int := if Good l then (if 0 ≤ a ∧ a < prod l then (idxV l a, 0) else ([], 2)) else ([], errS l)
theorem Index_spec {fu : Nat} {l : List Int} {a : Int} (hl : Short l) (hf : l.length < fu) : shape_Index fu l a = some (indexV l a) := by
  unfold shape_Index
  rw [Size_spec hl hf, ob_some]
  simp only [sizeV, indexV]
  by_cases hg : Good l
  · simp only [if_pos hg, if_true]
    by_cases h1 : a < 0
    · rw [if_pos h1, if_neg (by omega)]
    · rw [if_neg h1]
      by_cases h2 : prod l ≤ a
      · rw [if_pos h2, if_neg (by omega)]
      · rw [if_neg h2, if_pos (by omega)]
        unfold shape_Index_k1
        have := hg.1
        have := hg.2.2
        rw [chk_pos (by omega), strides_spec (good_short hg) hf, ob_some, Int.toNat_natCast, IndexW_spec hg (by omega) (by omega) (by omega) hf]
  · simp only [if_neg hg]
    rw [if_neg (errS_ne l)]
/-- do indices stand within dims? -/
def okIx : List Int → List Int → Bool
  | d :: l, x :: xs => decide (0 ≤ x) && decide (x < d) && okIx l xs
  | _, _ => true
def offV : List Int → List Int → Int
  | _ :: l, x :: xs => x * prod l + offV l xs
  | _, _ => 0
/-- from a place to its indices and back -/
theorem okIx_idx : ∀ {l : List Int} {a : Int}, (∀ x ∈ l, 1 ≤ x) → 0 ≤ a → a < prod l → okIx l (idxV l a) = true
  | [], _, _, _, _ => rfl
  | d :: l, a, hp, h0, h1 => by
    have hq : 1 ≤ prod l := prod_pos fun x hx => hp x (by simp [hx])
    have h2 : 0 ≤ a / prod l := Int.ediv_nonneg h0 (by omega)
    have h3 : a / prod l < d := Int.ediv_lt_of_lt_mul (by omega) h1
    have h4 := okIx_idx (l := l) (a := a % prod l) (fun x hx => hp x (by simp [hx])) (Int.emod_nonneg _ (by omega)) (Int.emod_lt_of_pos _ (by omega))
    simp [idxV, okIx, h2, h3, h4]
theorem offV_idx : ∀ {l : List Int} {a : Int}, (∀ x ∈ l, 1 ≤ x) → 0 ≤ a → a < prod l → offV l (idxV l a) = a
  | [], a, _, h0, h1 => by simp [prod] at h1; simp [offV]; omega
  | d :: l, a, hp, h0, h1 => by
    have hq : 1 ≤ prod l := prod_pos fun x hx => hp x (by simp [hx])
    have h4 := offV_idx (l := l) (a := a % prod l) (fun x hx => hp x (by simp [hx])) (Int.emod_nonneg _ (by omega)) (Int.emod_lt_of_pos _ (by omega))
    simp only [idxV, offV, h4]
    rw [Int.mul_comm]
    exact Int.mul_ediv_add_emod a (prod l)
end Go.Av
set_option linter.unusedVariables false
namespace Go.Av
theorem drop_same {a b : List Int} {i : Nat} (ha : i < a.length) (hb : i < b.length) : a.drop i = b.drop i ↔ a[i] = b[i] ∧ a.drop (i + 1) = b.drop (i + 1) := by
  rw [List.drop_eq_getElem_cons ha, List.drop_eq_getElem_cons hb]
  exact List.cons_eq_cons
theorem Equal_spec {fu : Nat} {a b : List Int} (hl : Short a) (hf : a.length < fu) : slices_Equal_int fu a b = some (decide (a = b)) := by
  unfold slices_Equal_int slices_Equal_int_W1
  by_cases hlen : a.length = b.length
  · rw [if_pos (by omega)]
    refine (cloop_ind (fun (i : Int) => some (decide (a.drop i.toNat = b.drop i.toNat))) (fun i => 0 ≤ i ∧ i ≤ a.length) (fun i => a.length - i.toNat) ?_ fu 0 (by simp) (by simp; omega)).trans (by simp)
    rintro i ⟨h0, h1⟩ next hn
    obtain ⟨k, rfl⟩ := Int.eq_ofNat_of_zero_le h0
    unfold slices_Equal_int_L1
    simp only [Int.toNat_natCast]
    by_cases hk : k < a.length
    · rw [if_pos (by omega), at?_get hk, ob_some, at?_get (by omega : k < b.length), ob_some, wk_succ (by unfold Short at hl; omega)]
      have hd := drop_same hk (by omega : k < b.length)
      by_cases he : a[k] = b[k]
      · rw [if_pos he, hn _ (by omega) (by simp; omega)]
        simp [hd, he]
      · rw [if_neg he]
        simp [hd, he]
    · rw [if_neg (by omega)]
      have e1 : a.drop k = b.drop k := by rw [List.drop_of_length_le (by omega), List.drop_of_length_le (by omega)]
      simp [e1]
  · rw [if_neg (by omega)]
    have : ¬ a = b := fun h => hlen (by rw [h])
    simp [this]
theorem SameInts_spec {fu : Nat} {a b : List Int} (hl : Short a) (hf : a.length < fu) : ref04_SameInts fu a b = some (decide (a = b)) := by
  unfold ref04_SameInts ref04_SameInts_W1
  by_cases hlen : a.length = b.length
  · rw [if_pos (by omega)]
    refine (cloop_ind (fun (i : Int) => some (decide (a.drop i.toNat = b.drop i.toNat))) (fun i => 0 ≤ i ∧ i ≤ a.length) (fun i => a.length - i.toNat) ?_ fu 0 (by simp) (by simp; omega)).trans (by simp)
    rintro i ⟨h0, h1⟩ next hn
    obtain ⟨k, rfl⟩ := Int.eq_ofNat_of_zero_le h0
    unfold ref04_SameInts_L1
    simp only [Int.toNat_natCast]
    by_cases hk : k < a.length
    · rw [if_pos (by omega), at?_get hk, ob_some, at?_get (by omega : k < b.length), ob_some, wk_succ (by unfold Short at hl; omega)]
      have hd := drop_same hk (by omega : k < b.length)
      by_cases he : a[k] = b[k]
      · rw [if_pos he, hn _ (by omega) (by simp; omega)]
        simp [hd, he]
      · rw [if_neg he]
        simp [hd, he]
    · rw [if_neg (by omega)]
      have e1 : a.drop k = b.drop k := by rw [List.drop_of_length_le (by omega), List.drop_of_length_le (by omega)]
      simp [e1]
  · rw [if_neg (by omega)]
    have : ¬ a = b := fun h => hlen (by rw [h])
    simp [this]

/-- dims side by side -/
def zipB : List Int → List Int → Option (List Int)
  | x :: a, d :: b => if x = 1 then (zipB a b).map (d :: ·) else if d = 1 ∨ d = x then (zipB a b).map (x :: ·) else none
  | _, _ => some []
def bc' (a b : List Int) : Option (List Int) := (zipB (a.drop (a.length - b.length)) b).map (a.take (a.length - b.length) ++ ·)
def bc (a b : List Int) : Option (List Int) := if a.length < b.length then bc' b a else bc' a b
def broadcastV (a b : List Int) : List Int × Int :=
  if Good a then (if Good b then (match bc a b with
    | some l => if Good l then (l, 0) else ([], errS l)
    | none => ([], 3)) else ([], errS b)) else ([], errS a)
theorem zipB_length : ∀ {a b r : List Int}, a.length = b.length → zipB a b = some r → r.length = b.length
  | [], [], r, _, h => by simp [zipB] at h; subst h; rfl
  | x :: a, d :: b, r, hl, h => by
    simp only [zipB] at h
    have hl' : a.length = b.length := by simpa using hl
    split at h
    · simp only [Option.map_eq_some_iff] at h
      obtain ⟨q, hq, rfl⟩ := h
      simp [zipB_length hl' hq]
    · split at h
      · simp only [Option.map_eq_some_iff] at h
        obtain ⟨q, hq, rfl⟩ := h
        simp [zipB_length hl' hq]
      · cases h
theorem bc'_length {a b r : List Int} (hl : b.length ≤ a.length) (h : bc' a b = some r) : r.length = a.length := by
  unfold bc' at h
  simp only [Option.map_eq_some_iff] at h
  obtain ⟨q, hq, rfl⟩ := h
  have := zipB_length (by simp; omega) hq
  simp; omega
theorem k3_spec {fu : Nat} {l : List Int} (hl : Short l) (hf : l.length < fu) : shape_Broadcast_k3 fu l = some (if Good l then (l, 0) else ([], errS l)) := by
  unfold shape_Broadcast_k3
  rw [Size_spec hl hf, ob_some]
  simp only [sizeV]
  by_cases hg : Good l
  · simp only [if_pos hg, if_true]
  · simp only [if_neg hg]
    rw [if_neg (errS_ne l)]
theorem BW_spec {fu : Nat} {a b : List Int} (ha : a.length ≤ 8) (hl : b.length ≤ a.length) (hf : 9 < fu) : shape_Broadcast_W1 fu a b a 0 = some (match bc' a b with
    | some l => if Good l then (l, 0) else ([], errS l)
    | none => ([], 3)) := by
  unfold shape_Broadcast_W1
  have key : ∀ l : List Int, l.length = a.length → shape_Broadcast_k3 fu l = some (if Good l then (l, 0) else ([], errS l)) := fun l h => k3_spec (by unfold Short; omega) (by omega)
  have hah : wk .i64 ((a.length : Int) - (b.length : Int)) = ((a.length - b.length : Nat) : Int) := by rw [wk_eq (by omega) (by omega)]; omega
  generalize hA : a.length - b.length = A at hah
  refine (cloop_ind (fun (s : List Int × Int) => some (match (zipB (s.1.drop (A + s.2.toNat)) (b.drop s.2.toNat)).map (s.1.take (A + s.2.toNat) ++ ·) with
    | some l => if Good l then (l, 0) else ([], errS l)
    | none => ([], 3))) (fun s => 0 ≤ s.2 ∧ s.2 ≤ b.length ∧ s.1.length = a.length) (fun s => b.length - s.2.toNat) ?_ fu (a, 0) ⟨by simp, by simp, rfl⟩ (by simp; omega)).trans (by simp [bc', hA])
  rintro ⟨o, i⟩ ⟨h0, h1, h2⟩ next hn
  simp only at h0 h1 h2 hn ⊢
  obtain ⟨k, rfl⟩ := Int.eq_ofNat_of_zero_le h0
  unfold shape_Broadcast_L1
  simp only [Int.toNat_natCast, hah]
  have hidx : wk .i64 ((A : Int) + (k : Int)) = ((A + k : Nat) : Int) := by rw [wk_eq (by omega) (by omega)]; omega
  by_cases hk : k < b.length
  · have hko : A + k < o.length := by omega
    rw [if_pos (by omega), at?_get hk, ob_some, hidx, at?_get hko, ob_some, wk_succ (by omega), Int.toNat_natCast]
    rw [List.drop_eq_getElem_cons hko, List.drop_eq_getElem_cons hk]
    simp only [zipB]
    have hnext : ∀ o' : List Int, o'.length = a.length → next (o', ((k + 1 : Nat) : Int)) = _ := fun o' ho' => hn (o', ((k + 1 : Nat) : Int)) ⟨by simp only []; omega, by simp only []; omega, ho'⟩ (by simp; omega)
    simp only [Int.toNat_natCast] at hnext
    by_cases h3 : o[A + k] = 1
    · rw [if_pos h3, if_pos h3, chk_pos (by omega), hnext _ (by simp [h2])]
      have e1 : (o.set (A + k) b[k]).drop (A + (k + 1)) = o.drop (A + k + 1) := by
        rw [List.drop_set_of_lt (by omega)]; rfl
      have e2 : (o.set (A + k) b[k]).take (A + (k + 1)) = o.take (A + k) ++ [b[k]] := by
        rw [← Nat.add_assoc, List.take_succ_eq_append_getElem (by simp; omega), List.take_set, List.set_eq_of_length_le (by simp; omega)]
        simp
      rw [e1, e2]
      cases zipB (o.drop (A + k + 1)) (b.drop (k + 1)) <;> simp
    · rw [if_neg h3, if_neg h3]
      have e2 : o.take (A + (k + 1)) = o.take (A + k) ++ [o[A + k]] := by
        rw [← Nat.add_assoc, List.take_succ_eq_append_getElem hko]
      by_cases h4 : b[k] = 1
      · rw [if_pos h4, if_pos (.inl h4), hnext _ h2, e2]
        cases zipB (o.drop (A + k + 1)) (b.drop (k + 1)) with
        | none => rfl
        | some r => simp only [Option.map_some, List.append_assoc, List.cons_append, List.nil_append]
      · rw [if_neg h4]
        by_cases h5 : b[k] = o[A + k]
        · rw [if_pos h5, if_pos (.inr h5), hnext _ h2, e2]
          cases zipB (o.drop (A + k + 1)) (b.drop (k + 1)) with
          | none => rfl
          | some r => simp only [Option.map_some, List.append_assoc, List.cons_append, List.nil_append]
        · rw [if_neg h5, if_neg (fun h => h.elim h4 h5)]
          rfl
  · rw [if_neg (by omega), key o h2, List.drop_of_length_le (by omega), List.drop_of_length_le (by omega), List.take_of_length_le (by omega)]
    simp [zipB]
theorem Clone_spec {fu : Nat} {l : List Int} (h : l.length * 8 ≤ 140737488355328) : slices_Clone_int fu l = some l := by
  unfold slices_Clone_int
  rw [chk_pos (by omega)]
theorem Broadcast_spec {fu : Nat} {a b : List Int} (ha : Short a) (hb : Short b) (hfa : a.length < fu) (hfb : b.length < fu) (hf : 9 < fu) : shape_Broadcast fu a b = some (broadcastV a b) := by
  unfold shape_Broadcast shape_Broadcast_W2
  have hk1 : Good a → Good b → ∀ z, shape_Broadcast_k1 fu a b z = some (broadcastV a b) := by
    intro ga gb z
    unfold shape_Broadcast_k1 shape_Broadcast_k2
    simp only [broadcastV, if_pos ga, if_pos gb, bc]
    by_cases hlt : a.length < b.length
    · rw [if_pos (by omega), if_pos hlt, Clone_spec (good_short gb), ob_some, BW_spec gb.1 (by omega) hf]
    · rw [if_neg (by omega), if_neg hlt, Clone_spec (good_short ga), ob_some, BW_spec ga.1 (by omega) hf]
  obtain ⟨f, rfl⟩ : ∃ f, fu = f + 3 := ⟨fu - 3, by omega⟩
  have h0 : at? [a, b] (0 : Int) = some a := rfl
  have h1 : at? [a, b] (1 : Int) = some b := rfl
  have w0 : wk .i64 ((0 : Int) + 1) = 1 := by decide
  have w1 : wk .i64 ((1 : Int) + 1) = 2 := by decide
  unfold cloop shape_Broadcast_L2
  simp only
  rw [if_pos (by decide), h0, ob_some, Size_spec ha hfa, ob_some]
  simp only [sizeV]
  by_cases ga : Good a
  · simp only [if_pos ga, if_true, w0]
    unfold cloop
    simp only
    rw [if_pos (by decide), h1, ob_some, Size_spec hb hfb, ob_some]
    simp only [sizeV]
    by_cases gb : Good b
    · simp only [if_pos gb, if_true, w1]
      unfold cloop
      simp only
      rw [if_neg (by decide), hk1 ga gb]
    · simp only [if_neg gb]
      rw [if_neg (errS_ne b)]
      simp [broadcastV, ga, gb]
  · simp only [if_neg ga]
    rw [if_neg (errS_ne a)]
    simp [broadcastV, ga]
end Go.Av
set_option linter.unusedVariables false
namespace Go.Av
theorem zipB_comm : ∀ {a b : List Int}, a.length = b.length → zipB a b = zipB b a
  | [], [], _ => rfl
  | x :: a, d :: b, h => by
    have ih := zipB_comm (a := a) (b := b) (by simpa using h)
    simp only [zipB, ih]
    by_cases h1 : x = 1 <;> by_cases h2 : d = 1
    · subst h1 h2; rfl
    · subst h1; simp [h2]
    · subst h2; simp [h1]
    · by_cases h3 : d = x
      · subst h3; simp [h1]
      · have h4 : ¬ x = d := fun h => h3 h.symm
        simp [h1, h2, h3, h4]
theorem bc_comm {a b : List Int} : bc a b = bc b a := by
  unfold bc
  by_cases h1 : a.length < b.length
  · rw [if_pos h1, if_neg (by omega)]
  · rw [if_neg h1]
    by_cases h2 : b.length < a.length
    · rw [if_pos h2]
    · rw [if_neg h2]
      have hl : a.length = b.length := by omega
      unfold bc'
      rw [hl]
      simp [zipB_comm hl]
theorem zipB_self : ∀ {r : List Int}, zipB r r = some r
  | [] => rfl
  | x :: r => by
    simp only [zipB, zipB_self (r := r)]
    by_cases h : x = 1
    · simp [h]
    · simp [h]
/-- what two come to goes together with each of them -/
theorem zipB_right : ∀ {a b r : List Int}, a.length = b.length → zipB a b = some r → zipB r b = some r
  | [], [], r, _, h => by simp [zipB] at h; subst h; rfl
  | x :: a, d :: b, r, hl, h => by
    simp only [zipB] at h
    have hl' : a.length = b.length := by simpa using hl
    split at h
    · simp only [Option.map_eq_some_iff] at h
      obtain ⟨q, hq, rfl⟩ := h
      have ih := zipB_right hl' hq
      simp only [zipB, ih]
      by_cases h1 : d = 1 <;> simp [h1]
    · split at h
      · rename_i hx hd
        simp only [Option.map_eq_some_iff] at h
        obtain ⟨q, hq, rfl⟩ := h
        have ih := zipB_right hl' hq
        simp only [zipB, ih, if_neg hx, if_pos hd]
        rfl
      · cases h
theorem bc'_right {a b r : List Int} (hl : b.length ≤ a.length) (h : bc' a b = some r) : bc' r b = some r := by
  have hrl := bc'_length hl h
  unfold bc' at h ⊢
  simp only [Option.map_eq_some_iff] at h
  obtain ⟨q, hq, rfl⟩ := h
  have hda : (a.drop (a.length - b.length)).length = b.length := by simp; omega
  have hz := zipB_right hda hq
  rw [hrl]
  have hpl : (a.take (a.length - b.length)).length = a.length - b.length := by simp
  have e1 : (a.take (a.length - b.length) ++ q).drop (a.length - b.length) = q := by
    rw [List.drop_append_of_le_length (by omega), List.drop_of_length_le (by omega)]; rfl
  have e2 : (a.take (a.length - b.length) ++ q).take (a.length - b.length) = a.take (a.length - b.length) := by
    rw [List.take_append_of_le_length (by omega), List.take_of_length_le (by omega)]
  rw [e1, e2, hz]; rfl
theorem bc'_left {a b r : List Int} (hl : b.length ≤ a.length) (h : bc' a b = some r) : bc' r a = some r := by
  have hrl := bc'_length hl h
  unfold bc' at h ⊢
  simp only [Option.map_eq_some_iff] at h
  obtain ⟨q, hq, rfl⟩ := h
  have hda : (a.drop (a.length - b.length)).length = b.length := by simp; omega
  rw [zipB_comm hda] at hq
  have hz := zipB_right hda.symm hq
  rw [hrl, Nat.sub_self, List.drop_zero, List.take_zero]
  have key : ∀ (p q s : List Int), zipB q s = some q → zipB (p ++ q) (p ++ s) = some (p ++ q) := by
    intro p
    induction p with
    | nil => intro q s h; exact h
    | cons x p ih =>
      intro q s h
      simp only [List.cons_append, zipB, ih q s h]
      by_cases h1 : x = 1 <;> simp [h1]
  have := key (a.take (a.length - b.length)) q (a.drop (a.length - b.length)) hz
  rw [List.take_append_drop] at this
  rw [this]; rfl
theorem bc_left {a b r : List Int} (h : bc a b = some r) : bc r a = some r ∧ bc b r = some r ∧ bc r r = some r ∧ a.length ≤ r.length ∧ b.length ≤ r.length ∧ r.length = max a.length b.length := by
  have hrr : bc r r = some r := by simp [bc, bc', zipB_self]
  unfold bc at h
  by_cases hlt : a.length < b.length
  · rw [if_pos hlt] at h
    have hrl := bc'_length (by omega) h
    have h1 := bc'_right (by omega) h
    have h2 := bc'_left (by omega) h
    refine ⟨by unfold bc; rw [if_neg (by omega)]; exact h1, ?_, hrr, by omega, by omega, by omega⟩
    rw [bc_comm]
    unfold bc; rw [if_neg (by omega)]; exact h2
  · rw [if_neg hlt] at h
    have hrl := bc'_length (by omega) h
    have h1 := bc'_right (by omega) h
    have h2 := bc'_left (by omega) h
    refine ⟨by unfold bc; rw [if_neg (by omega)]; exact h2, ?_, hrr, by omega, by omega, by omega⟩
    rw [bc_comm]
    unfold bc; rw [if_neg (by omega)]; exact h1

/-- the place in the smaller shape -/
def fromS : List Int → List Int → Int
  | d :: l, x :: xs => (if d = 1 then 0 else x * prod l) + fromS l xs
  | _, _ => 0
def fromV (s l : List Int) (a : Int) : Int × Int :=
  if Good s then (if Good l then (if broadcastV s l = (l, 0) then (if 0 ≤ a ∧ a < prod l then (fromS s ((idxV l a).drop (l.length - s.length)), 0) else (0, 2)) else (0, 3)) else (0, errS l)) else (0, errS s)
/-- the smaller one's dims are 1 or those of the greater one -/
def dimsFit : List Int → List Int → Prop
  | d :: s, x :: l => (d = 1 ∨ d = x) ∧ dimsFit s l
  | _, _ => True
theorem zipB_fit : ∀ {a b : List Int}, a.length = b.length → zipB a b = some a → dimsFit b a
  | [], [], _, _ => trivial
  | x :: a, d :: b, hl, h => by
    simp only [zipB] at h
    have hl' : a.length = b.length := by simpa using hl
    split at h
    · rename_i hx
      simp only [Option.map_eq_some_iff] at h
      obtain ⟨q, hq, he⟩ := h
      injection he with h1 h2
      subst h2
      exact ⟨.inr h1, zipB_fit hl' hq⟩
    · split at h
      · rename_i hx hd
        simp only [Option.map_eq_some_iff] at h
        obtain ⟨q, hq, he⟩ := h
        injection he with h1 h2
        subst h2
        exact ⟨hd, zipB_fit hl' hq⟩
      · cases h
theorem bcast_fit {s l : List Int} (hs : Good s) (hlg : Good l) (h : broadcastV s l = (l, 0)) : s.length ≤ l.length ∧ bc s l = some l ∧ dimsFit s (l.drop (l.length - s.length)) := by
  simp only [broadcastV, if_pos hs, if_pos hlg] at h
  cases hb : bc s l with
  | none => rw [hb] at h; simp at h
  | some r =>
    rw [hb] at h
    simp only at h
    have hr : r = l := by
      split at h
      · exact (Prod.mk.inj h).1
      · exact absurd (Prod.mk.inj h).2 (errS_ne r)
    subst hr
    obtain ⟨h1, _, _, h4, _, _⟩ := bc_left hb
    refine ⟨h4, rfl, ?_⟩
    unfold bc at h1
    rw [if_neg (by omega)] at h1
    unfold bc' at h1
    simp only [Option.map_eq_some_iff] at h1
    obtain ⟨q, hq, he⟩ := h1
    have : q = r.drop (r.length - s.length) := by
      have := congrArg (List.drop (r.length - s.length)) he
      rwa [List.drop_append_of_le_length (by simp), List.drop_of_length_le (by simp), List.nil_append] at this
    rw [this] at hq
    exact zipB_fit (by simp; omega) hq
theorem okIx_drop : ∀ (k : Nat) {l xs : List Int}, okIx l xs = true → okIx (l.drop k) (xs.drop k) = true
  | 0, _, _, h => by simpa using h
  | k + 1, [], xs, h => by simp [okIx]
  | k + 1, _ :: _, [], h => by cases h' : (List.drop (k + 1) _ : List Int) <;> simp [okIx]
  | k + 1, d :: l, x :: xs, h => by
    simp only [okIx, Bool.and_eq_true] at h
    simpa using okIx_drop k h.2
theorem fit_drop : ∀ {s l : List Int} (hl : s.length = l.length), dimsFit s l → ∀ (k : Nat) (h : k < s.length), (s[k] = 1 ∨ s[k] = l[k]'(hl ▸ h))
  | d :: s, x :: l, hl, hf, 0, _ => hf.1
  | d :: s, x :: l, hl, hf, k + 1, h => by
    have := fit_drop (s := s) (l := l) (by simpa using hl) hf.2 k (by simpa using h)
    simpa using this
theorem okIx_get : ∀ {l xs : List Int} (hl : l.length = xs.length), okIx l xs = true → ∀ (k : Nat) (h : k < l.length), 0 ≤ xs[k]'(hl ▸ h) ∧ xs[k]'(hl ▸ h) < l[k]
  | d :: l, x :: xs, hl, ho, 0, _ => by
    simp only [okIx, Bool.and_eq_true, decide_eq_true_eq] at ho
    exact ho.1
  | d :: l, x :: xs, hl, ho, k + 1, h => by
    simp only [okIx, Bool.and_eq_true] at ho
    have := okIx_get (l := l) (xs := xs) (by simpa using hl) ho.2 k (by simpa using h)
    simpa using this
theorem FromW_spec {fu : Nat} {s l : List Int} {a : Int} (hs : Good s) (hlg : Good l) (hls : s.length ≤ l.length) (hfit : dimsFit s (l.drop (l.length - s.length))) (h0 : 0 ≤ a) (h1 : a < prod l) (hf : 9 < fu) (e : Int) :
    shape_From_W1 fu s l (idxV l a, e) (strdW s) 0 0 = some (fromS s ((idxV l a).drop (l.length - s.length)), 0) := by
  have hL := hlg.1
  have hS := hs.1
  have hP := hs.2.2
  have hn : prod l ≠ 0 := by omega
  have hok := okIx_drop (l.length - s.length) (okIx_idx (pos_of_good hlg hn) h0 h1)
  have hil := idxV_length l a
  have hw : wk .i64 ((l.length : Int) - (s.length : Int)) = ((l.length - s.length : Nat) : Int) := by rw [wk_eq (by omega) (by omega)]; omega
  unfold shape_From_W1
  generalize hA : l.length - s.length = A at hw hok hfit ⊢
  generalize hx : (idxV l a).drop A = xs at hok ⊢
  have hxl : xs.length = s.length := by rw [← hx]; simp [hil]; omega
  have hdl : (l.drop A).length = s.length := by simp; omega
  have hsub : subN (idxV l a) (A : Int).toNat (idxV l a).length = xs := by
    simp only [subN, Int.toNat_natCast, hx, hil]
    rw [List.take_of_length_le (by omega)]
  refine (cloop_ind (fun (t : Int × Int) => some (t.1 + fromS (s.drop t.2.toNat) (xs.drop t.2.toNat), (0 : Int))) (fun t => 0 ≤ t.2 ∧ t.2 ≤ s.length ∧ 0 ≤ t.1 ∧ t.1 + prod (s.drop t.2.toNat) ≤ 4096) (fun t => s.length - t.2.toNat) ?_ fu (0, 0) ⟨by simp, by simp, by simp, by simpa using hP⟩ (by simp; omega)).trans (by simp)
  rintro ⟨o, i⟩ ⟨q0, q1, q2, q3⟩ next hnx
  simp only at q0 q1 q2 q3 hnx ⊢
  obtain ⟨k, rfl⟩ := Int.eq_ofNat_of_zero_le q0
  unfold shape_From_L1
  simp only [Int.toNat_natCast, strdW_length, hw] at q3 ⊢
  by_cases hk : k < s.length
  · have hkx : k < xs.length := by omega
    have hsub2 : subN (idxV l a) A (idxV l a).length = xs := by simpa using hsub
    rw [if_pos (by omega), at?_nat, strdW_get hk, ob_some, at?_get hk, ob_some]
    rw [List.drop_eq_getElem_cons hk] at q3
    simp only [prod] at q3
    rw [List.drop_eq_getElem_cons hk, List.drop_eq_getElem_cons hkx]
    simp only [fromS]
    have hpn : 0 ≤ prod (s.drop (k + 1)) := prod_nonneg fun x hx => hs.2.1 x (List.mem_of_mem_drop hx)
    by_cases hd : s[k] = 1
    · rw [if_pos hd, if_pos hd, wk_succ (by omega)]
      rw [hd, Int.one_mul] at q3
      rw [hnx (o, ((k + 1 : Nat) : Int)) ⟨by simp only []; omega, by simp only []; omega, q2, by simpa using q3⟩ (by simp; omega)]
      simp
    · rw [if_neg hd, if_neg hd, hsub2, at?_get hkx, ob_some]
      have hfk := (fit_drop hdl.symm hfit k hk).resolve_left hd
      obtain ⟨r1, r2⟩ := okIx_get (by omega) hok k (by omega)
      rw [← hfk] at r2
      have m1 : (xs[k] + 1) * prod (s.drop (k + 1)) ≤ s[k] * prod (s.drop (k + 1)) := Int.mul_le_mul_of_nonneg_right (by omega) hpn
      rw [Int.add_mul, Int.one_mul] at m1
      have m2 : 0 ≤ xs[k] * prod (s.drop (k + 1)) := Int.mul_nonneg r1 hpn
      rw [wk_eq (x := prod (s.drop (k + 1))) (by omega) (by omega), wk_eq (x := xs[k] * prod (s.drop (k + 1))) (by omega) (by omega), wk_eq (by omega) (by omega), wk_succ (by omega)]
      rw [hnx (_, ((k + 1 : Nat) : Int)) ⟨by simp only []; omega, by simp only []; omega, by simp only []; omega, by simp only [Int.toNat_natCast]; omega⟩ (by simp; omega)]
      simp only [Int.toNat_natCast, Int.add_assoc]
  · rw [if_neg (by omega), List.drop_of_length_le (by omega), List.drop_of_length_le (by omega)]
    simp [fromS]
theorem From_spec {fu : Nat} {s l : List Int} {a : Int} (hs : Short s) (hl : Short l) (hfs : s.length < fu) (hfl : l.length < fu) (hf : 9 < fu) : shape_From fu s l a = some (fromV s l a) := by
  unfold shape_From shape_From_k1
  rw [Size_spec hs hfs, ob_some, Size_spec hl hfl, ob_some, Broadcast_spec hs hl hfs hfl hf, ob_some]
  simp only [sizeV, fromV]
  by_cases gs : Good s
  · simp only [if_pos gs, if_true]
    by_cases gl : Good l
    · simp only [if_pos gl, if_true]
      by_cases he : (broadcastV s l).2 = 0
      · rw [if_pos he]
        have hsh : Short (broadcastV s l).1 := by
          simp only [broadcastV, if_pos gs, if_pos gl]
          have := gs.1; have := gl.1
          cases hb : bc s l with
          | none => simp [Short]
          | some r =>
            obtain ⟨_, _, _, _, _, h6⟩ := bc_left hb
            simp only
            split <;> simp [Short]; omega
        have hfl2 : (broadcastV s l).1.length < fu := by
          simp only [broadcastV, if_pos gs, if_pos gl]
          have := gs.1; have := gl.1
          cases hb : bc s l with
          | none => simp; omega
          | some r =>
            obtain ⟨_, _, _, _, _, h6⟩ := bc_left hb
            simp only
            split <;> simp <;> omega
        rw [Equal_spec hsh hfl2, ob_some]
        by_cases heq : (broadcastV s l).1 = l
        · have hbv : broadcastV s l = (l, 0) := Prod.ext heq he
          rw [if_pos (by simpa using heq), if_pos hbv, Index_spec hl hfl, ob_some]
          simp only [indexV, if_pos gl]
          by_cases hr : 0 ≤ a ∧ a < prod l
          · simp only [if_pos hr, if_true]
            obtain ⟨f1, _, f3⟩ := bcast_fit gs gl hbv
            have := gl.1
            have hw : wk .i64 ((l.length : Int) - (s.length : Int)) = ((l.length - s.length : Nat) : Int) := by rw [wk_eq (by omega) (by omega)]; omega
            rw [hw, chk_pos (by rw [idxV_length]; omega), strides_spec (good_short gs) hfs, ob_some, FromW_spec gs gl f1 f3 hr.1 hr.2 hf]
          · simp only [if_neg hr]
            rfl
        · rw [if_neg (by simpa using heq), if_neg (fun h => heq (by rw [h]))]
      · rw [if_neg he, if_neg (fun h => he (by rw [h]))]
    · simp only [if_neg gl]
      rw [if_neg (errS_ne l)]
  · simp only [if_neg gs]
    rw [if_neg (errS_ne s)]
end Go.Av
set_option linter.unusedVariables false
namespace Go.Av
def sameT (a b : T_Tensor) : Bool := decide (a.fType = b.fType) && decide (a.fDims = b.fDims) && decide (a.fF = b.fF) && decide (a.fI = b.fI) && decide (a.fB = b.fB)
def Small (t : T_Tensor) : Prop := t.fDims.length * 8 ≤ 140737488351232 ∧ t.fF.length ≤ 140737488351232 ∧ t.fI.length ≤ 140737488351232 ∧ t.fB.length ≤ 140737488351232
def Fuel (fu : Nat) (t : T_Tensor) : Prop := t.fDims.length < fu ∧ t.fF.length < fu ∧ t.fI.length < fu ∧ t.fB.length < fu
theorem sameT_self (a : T_Tensor) : sameT a a = true := by simp [sameT]
def noT : T_Tensor := ⟨0, [], [], [], []⟩
theorem known_spec {fu : Nat} {k : Int} : tens_known fu k = some (decide (k = 1 ∨ k = 7 ∨ k = 9)) := by
  unfold tens_known tens_Width
  by_cases h1 : k = 1
  · simp [h1]
  · by_cases h2 : k = 7
    · simp [h2]
    · by_cases h3 : k = 9 <;> simp [h1, h2, h3]
def Known (k : Int) : Prop := k = 1 ∨ k = 7 ∨ k = 9
instance (k : Int) : Decidable (Known k) := by unfold Known; infer_instance
def LensOK (t : T_Tensor) : Prop := (t.fF.length : Int) = (if t.fType = 1 then prod t.fDims else 0) ∧ (t.fI.length : Int) = (if t.fType = 7 then prod t.fDims else 0) ∧ (t.fB.length : Int) = (if t.fType = 9 then prod t.fDims else 0)
instance (t : T_Tensor) : Decidable (LensOK t) := by unfold LensOK; infer_instance
def checkV (t : T_Tensor) : Int := if Known t.fType then (if Good t.fDims then (if LensOK t then 0 else 3) else errS t.fDims) else 5
theorem Check_spec {fu : Nat} {t : T_Tensor} (hs : Small t) (hf : Fuel fu t) : tens_Check fu t = some (checkV t) := by
  obtain ⟨s1, s2, s3, s4⟩ := hs
  unfold tens_Check checkV
  rw [known_spec, ob_some, Size_spec (by unfold Short; omega) hf.1]
  by_cases hk : Known t.fType
  · rw [if_pos (by simpa [Known] using hk), ob_some, if_pos hk]
    simp only [sizeV]
    by_cases hg : Good t.fDims
    · simp only [if_pos hg, if_true]
      have hp := prod_nonneg hg.2.1
      have hsum : wk .i64 ((wk .i64 ((t.fF.length : Int) + (t.fI.length : Int))) + (t.fB.length : Int)) = t.fF.length + t.fI.length + t.fB.length := by
        rw [wk_add_l, wk_eq (by omega) (by omega)]
      unfold tens_Check_k1 LensOK
      simp only [hsum]
      rcases hk with e | e | e
      · simp only [e, show ¬ (1 : Int) = 7 by decide, show ¬ (1 : Int) = 9 by decide, if_false, if_true]
        by_cases h1 : (t.fF.length : Int) = prod t.fDims
        · by_cases h2 : (t.fF.length : Int) + t.fI.length + t.fB.length = prod t.fDims
          · rw [if_pos h1, if_pos h2, if_pos ⟨h1, by omega, by omega⟩]
          · rw [if_pos h1, if_neg h2, if_neg (fun h => h2 (by omega))]
        · rw [if_neg h1, if_neg (fun h => h1 h.1)]
      · simp only [e, show ¬ (7 : Int) = 1 by decide, show ¬ (7 : Int) = 9 by decide, if_false, if_true]
        by_cases h1 : (t.fI.length : Int) = prod t.fDims
        · by_cases h2 : (t.fF.length : Int) + t.fI.length + t.fB.length = prod t.fDims
          · rw [if_pos h1, if_pos h2, if_pos ⟨by omega, h1, by omega⟩]
          · rw [if_pos h1, if_neg h2, if_neg (fun h => h2 (by omega))]
        · rw [if_neg h1, if_neg (fun h => h1 h.2.1)]
      · simp only [e, show ¬ (9 : Int) = 1 by decide, show ¬ (9 : Int) = 7 by decide, if_false, if_true]
        by_cases h1 : (t.fB.length : Int) = prod t.fDims
        · by_cases h2 : (t.fF.length : Int) + t.fI.length + t.fB.length = prod t.fDims
          · rw [if_pos h1, if_pos h2, if_pos ⟨by omega, by omega, h1⟩]
          · rw [if_pos h1, if_neg h2, if_neg (fun h => h2 (by omega))]
        · rw [if_neg h1, if_neg (fun h => h1 h.2.2)]
    · simp only [if_neg hg]
      rw [if_neg (errS_ne _)]
  · rw [if_neg (by simpa [Known] using hk), if_neg hk]
theorem checkV_zero {t : T_Tensor} : checkV t = 0 ↔ Known t.fType ∧ Good t.fDims ∧ LensOK t := by
  unfold checkV
  by_cases hk : Known t.fType <;> by_cases hg : Good t.fDims <;> by_cases hl : LensOK t <;> simp [hk, hg, hl, errS_ne]

theorem map_loop {β : Type} {l : List Int} {f : Int → Int} {B : ((List Int × Int) → Option β) → (List Int × Int) → Option β} {c : List Int → Option β} {fu : Nat} (hf : l.length < fu)
    (hB : ∀ (next : List Int × Int → Option β) (k : Nat) (m : List Int) (hk : k < l.length), m.length = l.length → (hm : m[k]? = some l[k]) → B next (m, (k : Int)) = next (m.set k (f l[k]), ((k + 1 : Nat) : Int)))
    (hE : ∀ next (m : List Int), m.length = l.length → B next (m, (l.length : Int)) = c m) : cloop B fu (l, 0) = c (l.map f) := by
  have := cloop_up (body := B) (n := fu) l.length (fun k => (l.take k).map f ++ l.drop k) (c (l.map f)) ?_ ?_ hf
  · simpa using this
  · intro k hk next hn
    have hlk : ((l.take k).map f).length = k := by simp; omega
    rw [hB next k _ hk (by simp; omega) (by rw [List.getElem?_append_right (by omega), hlk, Nat.sub_self, List.getElem?_drop]; simp [hk])]
    have e : ((l.take k).map f ++ l.drop k).set k (f l[k]) = (l.take (k + 1)).map f ++ l.drop (k + 1) := by
      rw [List.set_append_right _ _ (by omega), hlk, Nat.sub_self, List.drop_eq_getElem_cons hk, List.set_cons_zero, List.take_add_one, List.getElem?_eq_getElem hk, List.map_append, List.append_assoc]
      rfl
    rw [e]
    exact hn
  · intro next
    rw [hE _ _ (by simp)]
    simp
def canonF (x : Int) : Int := if 2139095040 < x % 2147483648 then 2143289344 else x
def canonT (t : T_Tensor) : T_Tensor := ⟨t.fType, t.fDims, t.fF.map canonF, t.fI, t.fB⟩
theorem wk_eq32 {x : Int} (h0 : 0 ≤ x) (h1 : x < 4294967296) : wk .u32 x = x := by
  have : wk .u32 x = x % 4294967296 := by simp [wk, IntKind.wrap, IntKind.signed, IntKind.bits]
  rw [this, Int.emod_eq_of_lt h0 h1]
theorem abs_u32 {x : Int} (h0 : 0 ≤ x) (h1 : x < 4294967296) : bandn .u32 x 2147483648 = x % 2147483648 := by
  unfold bandn
  rw [show IntKind.u32.bits = 32 from rfl, show ~~~(BitVec.ofInt 32 2147483648) = BitVec.ofNat 32 (2 ^ 31 - 1) by decide, BitVec.toNat_and, BitVec.toNat_ofNat, BitVec.toNat_ofInt]
  have : (2 ^ 31 - 1) % 2 ^ 32 = 2 ^ 31 - 1 := by decide
  rw [this, Nat.and_two_pow_sub_one_eq_mod]
  have hw := wk_eq32 (x := (((x % ((2 ^ 32 : Nat) : Int)).toNat % 2 ^ 31 : Nat) : Int)) (by omega) (by omega)
  unfold wk at hw
  rw [hw]
  omega
theorem softCanon_spec {fu : Nat} {x : Int} (h0 : 0 ≤ x) (h1 : x < 4294967296) : soft_Canon fu x = some (canonF x) := by
  unfold soft_Canon soft_NaN soft_Abs canonF
  rw [abs_u32 h0 h1, ob_some, ob_some]
  by_cases h : 2139095040 < x % 2147483648 <;> simp [h]
def Ten (t : T_Tensor) : Prop := t.fDims.length * 8 ≤ 140737488351232 ∧ t.fF.length * 4 ≤ 140737488351232 ∧ t.fI.length * 8 ≤ 140737488351232 ∧ t.fB.length ≤ 140737488351232 ∧ ∀ x ∈ t.fF, 0 ≤ x ∧ x < 4294967296
theorem Ten.small {t : T_Tensor} (h : Ten t) : Small t := by obtain ⟨a, b, c, d, _⟩ := h; exact ⟨a, by omega, by omega, by omega⟩
theorem ten_of {t : T_Tensor} (h : Q_31 t) : Ten t := by
  obtain ⟨_, h1, h2, h3, h4, _⟩ := h
  refine ⟨h1.1, h2.1, h3.1, by have := h4.1; omega, fun x hx => ?_⟩
  have := h2.2 x hx
  simp [Lit.wf, IntKind.min, IntKind.max, IntKind.signed, IntKind.bits] at this
  omega
theorem Copy_spec {fu : Nat} {t : T_Tensor} (h : Ten t) : tens_Copy fu t = some t := by
  obtain ⟨h1, h2, h3, h4, _⟩ := h
  unfold tens_Copy tens_own_int tens_own_uint32 tens_own_int64 tens_own_bool
  rw [chk_pos (by omega), ob_some, chk_pos (by omega), ob_some, chk_pos (by omega), ob_some, chk_pos (by omega), ob_some]
theorem Canon_spec {fu : Nat} {t : T_Tensor} (h : Ten t) (hf : t.fF.length < fu) : tens_Canon fu t = some (canonT t) := by
  have hu := h.2.2.2.2
  have hl := h.2.1
  unfold tens_Canon
  rw [Copy_spec h, ob_some]
  unfold tens_Canon_W1
  refine map_loop (f := canonF) (c := fun m => some (T_Tensor.mk t.fType t.fDims m t.fI t.fB)) hf ?_ ?_
  · intro next k m hk hm hg
    unfold tens_Canon_L1
    simp only []
    obtain ⟨u1, u2⟩ := hu _ (List.getElem_mem hk)
    rw [if_pos (by omega), at?_nat, hg, ob_some, softCanon_spec u1 u2, ob_some, chk_pos (by omega), wk_succ (by omega)]
    rfl
  · intro next m hm
    unfold tens_Canon_L1
    rw [if_neg (by simp)]
end Go.Av
set_option linter.unusedVariables false
namespace Go.Av
theorem u64_eq {x : Int} (h0 : 0 ≤ x) (h1 : x < 18446744073709551616) : wk .u64 x = x := by
  have : wk .u64 x = x % 18446744073709551616 := by simp [wk, IntKind.wrap, IntKind.signed, IntKind.bits]
  rw [this, Int.emod_eq_of_lt h0 h1]
theorem u32_eq {x : Int} (h0 : 0 ≤ x) (h1 : x < 4294967296) : wk .u32 x = x := by
  have : wk .u32 x = x % 4294967296 := by simp [wk, IntKind.wrap, IntKind.signed, IntKind.bits]
  rw [this, Int.emod_eq_of_lt h0 h1]
theorem two_mono {i j : Nat} (h : i ≤ j) : (2 : Nat) ^ i ≤ 2 ^ j := Nat.pow_le_pow_right (by decide) h
theorem min64 {k : Nat} (hk : k ≤ 64) : min ((k : Nat) : Int).toNat IntKind.u64.bits = k := by simp [IntKind.bits]; omega
theorem two_cast (k : Nat) : ((2 ^ k : Nat) : Int) = (2 : Int) ^ k := by rw [Int.natCast_pow]; rfl
theorem shr_at {a n : Nat} : (a : Int).fdiv ((2 : Int) ^ n) = ((a / 2 ^ n : Nat) : Int) := by
  rw [← two_cast, Int.fdiv_eq_ediv_of_nonneg _ (Int.natCast_nonneg _)]
  exact (Int.natCast_ediv a (2 ^ n)).symm
theorem pow_big {a k : Nat} {b : Nat} (ha : a < 2 ^ b) (hk : b ≤ k) : a / 2 ^ k = 0 := Nat.div_eq_of_lt (Nat.lt_of_lt_of_le ha (two_mono hk))
theorem shr_nat {a k : Nat} (h : a < 18446744073709551616) : shrk .u64 (a : Int) (k : Int) = ((a / 2 ^ k : Nat) : Int) := by
  unfold shrk
  rw [shr_at]
  by_cases hk : k ≤ 64
  · rw [min64 hk]
  · rw [show min ((k : Nat) : Int).toNat IntKind.u64.bits = 64 by simp [IntKind.bits]; omega, pow_big (b := 64) (by simpa using h) (Nat.le_refl _), pow_big (b := 64) (by simpa using h) (by omega)]
def lenOk (T : ByteArray) : Bool := (List.range 256).all fun i => match sat? T (i : Int) with
  | some n => decide (0 ≤ n) && decide (n ≤ 8) && decide (i < 2 ^ n.toNat) && (decide (n = 0) || decide (2 ^ (n.toNat - 1) ≤ i))
  | none => false
theorem lenOk_spec {T : ByteArray} (h : lenOk T = true) {i : Nat} (hi : i < 256) : ∃ n : Nat, sat? T (i : Int) = some (n : Int) ∧ n ≤ 8 ∧ i < 2 ^ n ∧ (n = 0 ∨ 2 ^ (n - 1) ≤ i) := by
  have := List.all_eq_true.1 h i (List.mem_range.2 hi)
  split at this
  · rename_i n hn
    simp only [Bool.and_eq_true, decide_eq_true_eq, Bool.or_eq_true] at this
    obtain ⟨⟨⟨a, b⟩, c⟩, d⟩ := this
    refine ⟨n.toNat, by rw [hn, Int.toNat_of_nonneg a], by omega, c, ?_⟩
    rcases d with d | d
    · exact .inl (by omega)
    · exact .inr d
  · cases this
/-- n bits are just enough -/
def Bits (x n : Nat) : Prop := x < 2 ^ n ∧ (n = 0 ∨ 2 ^ (n - 1) ≤ x)
theorem Bits.shift {x n k : Nat} (h : Bits (x / 2 ^ k) n) (h0 : 2 ^ k ≤ x) : Bits x (k + n) := by
  have hk : 0 < 2 ^ k := Nat.pos_of_ne_zero (by simp)
  obtain ⟨h1, h2⟩ := h
  have h3 : 1 ≤ x / 2 ^ k := (Nat.le_div_iff_mul_le hk).2 (by omega)
  refine ⟨?_, .inr ?_⟩
  · rw [Nat.pow_add]
    have h := (Nat.div_lt_iff_lt_mul hk).1 h1
    rw [Nat.mul_comm]; exact h
  · rcases h2 with h2 | h2
    · subst h2; simp at h1; omega
    · by_cases hn : n = 0
      · subst hn; simp at h1; omega
      · rw [show k + n - 1 = (n - 1) + k by omega, Nat.pow_add]
        exact (Nat.le_div_iff_mul_le hk).1 h2
theorem Len_k2 {fu x c : Nat} (hx : x < 65536) (hc : c ≤ 1000) : ∃ n : Nat, math_bits_Len64_k2 fu (x : Int) (c : Int) = some ((c + n : Nat) : Int) ∧ Bits x n ∧ n ≤ 16 := by
  unfold math_bits_Len64_k2
  generalize hT : (ByteArray.mk _ : ByteArray) = T
  have hok : lenOk T = true := by subst hT; kernel_rfl
  clear hT
  by_cases h : 256 ≤ x
  · rw [if_pos (by omega), show ((8 : Int)) = ((8 : Nat) : Int) from rfl, shr_nat (by omega)]
    have h8 : x / 2 ^ 8 < 256 := by omega
    obtain ⟨n, e1, e2, e3, e4⟩ := lenOk_spec hok h8
    have hw : wk .u8 ((x / 2 ^ 8 : Nat) : Int) = ((x / 2 ^ 8 : Nat) : Int) := by
      have : ∀ z : Int, wk .u8 z = z % 256 := fun z => by simp [wk, IntKind.wrap, IntKind.signed, IntKind.bits]
      rw [this, Int.emod_eq_of_lt (by omega) (by omega)]
    rw [hw, e1, ob_some]
    refine ⟨8 + n, ?_, Bits.shift ⟨e3, e4⟩ (by omega), by omega⟩
    rw [wk_eq (x := ((c : Nat) : Int) + ((8 : Nat) : Int)) (by omega) (by omega), wk_eq (x := ((n : Nat) : Int)) (by omega) (by omega), wk_eq (by omega) (by omega)]
    congr 1
    omega
  · rw [if_neg (by omega)]
    have hw : wk .u8 ((x : Nat) : Int) = ((x : Nat) : Int) := by
      have : ∀ z : Int, wk .u8 z = z % 256 := fun z => by simp [wk, IntKind.wrap, IntKind.signed, IntKind.bits]
      rw [this, Int.emod_eq_of_lt (by omega) (by omega)]
    obtain ⟨n, e1, e2, e3, e4⟩ := lenOk_spec hok (i := x) (by omega)
    refine ⟨n, ?_, ⟨e3, e4⟩, by omega⟩
    rw [hw, e1, ob_some, wk_eq (x := ((n : Nat) : Int)) (by omega) (by omega), wk_eq (by omega) (by omega)]
    congr 1
theorem Len_k1 {fu x c : Nat} (hx : x < 4294967296) (hc : c ≤ 100) : ∃ n : Nat, math_bits_Len64_k1 fu (x : Int) (c : Int) = some ((c + n : Nat) : Int) ∧ Bits x n ∧ n ≤ 32 := by
  unfold math_bits_Len64_k1
  by_cases h : 65536 ≤ x
  · rw [if_pos (by omega), show ((16 : Int)) = ((16 : Nat) : Int) from rfl, shr_nat (by omega)]
    obtain ⟨n, e1, e2, e3⟩ := Len_k2 (fu := fu) (x := x / 2 ^ 16) (c := c + 16) (by omega) (by omega)
    refine ⟨16 + n, ?_, e2.shift (by omega), by omega⟩
    rw [wk_eq (x := ((c : Nat) : Int) + ((16 : Nat) : Int)) (by omega) (by omega), show ((c : Nat) : Int) + ((16 : Nat) : Int) = ((c + 16 : Nat) : Int) by omega, e1]
    congr 1; omega
  · rw [if_neg (by omega)]
    obtain ⟨n, e1, e2, e3⟩ := Len_k2 (fu := fu) (x := x) (c := c) (by omega) (by omega)
    exact ⟨n, e1, e2, by omega⟩
theorem Len64_spec {fu x : Nat} (hx : x < 18446744073709551616) : ∃ n : Nat, math_bits_Len64 fu (x : Int) = some (n : Int) ∧ Bits x n ∧ n ≤ 64 := by
  unfold math_bits_Len64
  by_cases h : 4294967296 ≤ x
  · rw [if_pos (by omega), show ((32 : Int)) = ((32 : Nat) : Int) from rfl, shr_nat (by omega)]
    obtain ⟨n, e1, e2, e3⟩ := Len_k1 (fu := fu) (x := x / 2 ^ 32) (c := 32) (by omega) (by omega)
    exact ⟨32 + n, e1, e2.shift (by omega), by omega⟩
  · rw [if_neg (by omega), show ((0 : Int)) = ((0 : Nat) : Int) from rfl]
    obtain ⟨n, e1, e2, e3⟩ := Len_k1 (fu := fu) (x := x) (c := 0) (by omega) (by omega)
    exact ⟨n, by rw [e1]; congr 1; omega, e2, by omega⟩

theorem sign_tot {fu : Nat} {b : Bool} : ∃ r, soft_sign fu b = some r := by unfold soft_sign; split <;> exact ⟨_, rfl⟩
theorem tiny_tot {fu : Nat} {b : Bool} : ∃ r, soft_tiny fu 0 b = some r := by
  obtain ⟨s, hs⟩ := sign_tot (fu := fu) (b := b)
  unfold soft_tiny soft_outwards
  rw [chk_pos rfl, chk_pos rfl, ob_some, hs, ob_some]
  exact ⟨_, rfl⟩
theorem huge_tot {fu : Nat} {b : Bool} : ∃ r, soft_huge fu 0 b = some r := by
  obtain ⟨s, hs⟩ := sign_tot (fu := fu) (b := b)
  unfold soft_huge soft_huge_k1
  rw [chk_pos rfl, hs, ob_some]
  exact ⟨_, rfl⟩
theorem k3_tot {fu : Nat} {a : Bool} {b c d : Int} : ∃ r, soft_Round_k3 fu a b c d = some r := by
  obtain ⟨s, hs⟩ := sign_tot (fu := fu) (b := a)
  obtain ⟨u, hu⟩ := huge_tot (fu := fu) (b := a)
  unfold soft_Round_k3
  rw [hs, hu]
  simp only [ob_some]
  repeat' split
  all_goals exact ⟨_, rfl⟩
theorem k2_tot {fu : Nat} {a e f g : Bool} {b c d : Int} : ∃ r, soft_Round_k2 fu a b c d e f g = some r := by
  unfold soft_Round_k2
  repeat' split
  all_goals exact k3_tot
theorem k4_tot {fu : Nat} {a e f : Bool} {b c d : Int} : ∃ r, soft_Round_k4 fu a b c e d f = some r := by
  unfold soft_Round_k4
  repeat' split
  all_goals exact k2_tot
theorem k1_tot {fu : Nat} {a e : Bool} {b c : Int} {n : Nat} (hn : n ≤ 64) (hb : -300 ≤ b) (hb2 : b ≤ 200) : ∃ r, soft_Round_k1 fu a b c e (n : Int) = some r := by
  unfold soft_Round_k1
  have e1 : wk .i64 ((n : Int) - 24) = (n : Int) - 24 := wk_eq (by omega) (by omega)
  have e2 : wk .i64 (-149 - b) = -149 - b := wk_eq (by omega) (by omega)
  rw [e1, e2]
  have h1 : (n : Int) - 24 ≤ imax ((n : Int) - 24) (-149 - b) := by unfold imax; split <;> omega
  have h2 : imax ((n : Int) - 24) (-149 - b) ≤ 151 := by unfold imax; split <;> omega
  generalize imax ((n : Int) - 24) (-149 - b) = m at h1 h2
  split
  · rw [chk_pos (by rw [wk_eq (by omega) (by omega)]; omega)]
    exact k2_tot
  · split
    · exact k2_tot
    · rw [chk_pos (by omega), chk_pos (by rw [wk_eq (by omega) (by omega)]; omega)]
      repeat' split
      all_goals exact k4_tot
theorem Round_tot {fu : Nat} {a e : Bool} {b c : Int} (h0 : 0 ≤ c) (h1 : c < 18446744073709551616) : ∃ r, soft_Round fu 0 a b c e = some r := by
  obtain ⟨k, rfl⟩ := Int.eq_ofNat_of_zero_le h0
  obtain ⟨n, hn, _, hn2⟩ := Len64_spec (fu := fu) (x := k) (by omega)
  obtain ⟨s, hs⟩ := sign_tot (fu := fu) (b := a)
  obtain ⟨u, hu⟩ := huge_tot (fu := fu) (b := a)
  obtain ⟨v, hv⟩ := tiny_tot (fu := fu) (b := a)
  unfold soft_Round
  rw [chk_pos rfl, hn, ob_some, hs, hu, hv]
  simp only [ob_some]
  split
  · split <;> exact ⟨_, rfl⟩
  · split
    · exact ⟨_, rfl⟩
    · split
      · exact ⟨_, rfl⟩
      · exact k1_tot hn2 (by omega) (by omega)
theorem wk_u64 (x : Int) : 0 ≤ wk .u64 x ∧ wk .u64 x < 18446744073709551616 := by
  have : wk .u64 x = x % 18446744073709551616 := by simp [wk, IntKind.wrap, IntKind.signed, IntKind.bits]
  rw [this]; omega
theorem open_tot {fu : Nat} {x : Int} : ∃ r, soft_open fu x = some r ∧ -150 ≤ r.fexp ∧ r.fexp ≤ 200 := by
  have hb : 0 ≤ band .u32 (shrk .u32 x 23) 255 ∧ band .u32 (shrk .u32 x 23) 255 ≤ 255 := by
    unfold band
    rw [show IntKind.u32.bits = 32 from rfl, BitVec.toNat_and]
    have h : (BitVec.ofInt 32 (shrk .u32 x 23)).toNat &&& (BitVec.ofInt 32 255).toNat ≤ 255 := Nat.le_trans Nat.and_le_right (by decide)
    have hw := u32_eq (x := (((BitVec.ofInt 32 (shrk .u32 x 23)).toNat &&& (BitVec.ofInt 32 255).toNat : Nat) : Int)) (by omega) (by omega)
    unfold wk at hw
    rw [hw]
    omega
  unfold soft_open
  rw [wk_eq (x := band .u32 (shrk .u32 x 23) 255) (by omega) (by omega)]
  generalize band .u32 (shrk .u32 x 23) 255 = q at hb
  split
  · exact ⟨_, rfl, by show (-150 : Int) ≤ 0; omega, by show (0 : Int) ≤ 200; omega⟩
  · split
    · exact ⟨_, rfl, by show (-150 : Int) ≤ -149; omega, by show (-149 : Int) ≤ 200; omega⟩
    · refine ⟨_, rfl, ?_, ?_⟩
      · show -150 ≤ wk .i64 (q - 150)
        rw [wk_eq (by omega) (by omega)]; omega
      · show wk .i64 (q - 150) ≤ 200
        rw [wk_eq (by omega) (by omega)]; omega
theorem Mul_tot {fu : Nat} {x y : Int} : ∃ r, soft_Mul fu x y = some r := by
  obtain ⟨a, ha, _, _⟩ := open_tot (fu := fu) (x := x)
  obtain ⟨b, hb, _, _⟩ := open_tot (fu := fu) (x := y)
  obtain ⟨s, hs⟩ := sign_tot (fu := fu) (b := !(a.fneg == b.fneg))
  obtain ⟨r, hr⟩ := Round_tot (fu := fu) (a := !(a.fneg == b.fneg)) (e := false) (b := wk .i64 (a.fexp + b.fexp)) (wk_u64 (a.fsig * b.fsig)).1 (wk_u64 _).2
  unfold soft_Mul soft_MulBy soft_MulBy_k1
  rw [chk_pos rfl, ha, ob_some, hb, ob_some, hs, hr]
  simp only [ob_some]
  repeat' split
  all_goals exact ⟨_, rfl⟩
theorem nought_tot {fu : Nat} : ∃ r, soft_nought fu 0 = some r := by
  obtain ⟨s, hs⟩ := sign_tot (fu := fu) (b := decide ((0 : Int) = 2))
  unfold soft_nought
  rw [chk_pos rfl, hs, ob_some]
  exact ⟨_, rfl⟩
theorem a3_tot {fu : Nat} {a b c : Bool} {x y z : Int} : ∃ r, soft_AddBy_k3 fu a b x y z c = some r := by
  obtain ⟨s, hs⟩ := nought_tot (fu := fu)
  obtain ⟨r1, h1⟩ := Round_tot (fu := fu) (a := a) (e := c) (b := x) (wk_u64 (y + z)).1 (wk_u64 _).2
  obtain ⟨r2, h2⟩ := Round_tot (fu := fu) (a := a) (e := true) (b := x) (wk_u64 (wk .u64 (y - z) - 1)).1 (wk_u64 _).2
  obtain ⟨r3, h3⟩ := Round_tot (fu := fu) (a := a) (e := false) (b := x) (wk_u64 (y - z)).1 (wk_u64 _).2
  obtain ⟨r4, h4⟩ := Round_tot (fu := fu) (a := b) (e := false) (b := x) (wk_u64 (z - y)).1 (wk_u64 _).2
  unfold soft_AddBy_k3
  rw [hs, h1, h2, h3, h4]
  simp only [ob_some]
  repeat' split
  all_goals exact ⟨_, rfl⟩
theorem a2_tot {fu : Nat} {a b : Bool} {x y z w : Int} (h : z ≤ x) (h1 : -1000 ≤ z) (h2 : x ≤ 1000) : ∃ r, soft_AddBy_k2 fu a x y b z w = some r := by
  unfold soft_AddBy_k2
  rw [wk_eq (x := x - z) (by omega) (by omega)]
  split
  · rw [chk_pos (by omega)]; exact a3_tot
  · rw [chk_pos (by rw [wk_eq (by omega) (by omega)]; omega)]; exact a3_tot
theorem a1_tot {fu : Nat} {p q : T_soft_number} (h1 : -150 ≤ p.fexp) (h2 : p.fexp ≤ 200) (h3 : -150 ≤ q.fexp) (h4 : q.fexp ≤ 200) : ∃ r, soft_AddBy_k1 fu p q = some r := by
  unfold soft_AddBy_k1
  split
  · exact a2_tot (by omega) (by omega) (by omega)
  · exact a2_tot (by omega) (by omega) (by omega)
theorem Add_tot {fu : Nat} {x y : Int} : ∃ r, soft_Add fu x y = some r := by
  obtain ⟨a, ha, a1, a2⟩ := open_tot (fu := fu) (x := x)
  obtain ⟨b, hb, b1, b2⟩ := open_tot (fu := fu) (x := y)
  obtain ⟨s, hs⟩ := nought_tot (fu := fu)
  obtain ⟨r, hr⟩ := a1_tot (fu := fu) a1 a2 b1 b2
  unfold soft_Add soft_AddBy
  rw [chk_pos rfl, ha, ob_some, hb, ob_some, hs, hr]
  simp only [ob_some]
  repeat' split
  all_goals exact ⟨_, rfl⟩
theorem Mul_fu {fu : Nat} {x y : Int} : soft_Mul fu x y = soft_Mul 0 x y := rfl
theorem Add_fu {fu : Nat} {x y : Int} : soft_Add fu x y = soft_Add 0 x y := rfl
def mulV (x y : Int) : Int := (soft_Mul 0 x y).getD 0
def addV (x y : Int) : Int := (soft_Add 0 x y).getD 0
theorem Mul_spec {fu : Nat} {x y : Int} : soft_Mul fu x y = some (mulV x y) := by
  rw [Mul_fu]; unfold mulV
  obtain ⟨r, hr⟩ := Mul_tot (fu := 0) (x := x) (y := y)
  rw [hr]; rfl
theorem Add_spec {fu : Nat} {x y : Int} : soft_Add fu x y = some (addV x y) := by
  rw [Add_fu]; unfold addV
  obtain ⟨r, hr⟩ := Add_tot (fu := 0) (x := x) (y := y)
  rw [hr]; rfl
/-- a sum of products, in order -/
def dotV (s : Int) (a b : List Int) : Int := (a.zip b).foldl (fun s p => addV s (mulV p.1 p.2)) s
theorem imin_cast {a b : Nat} : imin (a : Int) (b : Int) = ((min a b : Nat) : Int) := by unfold imin; split <;> omega
theorem Dot_spec {fu : Nat} {a b : List Int} (hl : a.length ≤ 140737488351232) (hf : a.length < fu) : mat_Dot fu a b = some (dotV 0 a b) := by
  unfold mat_Dot mat_Dot_W1
  refine (cloop_ind (fun (s : Int × Int) => some (dotV s.1 (a.drop s.2.toNat) (b.drop s.2.toNat))) (fun s => 0 ≤ s.2 ∧ s.2 ≤ a.length ∧ s.2 ≤ b.length) (fun s => a.length - s.2.toNat) ?_ fu (0, 0) (by simp) (by simp; omega)).trans (by simp)
  rintro ⟨s, i⟩ ⟨h0, h1, h2⟩ next hn
  simp only at h0 h1 h2
  obtain ⟨k, rfl⟩ := Int.eq_ofNat_of_zero_le h0
  simp only [Int.toNat_natCast]
  unfold mat_Dot_L1
  rw [imin_cast]
  by_cases hk : k < a.length ∧ k < b.length
  · obtain ⟨ka, kb⟩ := hk
    rw [if_pos (by omega), at?_get ka, ob_some, at?_get kb, ob_some, Mul_spec, ob_some, Add_spec, ob_some, wk_eq (by omega) (by omega)]
    have e : ((k : Int) + 1) = ((k + 1 : Nat) : Int) := by omega
    rw [e]
    show next (addV s (mulV a[k] b[k]), ((k + 1 : Nat) : Int)) = _
    rw [hn _ ⟨by simp only []; omega, by simp only []; omega, by simp only []; omega⟩ (by simp only [Int.toNat_natCast]; omega)]
    simp only [Int.toNat_natCast]
    rw [List.drop_eq_getElem_cons ka, List.drop_eq_getElem_cons kb]
    rfl
  · rw [if_neg (by omega)]
    have : (a.drop k).zip (b.drop k) = [] := by
      apply List.eq_nil_of_length_eq_zero
      simp only [List.length_zip, List.length_drop]; omega
    unfold dotV
    rw [this]; rfl
end Go.Av
set_option linter.unusedVariables false
namespace Go.Av
theorem cloop_succ {σ β : Type} {body : (σ → Option β) → σ → Option β} {n : Nat} {s : σ} : cloop body (n + 1) s = body (cloop body n) s := rfl
def valOf (t : T_Tensor) : T_Val := if t.fType = 0 then ⟨0, [], false, ⟨0, [], [], [], []⟩⟩ else ⟨t.fType, t.fDims, true, t⟩
theorem CloneI_spec {fu : Nat} {l : List Int} (h : l.length * 8 ≤ 140737488351232) : slices_Clone_int fu l = some l := by
  unfold slices_Clone_int; rw [chk_pos (by omega)]
theorem Vals_step {fu : Nat} {x y t : T_Tensor} {nx : List T_Val → Int → Option (List T_Val)} {l : List T_Val} {i : Int} (hi : at? [x, y] i = some t) (h2 : i < 2) (ht : Ten t) (hl : l.length ≤ 100) :
    ewise_Vals_L1 fu [x, y] nx l i = nx (l ++ [valOf t]) (wk .i64 (i + 1)) := by
  unfold ewise_Vals_L1 valOf
  rw [if_pos (show i < (([x, y] : List T_Tensor).length : Int) from h2), hi, ob_some]
  by_cases h : t.fType = 0
  · rw [if_pos h, chk_pos (by omega), if_pos h]
  · rw [if_neg h, if_neg h, CloneI_spec ht.1, ob_some, Copy_spec ht, ob_some, chk_pos (by omega)]
theorem Vals_spec {n : Nat} {x y : T_Tensor} (hx : Ten x) (hy : Ten y) : ewise_Vals (n + 3) [x, y] = some [valOf x, valOf y] := by
  unfold ewise_Vals ewise_Vals_W1
  rw [cloop_succ]
  show ewise_Vals_L1 (n + 3) [x, y] _ [] 0 = _
  rw [Vals_step (t := x) rfl (by decide) hx (by simp), cloop_succ]
  show ewise_Vals_L1 (n + 3) [x, y] _ [valOf x] 1 = _
  rw [Vals_step (t := y) rfl (by decide) hy (by simp), cloop_succ]
  rfl
section
variable {fu : Nat} {s : T_Setting} {a b : T_Val}
theorem val_0 : infer_ask_val fu ⟨73, s, [a, b], 1⟩ 0 = some a := rfl
theorem val_1 : infer_ask_val fu ⟨73, s, [a, b], 1⟩ 1 = some b := rfl
theorem has_0 : infer_ask_has fu ⟨73, s, [a, b], 1⟩ 0 = some (!(decide (a.fType = 0))) := rfl
theorem has_1 : infer_ask_has fu ⟨73, s, [a, b], 1⟩ 1 = some (!(decide (b.fType = 0))) := rfl
theorem dims_0 : infer_ask_dims fu ⟨73, s, [a, b], 1⟩ 0 = some a.fDims := rfl
theorem dims_1 : infer_ask_dims fu ⟨73, s, [a, b], 1⟩ 1 = some b.fDims := rfl
theorem complete_spec : infer_ask_complete (fu + 3) ⟨73, s, [a, b], 1⟩ = some (!(decide (a.fType = 0)) && !(decide (b.fType = 0))) := by
  have h : infer_ask_complete (fu + 3) ⟨73, s, [a, b], 1⟩ = infer_ask_complete_W1 (fu + 3) ⟨73, s, [a, b], 1⟩ (2, 2, 1, 1) 0 := rfl
  rw [h]
  unfold infer_ask_complete_W1
  rw [cloop_succ]
  rw [infer_ask_complete_L1, if_pos (by decide), has_0, ob_some]
  by_cases h0 : a.fType = 0
  · simp [h0]
  · rw [if_pos (by simp [h0]), cloop_succ, show wk .i64 (0 + 1) = 1 from rfl]
    rw [infer_ask_complete_L1, if_pos (by decide), has_1, ob_some]
    by_cases h1 : b.fType = 0
    · simp [h1]
    · rw [if_pos (by simp [h1]), cloop_succ]
      simp [h0, h1]
      rfl
theorem fits_0 : infer_ask_fits fu ⟨73, s, [a, b], 1⟩ 0 102 = some (decide (a.fType = 1)) := rfl
theorem fits_1 : infer_ask_fits fu ⟨73, s, [a, b], 1⟩ 1 102 = some (decide (b.fType = 1)) := rfl
theorem width_one {k : Int} : tens_Width fu k = some (if k = 1 then 4 else if k = 7 then 8 else if k = 9 then 1 else 0) := by
  unfold tens_Width; repeat' split
  all_goals rfl
theorem sort_0 : sat? (⟨#[102]⟩ : ByteArray) (imin 0 (wk .i64 (((⟨#[102]⟩ : ByteArray).size : Int) - 1))) = some 102 := rfl
theorem sort_1 : sat? (⟨#[102]⟩ : ByteArray) (imin 1 (wk .i64 (((⟨#[102]⟩ : ByteArray).size : Int) - 1))) = some 102 := rfl
theorem typed_spec (h0 : a.fType ≠ 0) (h1 : b.fType ≠ 0) : infer_ask_typed (fu + 3) ⟨73, s, [a, b], 1⟩ = some (decide (a.fType = 1) && decide (b.fType = 1)) := by
  have h : infer_ask_typed (fu + 3) ⟨73, s, [a, b], 1⟩ = infer_ask_typed_W1 (fu + 3) ⟨73, s, [a, b], 1⟩ ⟨#[102]⟩ 0 := rfl
  rw [h]
  unfold infer_ask_typed_W1
  rw [cloop_succ]
  rw [infer_ask_typed_L1, if_pos (show (0 : Int) < (([a, b] : List T_Val).length : Int) by simp), has_0, ob_some, if_pos (by simp [h0]), val_0, ob_some, width_one, ob_some]
  by_cases e0 : a.fType = 1
  · rw [if_pos e0, if_neg (by decide)]
    rw [sort_0, ob_some, fits_0, ob_some, if_pos (by simp [e0]), cloop_succ, show wk .i64 (0 + 1) = 1 from rfl]
    rw [infer_ask_typed_L1, if_pos (show (1 : Int) < (([a, b] : List T_Val).length : Int) by simp), has_1, ob_some, if_pos (by simp [h1]), val_1, ob_some, width_one, ob_some]
    by_cases e1 : b.fType = 1
    · rw [if_pos e1, if_neg (by decide)]
      rw [sort_1, ob_some, fits_1, ob_some, if_pos (by simp [e1]), cloop_succ]
      simp [e0, e1]
      rfl
    · by_cases hz : (if b.fType = 1 then (4 : Int) else if b.fType = 7 then 8 else if b.fType = 9 then 1 else 0) = 0
      · rw [if_pos hz]; simp [e1]
      · rw [if_neg hz]
        rw [sort_1, ob_some, fits_1, ob_some, if_neg (by simp [e1])]; simp [e1]
  · by_cases hz : (if a.fType = 1 then (4 : Int) else if a.fType = 7 then 8 else if a.fType = 9 then 1 else 0) = 0
    · rw [if_pos hz]; simp [e0]
    · rw [if_neg hz]
      rw [sort_0, ob_some, fits_0, ob_some, if_neg (by simp [e0])]; simp [e0]
theorem told_spec : infer_ask_told (fu + 3) ⟨73, s, [a, b], 1⟩ = some 0 := rfl
theorem wrong_spec (h0 : a.fType ≠ 0) (h1 : b.fType ≠ 0) (g0 : Good a.fDims) (g1 : Good b.fDims) (hf : 20 ≤ fu) :
    infer_ask_wrong (fu + 3) ⟨73, s, [a, b], 1⟩ = some (if a.fType = 1 ∧ b.fType = 1 then 0 else 5) := by
  have h : infer_ask_wrong (fu + 3) ⟨73, s, [a, b], 1⟩ = infer_ask_wrong_W1 (fu + 3) ⟨73, s, [a, b], 1⟩ 0 := rfl
  rw [h]
  unfold infer_ask_wrong_W1
  have l0 := g0.1
  have l1 := g1.1
  rw [cloop_succ]
  show (shape_Size (fu + 3) a.fDims).bind _ = _
  rw [Size_spec (by unfold Short; omega) (by omega), ob_some, sizeV, if_pos g0]
  show (infer_ask_has (fu + 3) ⟨73, s, [a, b], 1⟩ 0).bind _ = _
  rw [has_0, ob_some, if_pos (by simp [h0]), if_pos rfl, cloop_succ]
  show (shape_Size (fu + 3) b.fDims).bind _ = _
  rw [Size_spec (by unfold Short; omega) (by omega), ob_some, sizeV, if_pos g1]
  show (infer_ask_has (fu + 3) ⟨73, s, [a, b], 1⟩ 1).bind _ = _
  rw [has_1, ob_some, if_pos (by simp [h1]), if_pos rfl, cloop_succ]
  show (infer_ask_typed (fu + 3) ⟨73, s, [a, b], 1⟩).bind _ = _
  rw [typed_spec h0 h1, ob_some]
  by_cases e0 : a.fType = 1 <;> by_cases e1 : b.fType = 1
  · simp only [e0, e1, decide_true, Bool.and_self, if_true]
    show (infer_ask_told (fu + 3) ⟨73, s, [a, b], 1⟩).bind _ = _
    rw [told_spec]; rfl
  · simp [e0, e1]
  · simp [e0, e1]
  · simp [e0, e1]
end
theorem len2 {A : List Int} {p q : Int} : (A ++ [p, q]).length = A.length + 2 := by simp
theorem wk_len2 {A : List Int} {p q : Int} (h : A.length ≤ 100) : wk .i64 (((A ++ [p, q]).length : Int) - 2) = (A.length : Int) := by
  rw [len2, wk_eq (by omega) (by omega)]; omega
theorem at_p {A : List Int} {p q : Int} : at? (A ++ [p, q]) (A.length : Int) = some p := by rw [at?_nat]; simp
theorem at_q {A : List Int} {p q : Int} (h : A.length ≤ 100) : at? (A ++ [p, q]) (wk .i64 ((A.length : Int) + 1)) = some q := by
  rw [wk_eq (by omega) (by omega), show ((A.length : Int) + 1) = ((A.length + 1 : Nat) : Int) by omega, at?_nat]; simp
theorem subN_pre {A : List Int} {p q : Int} : subN (A ++ [p, q]) 0 ((A.length : Int)).toNat = A := by simp [subN]
/-- the dims of a product's answer -/
def outD (A : List Int) (p q : Int) (ra : Bool) (B : List Int) (p2 q2 : Int) (cb : Bool) : List (List Int) × Int :=
  if q = p2 then (if (broadcastV A B).2 = 0 then ([(broadcastV A B).1 ++ (if ra then [] else [p]) ++ (if cb then [] else [q2])], 0) else ([], (broadcastV A B).2)) else ([], 3)
theorem bv_len {a b : List Int} : (broadcastV a b).1.length ≤ 8 := by
  unfold broadcastV
  split
  · split
    · split
      · split
        · rename_i h; exact h.1
        · simp
      · simp
    · simp
  · simp
theorem prod_k3 {fu : Nat} {A B : List Int} {p q p2 q2 : Int} {ra cb : Bool} (hA : A.length ≤ 8) (hB : B.length ≤ 8) (hf : 20 < fu) :
    infer_ask_product_k3 fu (A ++ [p, q]) ra (B ++ [p2, q2]) cb = some (outD A p q ra B p2 q2 cb) := by
  unfold infer_ask_product_k3 outD
  rw [wk_len2 (by omega), at_q (by omega), ob_some, wk_len2 (by omega), at_p, ob_some]
  by_cases h : q = p2
  · rw [if_pos h, if_pos h, chk_pos (by rw [len2]; omega), chk_pos (by rw [len2]; omega), subN_pre, subN_pre, Broadcast_spec (by unfold Short; omega) (by unfold Short; omega) (by omega) (by omega) (by omega), ob_some]
    have hb := bv_len (a := A) (b := B)
    by_cases e : (broadcastV A B).2 = 0
    · rw [if_pos e, if_pos e]
      have k4 : ∀ l : List Int, l.length ≤ 100 → infer_ask_product_k4 fu (B ++ [p2, q2]) cb l = some ([l ++ (if cb then [] else [q2])], 0) := fun l hl => by
        unfold infer_ask_product_k4 infer_ask_product_k5 infer_one
        cases cb
        · simp only [Bool.false_eq_true, if_false, ob_some]
          rw [wk_len2 (by omega), at_q (by omega), ob_some, chk_pos (by omega)]
        · simp
      cases ra
      · simp only [Bool.false_eq_true, if_false]
        rw [at_p, ob_some, chk_pos (by omega), k4 _ (by simp; omega)]
      · simp only [if_true]
        rw [k4 _ (by omega)]
        simp
    · rw [if_neg e, if_neg e]
  · rw [if_neg h, if_neg h]
    rfl
/-- a list of dims, as a product takes them: what is ahead, rows, columns, whether one was put in -/
inductive LeftM : List Int → Bool → List Int → Int → Int → Prop
  | row (q : Int) : LeftM [q] true [] 1 q
  | mat (A : List Int) (p q : Int) : LeftM (A ++ [p, q]) false A p q
inductive RightM : List Int → Bool → List Int → Int → Int → Prop
  | col (p : Int) : RightM [p] true [] p 1
  | mat (B : List Int) (p q : Int) : RightM (B ++ [p, q]) false B p q
theorem two_split {l : List Int} (h : 2 ≤ l.length) : ∃ A p q, l = A ++ [p, q] := by
  refine ⟨l.take (l.length - 2), l[l.length - 2], l[l.length - 1], ?_⟩
  conv => lhs; rw [← List.take_append_drop (l.length - 2) l]
  congr 1
  rw [List.drop_eq_getElem_cons (by omega), List.drop_eq_getElem_cons (by omega), List.drop_of_length_le (by omega)]
  simp only [show l.length - 2 + 1 = l.length - 1 by omega]
theorem left_ex {l : List Int} (h : l.length ≠ 0) : ∃ ra A p q, LeftM l ra A p q := by
  by_cases h1 : l.length = 1
  · match l, h1 with
    | [q], _ => exact ⟨_, _, _, _, .row q⟩
  · obtain ⟨A, p, q, rfl⟩ := two_split (l := l) (by omega)
    exact ⟨_, _, _, _, .mat A p q⟩
theorem right_ex {l : List Int} (h : l.length ≠ 0) : ∃ cb B p q, RightM l cb B p q := by
  by_cases h1 : l.length = 1
  · match l, h1 with
    | [q], _ => exact ⟨_, _, _, _, .col q⟩
  · obtain ⟨A, p, q, rfl⟩ := two_split (l := l) (by omega)
    exact ⟨_, _, _, _, .mat A p q⟩
section
variable {fu : Nat} {s : T_Setting} {a b : T_Val}
theorem shapes_none (ha : a.fDims.length ≤ 8) (hb : b.fDims.length ≤ 8) (h : a.fDims.length = 0 ∨ b.fDims.length = 0) : infer_ask_shapes fu ⟨73, s, [a, b], 1⟩ = some ([], 3) := by
  show (infer_ask_product fu ⟨73, s, [a, b], 1⟩).bind _ = _
  have : infer_ask_product fu ⟨73, s, [a, b], 1⟩ = some ([], 3) := by
    unfold infer_ask_product
    rw [chk_pos rfl, dims_0, ob_some, dims_1, ob_some]
    by_cases h0 : a.fDims.length = 0
    · rw [if_pos (by omega)]; rfl
    · rw [if_neg (by omega), if_pos (by omega)]; rfl
  rw [this]; rfl
theorem shapes_spec {ra cb : Bool} {A B : List Int} {p q p2 q2 : Int} (ha : a.fDims.length ≤ 8) (hb : b.fDims.length ≤ 8) (hl : LeftM a.fDims ra A p q) (hr : RightM b.fDims cb B p2 q2) (hf : 20 < fu) :
    infer_ask_shapes fu ⟨73, s, [a, b], 1⟩ = some (outD A p q ra B p2 q2 cb) := by
  show (infer_ask_product fu ⟨73, s, [a, b], 1⟩).bind _ = _
  have : infer_ask_product fu ⟨73, s, [a, b], 1⟩ = some (outD A p q ra B p2 q2 cb) := by
    unfold infer_ask_product
    rw [chk_pos rfl, dims_0, ob_some, dims_1, ob_some]
    generalize a.fDims = da at ha hl ⊢
    generalize b.fDims = db at hb hr ⊢
    unfold infer_ask_product_k1 infer_ask_product_k2
    have hB : B.length ≤ 8 := by
      cases hr
      · simp
      · simp at hb; omega
    have hA : A.length ≤ 8 := by
      cases hl
      · simp
      · simp at ha; omega
    have key := prod_k3 (fu := fu) (A := A) (B := B) (p := p) (q := q) (p2 := p2) (q2 := q2) (ra := ra) (cb := cb) hA hB hf
    cases hl with
    | row q =>
      rw [if_neg (by simp)]
      cases hr with
      | col p => rw [if_neg (by simp), if_pos (by simp)]; show (some _).bind _ = _; rw [ob_some, if_pos (by simp)]; show (some _).bind _ = _; rw [ob_some]; exact key
      | mat B p2 q2 => rw [if_neg (by simp; omega), if_pos (by simp)]; show (some _).bind _ = _; rw [ob_some, if_neg (by simp; omega)]; exact key
    | mat A p q =>
      rw [if_neg (by simp; omega)]
      cases hr with
      | col p => rw [if_neg (by simp), if_neg (by simp; omega), if_pos (by simp)]; show (some _).bind _ = _; rw [ob_some]; exact key
      | mat B p2 q2 => rw [if_neg (by simp; omega), if_neg (by simp; omega), if_neg (by simp; omega)]; exact key
  rw [this]; rfl
/-- what infer tells of an operation whose shapes are told -/
def nodeV (t : Int) (d : List (List Int) × Int) : List T_Val × Int := match d with
  | ([d], 0) => if Good d then ([⟨t, d, false, ⟨0, [], [], [], []⟩⟩], 0) else ([], 4)
  | (_, e) => ([], e)
theorem out_spec : infer_ask_out fu ⟨73, s, [a, b], 1⟩ = some a.fType := rfl
theorem Node_loop {d : List Int} (hd : d.length ≤ 100) (hf : 110 ≤ fu) : infer_Node_W1 (fu + 3) s [a, b] 1 ([d], 0) [] 0 = some (nodeV a.fType ([d], 0)) := by
  unfold infer_Node_W1 nodeV
  rw [cloop_succ]
  show (shape_Size (fu + 3) d).bind _ = _
  rw [Size_spec (by unfold Short; omega) (by omega), ob_some]
  by_cases hg : Good d
  · rw [sizeV, if_pos hg, if_pos rfl, out_spec, ob_some, CloneI_spec (by omega), ob_some, chk_pos (by decide)]
    show cloop _ (fu + 2) _ = _
    rw [cloop_succ]
    simp only [if_pos hg]
    rfl
  · rw [sizeV, if_neg hg, if_neg (errS_ne _)]
    simp only [if_neg hg]
theorem Node_none (h : a.fType = 0 ∨ b.fType = 0) : infer_Node (fu + 3) 73 s [a, b] 1 = some ([], 1) := by
  unfold infer_Node
  rw [chk_pos rfl, complete_spec, ob_some, if_neg (by rcases h with h | h <;> simp [h])]
theorem Node_type (h0 : a.fType ≠ 0) (h1 : b.fType ≠ 0) (g0 : Good a.fDims) (g1 : Good b.fDims) (hf : 110 ≤ fu) (h : ¬ (a.fType = 1 ∧ b.fType = 1)) : infer_Node (fu + 3) 73 s [a, b] 1 = some ([], 5) := by
  unfold infer_Node
  rw [chk_pos rfl, complete_spec, ob_some, if_pos (by simp [h0, h1]), wrong_spec h0 h1 g0 g1 (by omega), ob_some, if_neg h, if_neg (by decide)]
theorem Node_short (h0 : a.fType = 1) (h1 : b.fType = 1) (g0 : Good a.fDims) (g1 : Good b.fDims) (hf : 110 ≤ fu) (h : a.fDims.length = 0 ∨ b.fDims.length = 0) : infer_Node (fu + 3) 73 s [a, b] 1 = some ([], 3) := by
  unfold infer_Node
  rw [chk_pos rfl, complete_spec, ob_some, if_pos (by simp [h0, h1]), wrong_spec (by omega) (by omega) g0 g1 (by omega), ob_some, show (if a.fType = 1 ∧ b.fType = 1 then (0 : Int) else 5) = 0 from if_pos ⟨h0, h1⟩, if_pos rfl, shapes_none g0.1 g1.1 h, ob_some, if_neg (by decide)]
theorem outD_len {A B : List Int} {p q p2 q2 : Int} {ra cb : Bool} : (outD A p q ra B p2 q2 cb).2 ≠ 0 ∨ ∃ d, outD A p q ra B p2 q2 cb = ([d], 0) ∧ d.length ≤ 10 := by
  unfold outD
  have hb := bv_len (a := A) (b := B)
  split
  · split
    · refine .inr ⟨_, rfl, ?_⟩
      cases ra <;> cases cb <;> simp <;> omega
    · rename_i h; exact .inl h
  · exact .inl (by decide)
theorem Node_spec {ra cb : Bool} {A B : List Int} {p q p2 q2 : Int} (h0 : a.fType = 1) (h1 : b.fType = 1) (g0 : Good a.fDims) (g1 : Good b.fDims) (hf : 110 ≤ fu) (hl : LeftM a.fDims ra A p q) (hr : RightM b.fDims cb B p2 q2) :
    infer_Node (fu + 3) 73 s [a, b] 1 = some (nodeV 1 (outD A p q ra B p2 q2 cb)) := by
  unfold infer_Node
  rw [chk_pos rfl, complete_spec, ob_some, if_pos (by simp [h0, h1]), wrong_spec (by omega) (by omega) g0 g1 (by omega), ob_some, show (if a.fType = 1 ∧ b.fType = 1 then (0 : Int) else 5) = 0 from if_pos ⟨h0, h1⟩, if_pos rfl, shapes_spec g0.1 g1.1 hl hr (by omega), ob_some]
  rcases outD_len (A := A) (B := B) (p := p) (q := q) (p2 := p2) (q2 := q2) (ra := ra) (cb := cb) with h | ⟨d, h, hd⟩
  · rw [if_neg h]
    generalize outD A p q ra B p2 q2 cb = o at h ⊢
    obtain ⟨l, e⟩ := o
    simp only at h
    unfold nodeV
    split
    · rename_i h2; injection h2 with _ h3; exact absurd h3 h
    · rename_i h2; injection h2 with _ h3; rw [h3]
  · rw [h, if_pos rfl, Node_loop (by omega) hf, h0]
end
end Go.Av
set_option linter.unusedVariables false
namespace Go.Av
theorem fromS_lt : ∀ {s l xs : List Int}, s.length = l.length → l.length = xs.length → dimsFit s l → okIx l xs = true → 0 ≤ fromS s xs ∧ fromS s xs < prod s
  | [], [], [], _, _, _, _ => by simp [fromS, prod]
  | d :: s, x :: l, y :: xs, h1, h2, hf, ho => by
    simp only [okIx, Bool.and_eq_true, decide_eq_true_eq] at ho
    obtain ⟨f1, f2⟩ := fromS_lt (s := s) (l := l) (xs := xs) (by simpa using h1) (by simpa using h2) hf.2 ho.2
    simp only [fromS, prod]
    by_cases hd : d = 1
    · rw [if_pos hd, hd, Int.one_mul]; omega
    · rw [if_neg hd]
      have := hf.1.resolve_left hd
      have m1 : (y + 1) * prod s ≤ d * prod s := Int.mul_le_mul_of_nonneg_right (by omega) (by omega)
      rw [Int.add_mul, Int.one_mul] at m1
      have m2 : 0 ≤ y * prod s := Int.mul_nonneg ho.1.1 (by omega)
      omega

/-- an element of an answer stands somewhere in what was brought together -/
theorem from_in {A B : List Int} (h : (broadcastV A B).2 = 0) {k : Nat} (hk : (k : Int) < prod (broadcastV A B).1) :
    Good (broadcastV A B).1 ∧ (∃ i : Nat, fromV A (broadcastV A B).1 k = ((i : Int), 0) ∧ (i : Int) < prod A) ∧ ∃ j : Nat, fromV B (broadcastV A B).1 k = ((j : Int), 0) ∧ (j : Int) < prod B := by
  unfold broadcastV at h
  by_cases hA : Good A
  · by_cases hB : Good B
    · simp only [if_pos hA, if_pos hB] at h
      cases hb : bc A B with
      | none => rw [hb] at h; simp at h
      | some l =>
        rw [hb] at h
        simp only at h
        by_cases hl : Good l
        · have e : broadcastV A B = (l, 0) := by unfold broadcastV; rw [if_pos hA, if_pos hB, hb]; simp only [if_pos hl]
          rw [e] at hk ⊢
          simp only at hk ⊢
          have hn : prod l ≠ 0 := by omega
          have hp := pos_of_good hl hn
          have key : ∀ S : List Int, Good S → bc S l = some l → ∃ i : Nat, fromV S l k = ((i : Int), 0) ∧ (i : Int) < prod S := fun S hS hb2 => by
            have e2 : broadcastV S l = (l, 0) := by unfold broadcastV; rw [if_pos hS, if_pos hl, hb2]; simp only [if_pos hl]
            obtain ⟨f1, _, f3⟩ := bcast_fit hS hl e2
            unfold fromV
            rw [if_pos hS, if_pos hl, if_pos e2, if_pos ⟨by omega, hk⟩]
            have hi := okIx_idx hp (a := (k : Int)) (by omega) hk
            have h3 := fromS_lt (s := S) (l := l.drop (l.length - S.length)) (xs := (idxV l k).drop (l.length - S.length)) (by simp; omega) (by simp [idxV_length]) f3 (okIx_drop _ hi)
            exact ⟨(fromS S ((idxV l k).drop (l.length - S.length))).toNat, by rw [Int.toNat_of_nonneg h3.1], by omega⟩
          obtain ⟨b1, b2, _⟩ := bc_left hb
          exact ⟨hl, key A hA (by rw [bc_comm]; exact b1), key B hB b2⟩
        · rw [if_neg hl] at h; exact absurd h (errS_ne _)
    · simp only [if_pos hA, if_neg hB] at h; exact absurd h (errS_ne _)
  · simp only [if_neg hA] at h; exact absurd h (errS_ne _)
theorem prod_app {A B : List Int} : prod (A ++ B) = prod A * prod B := by
  induction A with
  | nil => simp [prod]
  | cons a A ih => simp only [List.cons_append, prod, ih, Int.mul_assoc]
/-- things that stand a stride apart -/
def lineV (l : List Int) (first stride n : Nat) : List Int := (List.range n).map fun i => l.getD (first + i * stride) 0
theorem lineV_length {l : List Int} {a b n : Nat} : (lineV l a b n).length = n := by simp [lineV]
/-- a list that grows by one, round by round -/
theorem app_loop {α β : Type} {N fu : Nat} (f : Nat → α) {B : (List α × Int → Option β) → List α × Int → Option β} {c : List α → Option β} (l0 : List α) (hf : N < fu)
    (hB : ∀ next k, k < N → B next (l0 ++ (List.range k).map f, (k : Int)) = next (l0 ++ (List.range k).map f ++ [f k], ((k + 1 : Nat) : Int)))
    (hE : ∀ next, B next (l0 ++ (List.range N).map f, (N : Int)) = c (l0 ++ (List.range N).map f)) : cloop B fu (l0, 0) = c (l0 ++ (List.range N).map f) := by
  have := cloop_up (body := B) (n := fu) N (fun k => l0 ++ (List.range k).map f) (c (l0 ++ (List.range N).map f)) ?_ hE hf
  · simpa using this
  · intro k hk next hn
    rw [hB next k hk]
    simp only [List.range_succ, List.map_append, List.map_cons, List.map_nil, ← List.append_assoc] at hn
    exact hn
/-- a list that grows by some, round by round -/
theorem flat_loop {α β : Type} {N fu : Nat} (f : Nat → List α) {B : (List α × Int → Option β) → List α × Int → Option β} {c : List α → Option β} (l0 : List α) (hf : N < fu)
    (hB : ∀ next k, k < N → B next (l0 ++ (List.range k).flatMap f, (k : Int)) = next (l0 ++ (List.range k).flatMap f ++ f k, ((k + 1 : Nat) : Int)))
    (hE : ∀ next, B next (l0 ++ (List.range N).flatMap f, (N : Int)) = c (l0 ++ (List.range N).flatMap f)) : cloop B fu (l0, 0) = c (l0 ++ (List.range N).flatMap f) := by
  have := cloop_up (body := B) (n := fu) N (fun k => l0 ++ (List.range k).flatMap f) (c (l0 ++ (List.range N).flatMap f)) ?_ hE hf
  · simpa using this
  · intro k hk next hn
    rw [hB next k hk]
    simp only [List.range_succ, List.flatMap_append, List.flatMap_cons, List.flatMap_nil, List.append_nil, ← List.append_assoc] at hn
    exact hn
theorem at_getD {l : List Int} {i : Nat} (h : i < l.length) : at? l (i : Int) = some (l.getD i 0) := by
  rw [at?_get h, List.getD_eq_getElem?_getD, List.getElem?_eq_getElem h]; rfl
theorem list_spec {fu : Nat} {l : List Int} {a b n : Nat} (hn : n ≤ 4096) (ha : a ≤ 1000000000) (hb : b ≤ 4096) (h : ∀ i, i < n → a + i * b < l.length) (hf : 5000 < fu) : mat_line_uint32_list fu ⟨l, a, b, n⟩ = some (lineV l a b n) := by
  unfold mat_line_uint32_list mat_line_uint32_list_W1
  refine (app_loop (N := n) (fun i => l.getD (a + i * b) 0) (c := fun m => some m) [] (by omega) ?_ ?_).trans (by simp [lineV])
  · intro next k hk
    have hkb : k * b ≤ 4096 * 4096 := Nat.mul_le_mul (by omega) hb
    show mat_line_uint32_list_L1 fu ⟨l, a, b, n⟩ _ _ _ = _
    unfold mat_line_uint32_list_L1
    have e1 : wk .i64 ((k : Int) * (b : Int)) = ((k * b : Nat) : Int) := by rw [← Int.natCast_mul]; exact wk_eq (by omega) (by omega)
    have e2 : wk .i64 ((a : Int) + ((k * b : Nat) : Int)) = ((a + k * b : Nat) : Int) := by rw [← Int.natCast_add]; exact wk_eq (by omega) (by omega)
    simp only
    rw [if_pos (by omega), e1, e2, at_getD (h k hk), ob_some, chk_pos (by simp; omega), wk_succ (by omega)]
  · intro next
    show mat_line_uint32_list_L1 fu ⟨l, a, b, n⟩ _ _ _ = _
    unfold mat_line_uint32_list_L1
    simp only
    rw [if_neg (by omega)]
theorem across_spec {fu : Nat} {l : List Int} {a w n p r : Nat} (hn : n ≤ 4096) (ha : a ≤ 900000000) (hw : w ≤ 4096) (hr : r ≤ 4096) (h : ∀ i, i < n → a + r * w + i * 1 < l.length) (hf : 5000 < fu) :
    mat_grid_across fu ⟨l, a, w, 1, p, n⟩ r = some (lineV l (a + r * w) 1 n) := by
  unfold mat_grid_across
  have hkb : r * w ≤ 4096 * 4096 := Nat.mul_le_mul hr hw
  have e1 : wk .i64 ((r : Int) * (w : Int)) = ((r * w : Nat) : Int) := by rw [← Int.natCast_mul]; exact wk_eq (by omega) (by omega)
  have e2 : wk .i64 ((a : Int) + ((r * w : Nat) : Int)) = ((a + r * w : Nat) : Int) := by rw [← Int.natCast_add]; exact wk_eq (by omega) (by omega)
  simp only
  rw [e1, e2, show (1 : Int) = ((1 : Nat) : Int) from rfl, list_spec hn (by omega) (by omega) h hf, ob_some]
theorem down_spec {fu : Nat} {l : List Int} {a w n q c : Nat} (hn : n ≤ 4096) (ha : a ≤ 900000000) (hw : w ≤ 4096) (hc : c ≤ 4096) (h : ∀ i, i < n → a + c * 1 + i * w < l.length) (hf : 5000 < fu) :
    mat_grid_down fu ⟨l, a, w, 1, n, q⟩ c = some (lineV l (a + c * 1) w n) := by
  unfold mat_grid_down
  have e1 : wk .i64 ((c : Int) * 1) = ((c * 1 : Nat) : Int) := by rw [wk_eq (by omega) (by omega)]; omega
  have e2 : wk .i64 ((a : Int) + ((c * 1 : Nat) : Int)) = ((a + c * 1 : Nat) : Int) := by rw [← Int.natCast_add]; exact wk_eq (by omega) (by omega)
  simp only
  rw [e1, e2, list_spec hn (by omega) (by omega) h hf, ob_some]
/-- two matrices, as they stand in lists, times each other -/
def timesV (F G : List Int) (a b p q w : Nat) : List Int := (List.range p).flatMap fun r => (List.range w).map fun c => dotV 0 (lineV F (a + r * q) 1 q) (lineV G (b + c * 1) w q)
theorem timesV_length {F G : List Int} {a b p q w : Nat} : (timesV F G a b p q w).length = p * w := by
  unfold timesV
  induction p with
  | zero => simp
  | succ p ih =>
    rw [List.range_succ, List.flatMap_append, List.length_append, ih]
    simp [Nat.succ_mul]
end Go.Av
set_option linter.unusedVariables false
namespace Go.Av
theorem idx3 {i r t a p q : Nat} (hi : i < a) (hr : r < p) (ht : t < q) : i * p * q + r * q + t < a * p * q := by
  have h1 : (i * p + r + 1) * q ≤ a * p * q := by
    refine Nat.mul_le_mul_right q ?_
    have : (i + 1) * p ≤ a * p := Nat.mul_le_mul_right p hi
    rw [Nat.add_mul] at this; omega
  rw [Nat.add_mul, Nat.add_mul] at h1
  omega
theorem idx_dn {j c t b p w : Nat} (hj : j < b) (hc : c < w) (ht : t < p) : j * p * w + c * 1 + t * w < b * p * w := by
  have := idx3 hj ht hc
  omega
section
variable {fu : Nat}
/-- the innermost round: a row times all columns -/
theorem W3_spec {nx2 : List Int → Int → Option (List Int)} {cols : List (List Int)} {r : Int} {row l0 : List Int} (hf : 5000 < fu) (hc : cols.length ≤ 4096) (hr : row.length ≤ 4096) (hl : l0.length ≤ 10000000000000) :
    mat_product_W3 fu nx2 cols r row l0 0 = nx2 (l0 ++ cols.map (dotV 0 row)) (wk .i64 (r + 1)) := by
  unfold mat_product_W3
  refine (app_loop (N := cols.length) (fun i => dotV 0 row (cols.getD i [])) (c := fun m => nx2 m (wk .i64 (r + 1))) l0 (by omega) ?_ ?_).trans ?_
  · intro next k hk
    show mat_product_L3 fu nx2 cols r row _ _ _ = _
    unfold mat_product_L3
    have e : cols[k] = cols.getD k [] := by rw [List.getD_eq_getElem?_getD, List.getElem?_eq_getElem hk]; rfl
    rw [if_pos (by omega), at?_get hk, ob_some, Dot_spec (by omega) (by omega), ob_some, chk_pos (by simp; omega), wk_succ (by omega), e]
  · intro next
    show mat_product_L3 fu nx2 cols r row _ _ _ = _
    unfold mat_product_L3
    rw [if_neg (by omega)]
  · congr 2
    apply List.ext_getElem (by simp)
    intro i h1 h2
    simp at h2
    simp [List.getD_eq_getElem?_getD, h2]
variable {x1 x2 : T_Tensor} {q p w p2 : Nat} {k : Int} {i j PA PB : Nat}
theorem wk_at (hi : i ≤ 4096) (hp : p ≤ 4096) (hN : i * p * q ≤ 4096) : wk .i64 (wk .i64 ((i : Int) * (p : Int)) * (q : Int)) = ((i * p * q : Nat) : Int) := by
  have m1 : i * p ≤ 4096 * 4096 := Nat.mul_le_mul hi hp
  rw [wk_eq (x := (i : Int) * (p : Int)) (by rw [← Int.natCast_mul]; omega) (by rw [← Int.natCast_mul]; omega), ← Int.natCast_mul, ← Int.natCast_mul]
  exact wk_eq (by omega) (by omega)
theorem W2_spec {nx1 : Int → Int → List Int → Int → Option (List Int)} {cols : List (List Int)} {l0 : List Int} {e1 e2 : Int} (hf : 5000 < fu)
    (hF : x1.fF.length = PA * p * q) (hi : i < PA) (hp : p ≤ 4096) (hq : q ≤ 4096) (hPA : PA ≤ 4096) (hN : PA * p * q ≤ 4096) (hw : cols.length ≤ 4096) (hl : l0.length ≤ 1000000000000) :
    mat_product_W2 fu nx1 x1 q p w p2 k ((i : Int), e1) ((j : Int), e2) cols l0 0 = nx1 ((i * p * q : Nat) : Int) (wk .i64 (wk .i64 ((j : Int) * p2) * w)) (l0 ++ (List.range p).flatMap fun r => cols.map (dotV 0 (lineV x1.fF (i * p * q + r * q) 1 q))) (wk .i64 (k + 1)) := by
  have m2 : i * p * q ≤ PA * p * q := Nat.mul_le_mul_right q (Nat.mul_le_mul_right p (by omega))
  have w1 := wk_at (i := i) (p := p) (q := q) (by omega) hp (by omega)
  unfold mat_product_W2
  refine flat_loop (N := p) (fun r => cols.map (dotV 0 (lineV x1.fF (i * p * q + r * q) 1 q))) (c := fun m => nx1 ((i * p * q : Nat) : Int) (wk .i64 (wk .i64 ((j : Int) * p2) * w)) m (wk .i64 (k + 1))) l0 (by omega) ?_ ?_
  · intro next r hr
    show mat_product_L2 fu nx1 x1 q p w p2 k ((i : Int), e1) ((j : Int), e2) cols _ _ _ = _
    unfold mat_product_L2
    simp only
    have hlen : ((List.range r).flatMap fun r => cols.map (dotV 0 (lineV x1.fF (i * p * q + r * q) 1 q))).length ≤ 4096 * 4096 := by
      have : ∀ n, ((List.range n).flatMap fun r => cols.map (dotV 0 (lineV x1.fF (i * p * q + r * q) 1 q))).length = n * cols.length := fun n => by
        induction n with
        | zero => simp
        | succ n ih => rw [List.range_succ, List.flatMap_append, List.length_append, ih]; simp [Nat.succ_mul]
      rw [this]
      exact Nat.mul_le_mul (by omega) hw
    rw [if_pos (by omega), w1, across_spec hq (by omega) hq (by omega) (fun t ht => by rw [hF]; have := idx3 hi hr ht; omega) hf, ob_some, W3_spec hf hw (by rw [lineV_length]; omega) (by rw [List.length_append]; omega), wk_succ (by omega)]
  · intro next
    show mat_product_L2 fu nx1 x1 q p w p2 k ((i : Int), e1) ((j : Int), e2) cols _ _ _ = _
    unfold mat_product_L2
    simp only
    rw [if_neg (by omega), w1]
theorem W4_spec {nx1 : Int → Int → List Int → Int → Option (List Int)} {l0 : List Int} {e1 e2 : Int} (hf : 5000 < fu)
    (hF : x1.fF.length = PA * p * q) (hi : i < PA) (hp : p ≤ 4096) (hq : q ≤ 4096) (hPA : PA ≤ 4096) (hN : PA * p * q ≤ 4096) (hl : l0.length ≤ 1000000000000)
    (hG : x2.fF.length = PB * p2 * w) (hj : j < PB) (hp2 : p2 ≤ 4096) (hw : w ≤ 4096) (hPB : PB ≤ 4096) (hM : PB * p2 * w ≤ 4096) :
    mat_product_W4 fu nx1 x1 x2 q p w p2 l0 k ((i : Int), e1) ((j : Int), e2) [] 0 = nx1 ((i * p * q : Nat) : Int) ((j * p2 * w : Nat) : Int) (l0 ++ (List.range p).flatMap fun r => ((List.range w).map fun c => lineV x2.fF (j * p2 * w + c * 1) w p2).map (dotV 0 (lineV x1.fF (i * p * q + r * q) 1 q))) (wk .i64 (k + 1)) := by
  have m2 : j * p2 * w ≤ PB * p2 * w := Nat.mul_le_mul_right w (Nat.mul_le_mul_right p2 (by omega))
  have w1 := wk_at (i := j) (p := p2) (q := w) (by omega) hp2 (by omega)
  unfold mat_product_W4
  refine (app_loop (N := w) (fun c => lineV x2.fF (j * p2 * w + c * 1) w p2) (c := fun m => mat_product_k3 fu nx1 x1 q p w p2 l0 k ((i : Int), e1) ((j : Int), e2) m) [] (by omega) ?_ ?_).trans ?_
  · intro next c hc
    show mat_product_L4 fu nx1 x1 x2 q p w p2 l0 k ((i : Int), e1) ((j : Int), e2) _ _ _ = _
    unfold mat_product_L4
    simp only
    rw [if_pos (by omega), w1, down_spec hp2 (by omega) hw (by omega) (fun t ht => by rw [hG]; exact idx_dn hj hc ht) hf, ob_some, chk_pos (by simp; omega), wk_succ (by omega)]
  · intro next
    show mat_product_L4 fu nx1 x1 x2 q p w p2 l0 k ((i : Int), e1) ((j : Int), e2) _ _ _ = _
    unfold mat_product_L4
    rw [if_neg (by omega)]
  · unfold mat_product_k3
    rw [W2_spec hf hF hi hp hq hPA hN (by simp; omega) hl, w1, List.nil_append]
/-- the places of an element of the answer in what was brought together -/
def atV (S D : List Int) (k : Nat) : Nat := (fromV S D k).1.toNat
/-- a product of tensors' elements -/
def prodV (F G : List Int) (A : List Int) (p q : Nat) (B : List Int) (w : Nat) : List Int :=
  (List.range (prod (broadcastV A B).1).toNat).flatMap fun k => timesV F G (atV A (broadcastV A B).1 k * p * q) (atV B (broadcastV A B).1 k * q * w) p q w
theorem map_two {F G : List Int} {a b : Nat} : ((List.range p).flatMap fun r => ((List.range w).map fun c => lineV G (b + c * 1) w q).map (dotV 0 (lineV F (a + r * q) 1 q))) = timesV F G a b p q w := by
  unfold timesV
  congr 1
  funext r
  rw [List.map_map]
  rfl
theorem bv_two {A B : List Int} (h : (broadcastV A B).2 = 0) : Good A ∧ Good B ∧ Good (broadcastV A B).1 := by
  unfold broadcastV at h ⊢
  by_cases hA : Good A
  · by_cases hB : Good B
    · simp only [if_pos hA, if_pos hB] at h ⊢
      cases hb : bc A B with
      | none => rw [hb] at h; simp at h
      | some l =>
        rw [hb] at h
        simp only at h ⊢
        by_cases hl : Good l
        · simp only [if_pos hl]; exact ⟨hA, hB, hl⟩
        · rw [if_neg hl] at h; exact absurd h (errS_ne _)
    · simp only [if_pos hA, if_neg hB] at h; exact absurd h (errS_ne _)
  · simp only [if_neg hA] at h; exact absurd h (errS_ne _)
theorem L1_end {A B : List Int} {PD : Nat} {nx1 : Int → Int → List Int → Int → Option (List Int)} {a b : Int} {l : List Int} {d : List Int × Int} :
    mat_product_L1 fu x1 x2 A B q p w p2 d ((PD : Int), 0) nx1 a b l (PD : Int) = some l := by
  unfold mat_product_L1
  rw [if_neg (by simp only; omega)]
theorem L1_spec {A B : List Int} {PD kk : Nat} {nx1 : Int → Int → List Int → Int → Option (List Int)} {a b : Int} {l : List Int} (hf : 5000 < fu) (hb : (broadcastV A B).2 = 0) (hp : p ≤ 4096) (hq : q ≤ 4096) (hw : w ≤ 4096)
    (hF : x1.fF.length = PA * p * q) (hG : x2.fF.length = PB * q * w) (hF2 : x1.fF.length ≤ 4096) (hG2 : x2.fF.length ≤ 4096) (hPA : prod A = PA) (hPB : prod B = PB) (hPD : prod (broadcastV A B).1 = PD) (hk : kk < PD) (hl : l.length ≤ 1000000000000) :
    mat_product_L1 fu x1 x2 (A ++ [(p : Int), (q : Int)]) (B ++ [(q : Int), (w : Int)]) q p w q (broadcastV A B) ((PD : Int), 0) nx1 a b l (kk : Int) =
      nx1 ((atV A (broadcastV A B).1 kk * p * q : Nat) : Int) ((atV B (broadcastV A B).1 kk * q * w : Nat) : Int) (l ++ timesV x1.fF x2.fF (atV A (broadcastV A B).1 kk * p * q) (atV B (broadcastV A B).1 kk * q * w) p q w) ((kk + 1 : Nat) : Int) := by
  obtain ⟨gA, gB, gD⟩ := bv_two hb
  have lA := gA.1
  have lB := gB.1
  have lD := gD.1
  have gA3 := gA.2.2
  have gB3 := gB.2.2
  have gD3 := gD.2.2
  obtain ⟨_, ⟨i, hi1, hi2⟩, ⟨j, hj1, hj2⟩⟩ := from_in hb (k := kk) (by omega)
  have ei : atV A (broadcastV A B).1 kk = i := by unfold atV; rw [hi1]; rfl
  have ej : atV B (broadcastV A B).1 kk = j := by unfold atV; rw [hj1]; rfl
  unfold mat_product_L1
  rw [if_pos (by simp only; omega), wk_len2 (by omega), wk_len2 (by omega), subN_pre, subN_pre, From_spec (by unfold Short; omega) (by unfold Short; omega) (by omega) (by omega) (by omega), ob_some,
    From_spec (by unfold Short; omega) (by unfold Short; omega) (by omega) (by omega) (by omega), ob_some, hi1, hj1, ei, ej]
  rw [W4_spec (PA := PA) (PB := PB) hf hF (by omega) hp hq (by omega) (by omega) hl hG (by omega) hq hw (by omega) (by omega), map_two, wk_succ (by omega)]
theorem k2_spec {A B : List Int} (hf : 5000 < fu) (hb : (broadcastV A B).2 = 0) (hp : p ≤ 4096) (hq : q ≤ 4096) (hw : w ≤ 4096)
    (hF : (x1.fF.length : Int) = prod A * p * q) (hG : (x2.fF.length : Int) = prod B * q * w) (hF2 : x1.fF.length ≤ 4096) (hG2 : x2.fF.length ≤ 4096) :
    mat_product_k2 fu x1 x2 (A ++ [(p : Int), (q : Int)]) (B ++ [(q : Int), (w : Int)]) = some (prodV x1.fF x2.fF A p q B w) := by
  obtain ⟨gA, gB, gD⟩ := bv_two hb
  have lA := gA.1
  have lB := gB.1
  have lD := gD.1
  obtain ⟨PA, hPA⟩ := Int.eq_ofNat_of_zero_le (prod_nonneg gA.2.1)
  obtain ⟨PB, hPB⟩ := Int.eq_ofNat_of_zero_le (prod_nonneg gB.2.1)
  obtain ⟨PD, hPD⟩ := Int.eq_ofNat_of_zero_le (prod_nonneg gD.2.1)
  have gA3 := gA.2.2
  have gB3 := gB.2.2
  have gD3 := gD.2.2
  have hF' : x1.fF.length = PA * p * q := by rw [hPA] at hF; exact_mod_cast hF
  have hG' : x2.fF.length = PB * q * w := by rw [hPB] at hG; exact_mod_cast hG
  unfold mat_product_k2
  rw [wk_len2 (by omega), wk_len2 (by omega), at_q (by omega), ob_some, at_p, ob_some, at_q (by omega), ob_some, at_p, ob_some, chk_pos (by rw [len2]; omega), chk_pos (by rw [len2]; omega), subN_pre, subN_pre,
    Broadcast_spec (by unfold Short; omega) (by unfold Short; omega) (by omega) (by omega) (by omega), ob_some, Size_spec (by unfold Short; omega) (by omega), ob_some]
  unfold mat_product_W1
  rw [show sizeV (broadcastV A B).1 = ((PD : Int), 0) by unfold sizeV; rw [if_pos gD, hPD]]
  unfold prodV
  rw [hPD, Int.toNat_natCast]
  generalize hg : (fun k => timesV x1.fF x2.fF (atV A (broadcastV A B).1 k * p * q) (atV B (broadcastV A B).1 k * q * w) p q w) = g
  have glen : ∀ k, (g k).length = p * w := fun k => by rw [← hg]; exact timesV_length
  have hpw : p * w ≤ 4096 * 4096 := Nat.mul_le_mul hp hw
  suffices h : ∀ (m n : Nat) (a b : Int) (l : List Int) (k : Nat), PD - k = m → k ≤ PD → m < n → l.length ≤ k * 16777216 →
      cloop (fun next s => mat_product_L1 fu x1 x2 (A ++ [(p : Int), (q : Int)]) (B ++ [(q : Int), (w : Int)]) q p w q (broadcastV A B) ((PD : Int), 0) (fun x48 x49 x50 x51 => next (x48, x49, x50, x51)) s.1 s.2.1 s.2.2.1 s.2.2.2) n (a, b, l, (k : Int)) = some (l ++ ((List.range PD).drop k).flatMap g) by
    have := h PD fu 0 0 [] 0 (by omega) (by omega) (by omega) (by simp)
    simpa using this
  intro m
  induction m with
  | zero =>
    intro n a b l k h1 h2 h3 h4
    cases n with
    | zero => omega
    | succ n =>
      have hk : k = PD := by omega
      subst hk
      rw [cloop_succ]
      show mat_product_L1 fu x1 x2 (A ++ [(p : Int), (q : Int)]) (B ++ [(q : Int), (w : Int)]) q p w q (broadcastV A B) ((k : Int), 0) _ a b l (k : Int) = _
      rw [L1_end, List.drop_of_length_le (by simp)]
      simp
  | succ m ih =>
    intro n a b l k h1 h2 h3 h4
    cases n with
    | zero => omega
    | succ n =>
      have hk4 : k * 16777216 ≤ 4096 * 16777216 := Nat.mul_le_mul_right _ (by omega)
      rw [cloop_succ]
      show mat_product_L1 fu x1 x2 (A ++ [(p : Int), (q : Int)]) (B ++ [(q : Int), (w : Int)]) q p w q (broadcastV A B) ((PD : Int), 0) _ a b l (k : Int) = _
      rw [L1_spec hf hb hp hq hw hF' hG' hF2 hG2 hPA hPB hPD (by omega) (by omega)]
      have eg : timesV x1.fF x2.fF (atV A (broadcastV A B).1 k * p * q) (atV B (broadcastV A B).1 k * q * w) p q w = g k := by rw [← hg]
      rw [eg, ih n _ _ _ (k + 1) (by omega) (by omega) (by omega) (by rw [List.length_append, glen]; omega)]
      have hdr : (List.range PD).drop k = k :: (List.range PD).drop (k + 1) := by
        rw [List.drop_eq_getElem_cons (by simp; omega)]; simp
      rw [hdr, List.flatMap_cons, List.append_assoc]
end
end Go.Av
set_option linter.unusedVariables false
namespace Go.Av
def noS : T_Setting := T_Setting.mk 0 [] false false false false false [] false 0 0 0 false false false 0 0 false false 0 [] [] [] [] 0 false false 0 0 0 false (T_Tensor.mk 0 [] [] [] [])
section
variable {fu : Nat} {s : T_Setting} {x y : T_Tensor}
def big (t : T_Tensor) : Nat := t.fDims.length + t.fF.length + t.fI.length + t.fB.length
theorem Do_step {t : T_Tensor} {nx : List T_Tensor → Int → Option (T_Tensor × Int)} {l : List T_Tensor} {i : Int} (hi : at? [x, y] i = some t) (h2 : i < 2) (ht : Ten t) (hl : l.length ≤ 100) (hf : big t < fu) :
    mat_Do_L1 fu s [x, y] nx l i = if t.fType = 0 ∨ checkV t = 0 then nx (l ++ [canonT t]) (wk .i64 (i + 1)) else some (noT, checkV t) := by
  unfold big at hf
  have hF : Fuel fu t := ⟨by omega, by omega, by omega, by omega⟩
  unfold mat_Do_L1
  rw [if_pos (show i < (([x, y] : List T_Tensor).length : Int) from h2), hi, ob_some]
  by_cases h : t.fType = 0
  · rw [if_pos h, Canon_spec ht hF.2.1, ob_some, chk_pos (by omega), if_pos (.inl h)]
  · rw [if_neg h, Check_spec ht.small hF, ob_some]
    by_cases hc : checkV t = 0
    · rw [if_pos hc, Canon_spec ht hF.2.1, ob_some, chk_pos (by omega), if_pos (.inr hc)]
    · rw [if_neg hc, if_neg (fun h2 => h2.elim h hc)]; rfl
theorem Do_spec (hx : Ten x) (hy : Ten y) (hf : big x + big y < fu) : mat_Do (fu + 3) 73 s [x, y] =
    if x.fType = 0 ∨ checkV x = 0 then (if y.fType = 0 ∨ checkV y = 0 then mat_Do_k1 (fu + 3) s [x, y] [canonT x, canonT y] else some (noT, checkV y)) else some (noT, checkV x) := by
  have h : mat_Do (fu + 3) 73 s [x, y] = mat_Do_W1 (fu + 3) s [x, y] [] 0 := rfl
  rw [h]
  unfold mat_Do_W1
  rw [cloop_succ]
  show mat_Do_L1 (fu + 3) s [x, y] _ [] 0 = _
  rw [Do_step (t := x) rfl (by decide) hx (by simp) (by omega)]
  by_cases h1 : x.fType = 0 ∨ checkV x = 0
  · rw [if_pos h1, if_pos h1]
    show cloop _ (fu + 2) _ = _
    rw [cloop_succ]
    show mat_Do_L1 (fu + 3) s [x, y] _ [canonT x] 1 = _
    rw [Do_step (t := y) rfl (by decide) hy (by simp) (by omega)]
    by_cases h2 : y.fType = 0 ∨ checkV y = 0
    · rw [if_pos h2, if_pos h2]
      show cloop _ (fu + 1) _ = _
      rw [cloop_succ]
      rfl
    · rw [if_neg h2, if_neg h2]
  · rw [if_neg h1, if_neg h1]
theorem left_nat {l : List Int} {ra : Bool} {A : List Int} {p q : Int} (h : LeftM l ra A p q) (hg : Good l) : (0 ≤ p ∧ p ≤ 4096) ∧ (0 ≤ q ∧ q ≤ 4096) ∧ prod l = prod A * p * q := by
  cases h with
  | row q => exact ⟨by omega, hg.2.1 _ (by simp), by simp [prod]⟩
  | mat A p q => exact ⟨hg.2.1 _ (by simp), hg.2.1 _ (by simp), by rw [prod_app]; simp [prod, Int.mul_assoc]⟩
theorem right_nat {l : List Int} {ra : Bool} {A : List Int} {p q : Int} (h : RightM l ra A p q) (hg : Good l) : (0 ≤ p ∧ p ≤ 4096) ∧ (0 ≤ q ∧ q ≤ 4096) ∧ prod l = prod A * p * q := by
  cases h with
  | col q => exact ⟨hg.2.1 _ (by simp), by omega, by simp [prod]⟩
  | mat A p q => exact ⟨hg.2.1 _ (by simp), hg.2.1 _ (by simp), by rw [prod_app]; simp [prod, Int.mul_assoc]⟩
/-- what it takes that a product may be, and its dims -/
structure OkM (x y : T_Tensor) (ra : Bool) (A : List Int) (p q : Nat) (cb : Bool) (B : List Int) (w : Nat) (d : List Int) : Prop where
  tx : x.fType = 1
  ty : y.fType = 1
  cx : checkV x = 0
  cy : checkV y = 0
  l : LeftM x.fDims ra A p q
  r : RightM y.fDims cb B q w
  b : (broadcastV A B).2 = 0
  dd : d = (broadcastV A B).1 ++ (if ra then [] else [(p : Int)]) ++ (if cb then [] else [(w : Int)])
  g : Good d
def ansV (x y : T_Tensor) (A : List Int) (p q : Nat) (B : List Int) (w : Nat) (d : List Int) : T_Tensor :=
  ⟨1, d, if prod d = 0 then [] else prodV (x.fF.map canonF) (y.fF.map canonF) A p q B w, [], []⟩
theorem lens_F {x : T_Tensor} (ht : x.fType = 1) (hc : checkV x = 0) : Good x.fDims ∧ (x.fF.length : Int) = prod x.fDims ∧ x.fF.length ≤ 4096 ∧ x.fI = [] ∧ x.fB = [] := by
  obtain ⟨_, hg, h1, h2, h3⟩ := checkV_zero.1 hc
  rw [ht] at h1 h2 h3
  simp at h1 h2 h3
  have := hg.2.2
  exact ⟨hg, h1, by omega, h2, h3⟩
variable {ra cb : Bool} {A B d : List Int} {p q w : Nat}
theorem product_spec (h : OkM x y ra A p q cb B w d) (hf : 5000 < fu) : mat_product fu (canonT x) (canonT y) = some (prodV (x.fF.map canonF) (y.fF.map canonF) A p q B w) := by
  obtain ⟨gx, lx, mx, _, _⟩ := lens_F h.tx h.cx
  obtain ⟨gy, ly, my, _, _⟩ := lens_F h.ty h.cy
  obtain ⟨p1, q1, e1⟩ := left_nat h.l gx
  obtain ⟨p2, q2, e2⟩ := right_nat h.r gy
  have key := k2_spec (fu := fu) (x1 := canonT x) (x2 := canonT y) (A := A) (B := B) (p := p) (q := q) (w := w) hf h.b (by omega) (by omega) (by omega)
    (by show (((x.fF.map canonF).length : Nat) : Int) = _; rw [List.length_map, lx, e1]) (by show (((y.fF.map canonF).length : Nat) : Int) = _; rw [List.length_map, ly, e2]) (by show (x.fF.map canonF).length ≤ _; simp; omega) (by show (y.fF.map canonF).length ≤ _; simp; omega)
  have hl := h.l
  have hr := h.r
  have ex : (canonT x).fDims = x.fDims := rfl
  have ey : (canonT y).fDims = y.fDims := rfl
  unfold mat_product mat_product_k1
  rw [ex, ey]
  generalize x.fDims = da at hl ⊢
  generalize y.fDims = db at hr ⊢
  have k2 : ∀ (l1 : List Int), l1 = A ++ [(p : Int), (q : Int)] → (if (db.length : Int) = 1 then ((at? db 0).bind fun z => mat_product_k2 fu (canonT x) (canonT y) l1 ([z, 1])) else mat_product_k2 fu (canonT x) (canonT y) l1 db) = some (prodV (x.fF.map canonF) (y.fF.map canonF) A p q B w) := by
    rintro l1 rfl
    generalize (q : Int) = qi at *
    generalize hwi : (w : Int) = wi at *
    cases hr with
    | col p => rw [if_pos (by simp)]; show (some _).bind _ = _; rw [ob_some]; exact key
    | mat B p2 q2 => rw [if_neg (by simp; omega)]; exact key
  generalize hq : (q : Int) = qi at *
  generalize hp : (p : Int) = pi at *
  cases hl with
  | row q =>
    rw [if_pos (by simp)]
    show (some _).bind _ = _
    rw [ob_some]
    exact k2 _ rfl
  | mat A p q =>
    rw [if_neg (by simp; omega)]
    exact k2 _ rfl
theorem val_type {t : T_Tensor} (h : t.fType = 1) : (valOf t).fType = 1 ∧ (valOf t).fDims = t.fDims := by unfold valOf; rw [if_neg (by omega)]; exact ⟨h, rfl⟩
theorem Do_ok (hx : Ten x) (hy : Ten y) (hf : 6000 + big x + big y < fu) (h : OkM x y ra A p q cb B w d) : mat_Do (fu + 3) 73 s [x, y] = some (ansV x y A p q B w d, 0) := by
  obtain ⟨gx, lx, mx, _, _⟩ := lens_F h.tx h.cx
  obtain ⟨gy, ly, my, _, _⟩ := lens_F h.ty h.cy
  rw [Do_spec hx hy (by omega), if_pos (.inr h.cx), if_pos (.inr h.cy)]
  unfold mat_Do_k1
  obtain ⟨v1, v2⟩ := val_type h.tx
  obtain ⟨u1, u2⟩ := val_type h.ty
  rw [Vals_spec hx hy, ob_some, Node_spec (A := A) (B := B) (p := p) (q := q) (p2 := q) (q2 := w) (ra := ra) (cb := cb) v1 u1 (by rw [v2]; exact gx) (by rw [u2]; exact gy) (by omega) (by rw [v2]; exact h.l) (by rw [u2]; exact h.r), ob_some]
  have hb := h.b
  have hd := h.dd
  have hg := h.g
  have ho : outD A (p : Int) (q : Int) ra B (q : Int) (w : Int) cb = ([d], 0) := by
    unfold outD
    rw [if_pos rfl, if_pos hb, ← hd]
  have hn : nodeV 1 (outD A (p : Int) (q : Int) ra B (q : Int) (w : Int) cb) = ([⟨1, d, false, ⟨0, [], [], [], []⟩⟩], 0) := by
    rw [ho]; unfold nodeV; simp only [if_pos hg]
  rw [hn, if_pos rfl]
  show (some _).bind _ = _
  have := hg.1
  rw [ob_some, Size_spec (by unfold Short; simp only; omega) (by simp only; omega), ob_some]
  simp only [sizeV, if_pos hg]
  unfold ansV
  by_cases h0 : prod d = 0
  · rw [if_pos h0, if_pos h0]
  · rw [if_neg h0, if_neg h0]
    show (some _).bind _ = _
    rw [ob_some]
    show (some _).bind _ = _
    rw [ob_some, product_spec h (by omega), ob_some]
theorem Do_total (hx : Ten x) (hy : Ten y) (hf : 6000 + big x + big y < fu) : (∃ t e, e ≠ 0 ∧ mat_Do (fu + 3) 73 s [x, y] = some (t, e)) ∨ ∃ ra A p q cb B w d, OkM x y ra A p q cb B w d := by
  rw [Do_spec hx hy (by omega)]
  by_cases cx : x.fType = 0 ∨ checkV x = 0
  · rw [if_pos cx]
    by_cases cy : y.fType = 0 ∨ checkV y = 0
    · rw [if_pos cy]
      unfold mat_Do_k1
      rw [Vals_spec hx hy, ob_some]
      have vt : ∀ t : T_Tensor, (valOf t).fType = t.fType := fun t => by
        unfold valOf; split
        · rename_i h; exact h.symm
        · rfl
      by_cases t0 : x.fType = 0 ∨ y.fType = 0
      · rw [Node_none (by rw [vt, vt]; exact t0), ob_some, if_neg (by decide)]
        exact .inl ⟨_, 1, by decide, rfl⟩
      · have tx : x.fType ≠ 0 := fun h => t0 (.inl h)
        have ty : y.fType ≠ 0 := fun h => t0 (.inr h)
        have cx := cx.resolve_left tx
        have cy := cy.resolve_left ty
        have gx := (checkV_zero.1 cx).2.1
        have gy := (checkV_zero.1 cy).2.1
        have dx : (valOf x).fDims = x.fDims := by unfold valOf; rw [if_neg tx]
        have dy : (valOf y).fDims = y.fDims := by unfold valOf; rw [if_neg ty]
        by_cases t1 : x.fType = 1 ∧ y.fType = 1
        · obtain ⟨tx, ty⟩ := t1
          by_cases hs : x.fDims.length = 0 ∨ y.fDims.length = 0
          · rw [Node_short (by rw [vt]; exact tx) (by rw [vt]; exact ty) (by rw [dx]; exact gx) (by rw [dy]; exact gy) (by omega) (by rw [dx, dy]; exact hs), ob_some, if_neg (by decide)]
            exact .inl ⟨_, 3, by decide, rfl⟩
          · obtain ⟨ra, A, p, q, hl⟩ := left_ex (l := x.fDims) (fun h => hs (.inl h))
            obtain ⟨cb, B, p2, w, hr⟩ := right_ex (l := y.fDims) (fun h => hs (.inr h))
            rw [Node_spec (A := A) (B := B) (p := p) (q := q) (p2 := p2) (q2 := w) (ra := ra) (cb := cb) (by rw [vt]; exact tx) (by rw [vt]; exact ty) (by rw [dx]; exact gx) (by rw [dy]; exact gy) (by omega) (by rw [dx]; exact hl) (by rw [dy]; exact hr), ob_some]
            obtain ⟨p1, q1, _⟩ := left_nat hl gx
            obtain ⟨p2', w1, _⟩ := right_nat hr gy
            unfold outD
            by_cases hq : q = p2
            · subst hq
              rw [if_pos rfl]
              by_cases hb : (broadcastV A B).2 = 0
              · rw [if_pos hb]
                unfold nodeV
                by_cases hg : Good ((broadcastV A B).1 ++ (if ra then [] else [p]) ++ (if cb then [] else [w]))
                · refine .inr ⟨ra, A, p.toNat, q.toNat, cb, B, w.toNat, _, ⟨tx, ty, cx, cy, ?_, ?_, hb, rfl, ?_⟩⟩
                  · rw [Int.toNat_of_nonneg p1.1, Int.toNat_of_nonneg q1.1]; exact hl
                  · rw [Int.toNat_of_nonneg w1.1, Int.toNat_of_nonneg q1.1]; exact hr
                  · rw [Int.toNat_of_nonneg w1.1, Int.toNat_of_nonneg p1.1]; exact hg
                · simp only [if_neg hg]
                  rw [if_neg (by decide)]
                  exact .inl ⟨_, 4, by decide, rfl⟩
              · rw [if_neg hb]
                have : nodeV 1 ([], (broadcastV A B).2) = ([], (broadcastV A B).2) := rfl
                rw [this, if_neg hb]
                exact .inl ⟨_, _, hb, rfl⟩
            · rw [if_neg hq]
              have : nodeV 1 ([], 3) = ([], 3) := rfl
              rw [this, if_neg (by decide)]
              exact .inl ⟨_, 3, by decide, rfl⟩
        · rw [Node_type (by rw [vt]; exact tx) (by rw [vt]; exact ty) (by rw [dx]; exact gx) (by rw [dy]; exact gy) (by omega) (by rw [vt, vt]; exact t1), ob_some, if_neg (by decide)]
          exact .inl ⟨_, 5, by decide, rfl⟩
    · rw [if_neg cy]
      exact .inl ⟨_, _, fun h => cy (.inr h), rfl⟩
  · rw [if_neg cx]
    exact .inl ⟨_, _, fun h => cx (.inr h), rfl⟩
end
end Go.Av
set_option linter.unusedVariables false
namespace Go.Av
theorem bv_nil : broadcastV [] [] = ([], 0) := rfl
theorem atV_nil : atV [] [] 0 = 0 := rfl
theorem prodV_nil {F G : List Int} {p q w : Nat} : prodV F G [] p q [] w = timesV F G 0 0 p q w := by
  unfold prodV
  rw [bv_nil]
  show (List.range 1).flatMap _ = _
  rw [show List.range 1 = [0] from rfl, List.flatMap_cons, List.flatMap_nil, List.append_nil, atV_nil, show (0 * p * q) = 0 by simp, show (0 * q * w) = 0 by simp]
theorem flat_len {α : Type} {f : Nat → List α} {w : Nat} (hf : ∀ i, (f i).length = w) : ∀ p, ((List.range p).flatMap f).length = p * w
  | 0 => by simp
  | p + 1 => by rw [List.range_succ, List.flatMap_append, List.length_append, flat_len hf p]; simp [hf, Nat.add_mul]
theorem flat_blk {α : Type} {f : Nat → List α} {w : Nat} (hf : ∀ i, (f i).length = w) : ∀ {p r : Nat}, r < p → (((List.range p).flatMap f).drop (r * w)).take w = f r
  | 0, r, h => by omega
  | p + 1, r, h => by
    have hl := flat_len hf p
    rw [List.range_succ, List.flatMap_append]
    by_cases hr : r < p
    · have h1 : (r + 1) * w ≤ p * w := Nat.mul_le_mul_right _ (by omega)
      rw [Nat.add_mul] at h1
      rw [List.drop_append_of_le_length (by omega), List.take_append_of_le_length (by rw [List.length_drop]; omega)]
      exact flat_blk hf hr
    · have hr : r = p := by omega
      subst hr
      rw [← hl, List.drop_left]
      simp [List.take_of_length_le (Nat.le_of_eq (hf r))]
theorem line_sub {F : List Int} {a q b : Nat} (hb : b ≤ q) : lineV (subN F a (a + q)) 0 1 b = lineV F a 1 b := by
  unfold lineV subN
  refine List.map_congr_left fun i hi => ?_
  have hi : i < b := List.mem_range.1 hi
  rw [show a + q - a = q by omega, List.getD_eq_getElem?_getD, List.getD_eq_getElem?_getD, List.getElem?_take, if_pos (by omega), List.getElem?_drop, show a + (0 + i * 1) = a + i * 1 by omega]
theorem times_row {F G : List Int} {p q w r : Nat} (hr : r < p) : subN (timesV F G 0 0 p q w) (r * w) (r * w + w) = timesV (subN F (r * q) (r * q + q)) G 0 0 1 q w := by
  unfold timesV
  unfold subN
  rw [show r * w + w - r * w = w by omega, flat_blk (w := w) (fun i => by simp) hr, show List.range 1 = [0] from rfl, List.flatMap_cons, List.flatMap_nil, List.append_nil]
  have := line_sub (F := F) (a := r * q) (q := q) (b := q) (Nat.le_refl _)
  unfold subN at this
  rw [show (0 + 0 * q) = 0 by simp, this, show 0 + r * q = r * q by omega]
theorem map_sub {F : List Int} {a b : Nat} {f : Int → Int} : (subN F a b).map f = subN (F.map f) a b := by unfold subN; rw [List.map_take, List.map_drop]
theorem band_low {x : Int} : ∃ n : Nat, band .i64 x 65535 = (n : Int) ∧ n ≤ 65535 := by
  refine ⟨(BitVec.ofInt 64 x &&& BitVec.ofInt 64 65535).toNat, ?_, ?_⟩
  · unfold band
    have h : (BitVec.ofInt 64 x &&& BitVec.ofInt 64 65535).toNat ≤ 65535 := by rw [BitVec.toNat_and]; exact Nat.and_le_right
    exact wk_eq (x := (((BitVec.ofInt 64 x &&& BitVec.ofInt 64 65535).toNat : Nat) : Int)) (by omega) (by omega)
  · rw [BitVec.toNat_and]; exact Nat.and_le_right
theorem left_two {a b : Int} {ra : Bool} {A : List Int} {p q : Int} (h : LeftM [a, b] ra A p q) : ra = false ∧ A = [] ∧ p = a ∧ q = b := by
  generalize hl : ([a, b] : List Int) = l at h
  cases h with
  | row q => simp at hl
  | mat A p q =>
    have : A = [] := List.length_eq_zero_iff.1 (by have := congrArg List.length hl; rw [List.length_append] at this; simp only [List.length_cons, List.length_nil] at this; omega)
    subst this; simp at hl; exact ⟨rfl, rfl, hl.1.symm, hl.2.symm⟩
theorem right_two {a b : Int} {cb : Bool} {B : List Int} {p q : Int} (h : RightM [a, b] cb B p q) : cb = false ∧ B = [] ∧ p = a ∧ q = b := by
  generalize hl : ([a, b] : List Int) = l at h
  cases h with
  | col q => simp at hl
  | mat _ p q =>
    have : B = [] := List.length_eq_zero_iff.1 (by have := congrArg List.length hl; rw [List.length_append] at this; simp only [List.length_cons, List.length_nil] at this; omega)
    subst this; simp at hl; exact ⟨rfl, rfl, hl.1.symm, hl.2.symm⟩
theorem subN_len {α : Type} {l : List α} {a b : Nat} (h : b ≤ l.length) (h2 : a ≤ b) : (subN l a b).length = b - a := by unfold subN; rw [List.length_take, List.length_drop]; omega
theorem good_one {x y : Int} (h : Good [x, y]) : Good [y] := by
  refine ⟨by simp, fun z hz => h.2.1 z (by simp at hz; simp [hz]), ?_⟩
  have := h.2.1 y (by simp)
  simp [prod]; omega
theorem two_of {l : List Int} (h : (l.length : Int) = 2) : ∃ a b, l = [a, b] := by
  match l, h with
  | [a, b], _ => exact ⟨a, b, rfl⟩
theorem flat_congr {α β : Type} {l : List α} {f g : α → List β} (h : ∀ x ∈ l, f x = g x) : l.flatMap f = l.flatMap g := by
  rw [List.flatMap_def, List.flatMap_def, List.map_congr_left h]
theorem line_at {F : List Int} {a b n m s : Nat} (h : ∀ i, i < n → b + i * s < m) : lineV (subN F a (a + m)) b s n = lineV F (a + b) s n := by
  unfold lineV subN
  refine List.map_congr_left fun i hi => ?_
  have hi : i < n := List.mem_range.1 hi
  have := h i hi
  rw [show a + m - a = m by omega, List.getD_eq_getElem?_getD, List.getD_eq_getElem?_getD, List.getElem?_take, if_pos (by omega), List.getElem?_drop, show a + (b + i * s) = a + b + i * s by omega]
theorem two_lt {a b n m : Nat} (ha : a < n) (hb : b < m) : a * m + b < n * m := by
  have : (a + 1) * m ≤ n * m := Nat.mul_le_mul_right _ ha
  rw [Nat.add_mul] at this; omega
theorem times_at {F G : List Int} {a b p q w : Nat} : timesV (subN F a (a + p * q)) (subN G b (b + q * w)) 0 0 p q w = timesV F G a b p q w := by
  unfold timesV
  refine flat_congr fun r hr => List.map_congr_left fun c hc => ?_
  have hr : r < p := List.mem_range.1 hr
  have hc : c < w := List.mem_range.1 hc
  rw [line_at (fun i hi => by have := two_lt hr hi; omega), line_at (fun i hi => by have := two_lt hi hc; omega), show a + (0 + r * q) = a + r * q by omega, show b + (0 + c * 1) = b + c * 1 by omega]
theorem bv_one {x y : Int} (h : (broadcastV [x] [y]).2 = 0) : ∃ D, broadcastV [x] [y] = ([D], 0) ∧ ((x = 1 ∧ D = y) ∨ (D = x ∧ (y = 1 ∨ y = x))) := by
  unfold broadcastV at h ⊢
  by_cases h1 : Good [x]
  · simp only [if_pos h1] at h ⊢
    by_cases h2 : Good [y]
    · simp only [if_pos h2] at h ⊢
      have hb : bc [x] [y] = if x = 1 then some [y] else if y = 1 ∨ y = x then some [x] else none := by
        show (zipB [x] [y]).map (([] : List Int) ++ ·) = _
        simp only [zipB]
        split
        · rfl
        · split <;> rfl
      rw [hb]
      by_cases h3 : x = 1
      · simp only [if_pos h3, if_pos h2]
        exact ⟨y, rfl, .inl ⟨h3, rfl⟩⟩
      · by_cases h4 : y = 1 ∨ y = x
        · simp only [if_neg h3, if_pos h4, if_pos h1]
          exact ⟨x, rfl, .inr ⟨rfl, h4⟩⟩
        · rw [hb] at h
          simp only [if_neg h3, if_neg h4] at h
          omega
    · simp only [if_neg h2] at h; exact absurd h (errS_ne _)
  · simp only [if_neg h1] at h; exact absurd h (errS_ne _)
theorem from_one {x D : Int} {k i : Nat} (h : fromV [x] [D] (k : Int) = ((i : Int), 0)) : i = if x = 1 then 0 else k := by
  unfold fromV at h
  by_cases h1 : Good [x]
  · by_cases h2 : Good [D]
    · by_cases h3 : broadcastV [x] [D] = ([D], 0)
      · by_cases h4 : 0 ≤ (k : Int) ∧ (k : Int) < prod [D]
        · rw [if_pos h1, if_pos h2, if_pos h3, if_pos h4] at h
          have := congrArg Prod.fst h
          have e : fromS [x] ((idxV [D] (k : Int)).drop ([D].length - [x].length)) = if x = 1 then 0 else (k : Int) := by
            show (if x = 1 then 0 else ((k : Int) / prod []) * prod []) + 0 = _
            split
            · rfl
            · simp [prod]
          simp only [e] at this
          split at this <;> rename_i hx
          · rw [if_pos hx]; omega
          · rw [if_neg hx]; omega
        · rw [if_pos h1, if_pos h2, if_pos h3, if_neg h4] at h; simp at h
      · rw [if_pos h1, if_pos h2, if_neg h3] at h; simp at h
    · rw [if_pos h1, if_neg h2] at h; exact absurd (congrArg Prod.snd h) (errS_ne _)
  · rw [if_neg h1] at h; exact absurd (congrArg Prod.snd h) (errS_ne _)
theorem left_three {a b c : Int} {ra : Bool} {A : List Int} {p q : Int} (h : LeftM [a, b, c] ra A p q) : ra = false ∧ A = [a] ∧ p = b ∧ q = c := by
  generalize hl : ([a, b, c] : List Int) = l at h
  cases h with
  | row q => simp at hl
  | mat A p q =>
    have : A.length = 1 := by have := congrArg List.length hl; rw [List.length_append] at this; simp only [List.length_cons, List.length_nil] at this; omega
    match A, this with
    | [z], _ => simp at hl; exact ⟨rfl, by rw [hl.1], hl.2.1.symm, hl.2.2.symm⟩
theorem right_three {a b c : Int} {cb : Bool} {B : List Int} {p q : Int} (h : RightM [a, b, c] cb B p q) : cb = false ∧ B = [a] ∧ p = b ∧ q = c := by
  generalize hl : ([a, b, c] : List Int) = l at h
  cases h with
  | col q => simp at hl
  | mat _ p q =>
    have : B.length = 1 := by have := congrArg List.length hl; rw [List.length_append] at this; simp only [List.length_cons, List.length_nil] at this; omega
    match B, this with
    | [z], _ => simp at hl; exact ⟨rfl, by rw [hl.1], hl.2.1.symm, hl.2.2.symm⟩
theorem three_of {l : List Int} (h : (l.length : Int) = 3) : ∃ a b c, l = [a, b, c] := by
  match l, h with
  | [a, b, c], _ => exact ⟨a, b, c, rfl⟩
theorem good_tail {x y z : Int} (h : Good [x, y, z]) (h1 : 1 ≤ x) : Good [y, z] := by
  have hy := h.2.1 y (by simp)
  have hz := h.2.1 z (by simp)
  refine ⟨by simp, fun t ht => h.2.1 t (by simp at ht; simp [ht]), ?_⟩
  have h3 := h.2.2
  simp only [prod, Int.mul_one] at h3 ⊢
  have : 0 ≤ y * z := Int.mul_nonneg hy.1 hz.1
  have : 1 * (y * z) ≤ x * (y * z) := Int.mul_le_mul_of_nonneg_right h1 this
  omega
theorem div_nat {a b : Nat} (h : 0 < a) : Int.tdiv ((a * b : Nat) : Int) (a : Int) = (b : Int) := by
  rw [← Int.ofNat_tdiv, Nat.mul_div_cancel_left _ h]
theorem blk_le {k n b : Nat} (h : k < n) : k * b + b ≤ n * b := by rw [← Nat.succ_mul]; exact Nat.mul_le_mul_right _ h
theorem wk_nat_mul {a b : Nat} (h : a * b ≤ 1000000000000) : wk .i64 ((a : Int) * (b : Int)) = ((a * b : Nat) : Int) := by
  rw [wk_eq (by rw [← Int.natCast_mul]; omega) (by rw [← Int.natCast_mul]; omega)]; exact (Int.natCast_mul _ _).symm
theorem wk_nat_add {a b : Nat} (h : a + b ≤ 1000000000000) : wk .i64 ((a : Int) + (b : Int)) = ((a + b : Nat) : Int) := by
  rw [wk_eq (by omega) (by omega)]; omega
end Go.Av
set_option linter.unusedVariables false
namespace Go.Av
theorem shl_nat {a k : Nat} (hk : k ≤ 64) (h : a * 2 ^ k < 18446744073709551616) : shlk .u64 (a : Int) (k : Int) = ((a * 2 ^ k : Nat) : Int) := by
  unfold shlk
  rw [min64 hk, ← two_cast, ← Int.natCast_mul]
  exact u64_eq (by omega) (by omega)
theorem shr_nat32 {a k : Nat} (h : a < 4294967296) : shrk .u32 (a : Int) (k : Int) = ((a / 2 ^ k : Nat) : Int) := by
  unfold shrk
  rw [shr_at]
  by_cases hk : k ≤ 32
  · rw [show min ((k : Nat) : Int).toNat IntKind.u32.bits = k by simp [IntKind.bits]; omega]
  · rw [show min ((k : Nat) : Int).toNat IntKind.u32.bits = 32 by simp [IntKind.bits]; omega, pow_big (b := 32) (by simpa using h) (Nat.le_refl _), pow_big (b := 32) (by simpa using h) (by omega)]
theorem bv_nat {n a : Nat} (h : a < 2 ^ n) : (BitVec.ofInt n (a : Int)).toNat = a := by
  rw [BitVec.toNat_ofInt]
  have : ((a : Int) % ((2 ^ n : Nat) : Int)) = a := Int.emod_eq_of_lt (by omega) (by omega)
  rw [this]; rfl
theorem and_nat {a b : Nat} (ha : a < 18446744073709551616) (hb : b < 18446744073709551616) : band .u64 (a : Int) (b : Int) = ((a &&& b : Nat) : Int) := by
  unfold band
  rw [show IntKind.u64.bits = 64 from rfl, BitVec.toNat_and, bv_nat (by simpa using ha), bv_nat (by simpa using hb)]
  have : a &&& b ≤ a := Nat.and_le_left
  exact u64_eq (by omega) (by omega)
theorem and_nat32 {a b : Nat} (ha : a < 4294967296) (hb : b < 4294967296) : band .u32 (a : Int) (b : Int) = ((a &&& b : Nat) : Int) := by
  unfold band
  rw [show IntKind.u32.bits = 32 from rfl, BitVec.toNat_and, bv_nat (by simpa using ha), bv_nat (by simpa using hb)]
  have : a &&& b ≤ a := Nat.and_le_left
  exact u32_eq (by omega) (by omega)
theorem mask_nat {a j : Nat} (hj : j ≤ 64) (ha : a < 18446744073709551616) : band .u64 (a : Int) ((2 ^ j - 1 : Nat) : Int) = ((a % 2 ^ j : Nat) : Int) := by
  have : (2 : Nat) ^ j ≤ 2 ^ 64 := two_mono hj
  rw [and_nat ha (by omega), Nat.and_two_pow_sub_one_eq_mod]
theorem mask_nat32 {a j : Nat} (hj : j ≤ 32) (ha : a < 4294967296) : band .u32 (a : Int) ((2 ^ j - 1 : Nat) : Int) = ((a % 2 ^ j : Nat) : Int) := by
  have : (2 : Nat) ^ j ≤ 2 ^ 32 := two_mono hj
  rw [and_nat32 ha (by omega), Nat.and_two_pow_sub_one_eq_mod]
theorem or_low {f j : Nat} (c : Nat) (hf : f < 2 ^ j) : f ||| 2 ^ j * c = f + 2 ^ j * c := by
  rw [Nat.or_comm, ← Nat.two_pow_add_eq_or_of_lt hf, Nat.add_comm]
theorem or_nat {a b : Nat} (ha : a < 18446744073709551616) (hb : b < 18446744073709551616) (hs : a ||| b < 18446744073709551616) : bor .u64 (a : Int) (b : Int) = ((a ||| b : Nat) : Int) := by
  unfold bor
  rw [show IntKind.u64.bits = 64 from rfl, BitVec.toNat_or, bv_nat (by simpa using ha), bv_nat (by simpa using hb)]
  exact u64_eq (by omega) (by omega)
theorem or_nat32 {a b : Nat} (ha : a < 4294967296) (hb : b < 4294967296) (hs : a ||| b < 4294967296) : bor .u32 (a : Int) (b : Int) = ((a ||| b : Nat) : Int) := by
  unfold bor
  rw [show IntKind.u32.bits = 32 from rfl, BitVec.toNat_or, bv_nat (by simpa using ha), bv_nat (by simpa using hb)]
  exact u32_eq (by omega) (by omega)
/-- a sign -/
def sgN (neg : Bool) : Nat := if neg then 2147483648 else 0
theorem sign_spec {fu : Nat} {neg : Bool} : soft_sign fu neg = some ((sgN neg : Nat) : Int) := by
  unfold soft_sign sgN
  cases neg <;> rfl
theorem sign_or {neg : Bool} {m : Nat} (hm : m < 2147483648) : bor .u32 ((sgN neg : Nat) : Int) (m : Int) = ((sgN neg + m : Nat) : Int) := by
  have h : sgN neg ||| m = sgN neg + m := by
    unfold sgN
    cases neg with
    | false => simp
    | true =>
      have := or_low (f := m) (j := 31) 1 (by simpa using hm)
      rw [Nat.or_comm]
      simpa [Nat.add_comm] using this
  have hs : sgN neg ≤ 2147483648 := by unfold sgN; split <;> omega
  rw [or_nat32 (by omega) (by omega) (by omega), h]
theorem sgN_le (neg : Bool) : sgN neg ≤ 2147483648 := by unfold sgN; split <;> omega
/-- a finite float, taken apart -/
structure Opn (a : Nat) (x : T_soft_number) (s e : Nat) : Prop where
  neg : x.fneg = decide (2147483648 ≤ a)
  nan : x.fnan = false
  inf : x.finf = false
  sig : x.fsig = (s : Int)
  exp : x.fexp = (e : Int) - 149
  s24 : s < 16777216
  e253 : e ≤ 253
  norm : e = 0 ∨ 8388608 ≤ s
  val : a % 2147483648 = e * 8388608 + s
theorem open_fin {fu a : Nat} (ha : a < 4294967296) (hf : a % 2147483648 < 2139095040) : ∃ x s e, soft_open fu (a : Int) = some x ∧ Opn a x s e := by
  have g1 : shrk .u32 (a : Int) 23 = ((a / 8388608 : Nat) : Int) := shr_nat32 (k := 23) ha
  have g2 : band .u32 ((a / 8388608 : Nat) : Int) 255 = ((a / 8388608 % 256 : Nat) : Int) := mask_nat32 (j := 8) (by decide) (by omega)
  have g3 : shrk .u32 (a : Int) 31 = ((a / 2147483648 : Nat) : Int) := shr_nat32 (k := 31) ha
  have g4 : band .u32 (a : Int) 8388607 = ((a % 8388608 : Nat) : Int) := mask_nat32 (j := 23) (by decide) ha
  have g5 : wk .u64 ((a % 8388608 : Nat) : Int) = ((a % 8388608 : Nat) : Int) := u64_eq (by omega) (by omega)
  have g6 : wk .i64 ((a / 8388608 % 256 : Nat) : Int) = ((a / 8388608 % 256 : Nat) : Int) := wk_eq (by omega) (by omega)
  have g7 : bor .u64 ((a % 8388608 : Nat) : Int) 8388608 = ((a % 8388608 + 8388608 : Nat) : Int) := by
    have h := or_low (f := a % 8388608) (j := 23) 1 (by omega)
    have h2 := or_nat (a := a % 8388608) (b := 8388608) (by omega) (by decide) (by
      rw [show (8388608 : Nat) = 2 ^ 23 * 1 from rfl] at *
      rw [h]; omega)
    rw [show ((8388608 : Int)) = ((8388608 : Nat) : Int) from rfl, h2]
    congr 1
  have gneg : decide (((a / 2147483648 : Nat) : Int) = 1) = decide (2147483648 ≤ a) := decide_eq_decide.2 ⟨fun h => by omega, fun h => by omega⟩
  unfold soft_open
  rw [g1, g2, g3, g4, g5, g6, gneg, if_neg (by omega)]
  by_cases h2 : ((a / 8388608 % 256 : Nat) : Int) = 0
  · rw [if_pos h2]
    exact ⟨_, a % 8388608, 0, rfl, rfl, rfl, rfl, rfl, rfl, by omega, by omega, .inl rfl, by omega⟩
  · rw [if_neg h2, g7]
    refine ⟨_, a % 8388608 + 8388608, a / 8388608 % 256 - 1, rfl, rfl, rfl, rfl, rfl, ?_, by omega, by omega, .inr (by omega), by omega⟩
    show wk .i64 _ = _
    rw [wk_eq (by omega) (by omega)]
    omega
theorem pow_lt {a b : Nat} (h : 2 ^ a < 2 ^ b) : a < b := by
  rcases Nat.lt_or_ge a b with h1 | h1
  · exact h1
  · have := two_mono h1; omega
theorem Round_exact {fu s e k : Nat} {neg : Bool} (h0 : 0 < s) (hs : s < 16777216) (hn : e = 0 ∨ 8388608 ≤ s) (he : e ≤ 253) (hk : k ≤ 38) (ho : e * 8388608 + s < 2139095040) {E S : Int} (hE : E = (e : Int) - 149 - k) (hS : S = ((s * 2 ^ k : Nat) : Int)) :
    soft_Round fu 0 neg E S false = some ((sgN neg + (e * 8388608 + s) : Nat) : Int) := by
  subst hE hS
  have h38 : (2 : Nat) ^ k ≤ 2 ^ 38 := two_mono hk
  have hp : 1 ≤ (2 : Nat) ^ k := Nat.one_le_two_pow
  have hx : s * 2 ^ k < 16777216 * 2 ^ k := Nat.mul_lt_mul_of_pos_right hs (by omega)
  have hx1 : 2 ^ k ≤ s * 2 ^ k := Nat.le_mul_of_pos_left _ h0
  obtain ⟨n, hn1, ⟨hb1, hb2⟩, hn64⟩ := Len64_spec (fu := fu) (x := s * 2 ^ k) (by omega)
  have hn0 : n ≠ 0 := by rintro rfl; simp at hb1; omega
  have hkn : k < n := pow_lt (by omega)
  have hb3 := hb2.resolve_left hn0
  have hn24 : n ≤ 24 + k := by
    have : n - 1 < 24 + k := pow_lt (by rw [Nat.pow_add]; omega)
    omega
  have hn25 : e ≠ 0 → n = 24 + k := fun h => by
    have h8 := hn.resolve_left h
    have : 8388608 * 2 ^ k ≤ s * 2 ^ k := Nat.mul_le_mul_right _ h8
    have : 23 + k < n := pow_lt (by rw [Nat.pow_add]; omega)
    omega
  have eD : imax (wk .i64 ((n : Int) - 24)) (wk .i64 (-149 - ((e : Int) - 149 - k))) = (k : Int) := by
    rw [wk_eq (by omega) (by omega), wk_eq (by omega) (by omega)]
    unfold imax
    by_cases h : e = 0
    · split <;> omega
    · have := hn25 h; split <;> omega
  have e23 : shlk .u64 (e : Int) 23 = ((e * 8388608 : Nat) : Int) := by
    have h := shl_nat (a := e) (k := 23) (by decide) (Nat.lt_of_le_of_lt (Nat.mul_le_mul_right _ he) (by decide))
    rw [show (2 : Nat) ^ 23 = 8388608 from rfl] at h; exact h
  have k3 : soft_Round_k3 fu neg ((e : Int) - 149 - k) (n : Int) (s : Int) = some ((sgN neg + (e * 8388608 + s) : Nat) : Int) := by
    unfold soft_Round_k3
    rw [eD, if_neg (by omega)]
    rw [show (e : Int) - 149 - k + k = (e : Int) - 149 by omega, wk_eq (x := (e : Int) - 149) (by omega) (by omega), if_neg (by omega), show (e : Int) - 149 + 149 = (e : Int) by omega, wk_eq (x := (e : Int)) (by omega) (by omega), u64_eq (x := (e : Int)) (by omega) (by omega),
      e23, show ((e * 8388608 : Nat) : Int) + (s : Int) = ((e * 8388608 + s : Nat) : Int) by omega, u64_eq (x := ((e * 8388608 + s : Nat) : Int)) (by omega) (by omega), if_neg (by omega), sign_spec, ob_some, u32_eq (x := ((e * 8388608 + s : Nat) : Int)) (by omega) (by omega), sign_or (by omega)]
  have k2 : ∀ c : Bool, soft_Round_k2 fu neg ((e : Int) - 149 - k) (n : Int) (s : Int) false false c = some ((sgN neg + (e * 8388608 + s) : Nat) : Int) := fun c => by
    unfold soft_Round_k2
    rw [if_neg (by decide), if_neg (by decide), k3]
  unfold soft_Round
  rw [chk_pos rfl, hn1, ob_some, if_neg (by omega), if_neg (by omega), if_neg (by omega)]
  unfold soft_Round_k1
  rw [eD]
  by_cases hk0 : k = 0
  · subst hk0
    rw [if_pos (by decide), show wk .i64 (0 - ((0 : Nat) : Int)) = ((0 : Nat) : Int) from rfl, chk_pos (by decide), shl_nat (by decide) (by omega)]
    simpa using k2 false
  · have hk1 : (2 : Nat) ^ (k - 1) < 2 ^ k := Nat.pow_lt_pow_right (by decide) (by omega)
    have hk2 : 1 ≤ (2 : Nat) ^ (k - 1) := Nat.one_le_two_pow
    have e1 : wk .i64 ((k : Int) - 1) = ((k - 1 : Nat) : Int) := by rw [wk_eq (by omega) (by omega)]; omega
    have e2 : shlk .u64 1 ((k - 1 : Nat) : Int) = ((2 ^ (k - 1) : Nat) : Int) := by
      have := shl_nat (a := 1) (k := k - 1) (by omega) (by omega)
      simpa using this
    have e3 : shlk .u64 1 (k : Int) = ((2 ^ k : Nat) : Int) := by
      have := shl_nat (a := 1) (k := k) (by omega) (by omega)
      simpa using this
    have e4 : wk .u64 (((2 ^ k : Nat) : Int) - 1) = ((2 ^ k - 1 : Nat) : Int) := by rw [u64_eq (by omega) (by omega)]; omega
    have e5 : band .u64 ((s * 2 ^ k : Nat) : Int) ((2 ^ k - 1 : Nat) : Int) = 0 := by rw [mask_nat (by omega) (by omega)]; simp
    have e6 : shrk .u64 ((s * 2 ^ k : Nat) : Int) (k : Int) = (s : Int) := by rw [shr_nat (by omega), Nat.mul_div_cancel _ (by omega)]
    rw [if_neg (by omega), if_neg (by omega), chk_pos (by omega), e1, chk_pos (by omega), e2, e3, e4, e5, if_neg (by omega), if_neg (by omega)]
    unfold soft_Round_k4
    rw [eD, e1, e2, e3, e4, e5, e6, if_neg (by omega), if_pos rfl, k2]
theorem Round_nought {fu : Nat} {neg : Bool} {E : Int} : soft_Round fu 0 neg E 0 false = some ((sgN neg : Nat) : Int) := by
  obtain ⟨n, hn1, ⟨hb1, hb2⟩, hn64⟩ := Len64_spec (fu := fu) (x := 0) (by decide)
  have hn0 : n = 0 := by
    rcases hb2 with h | h
    · exact h
    · have : 1 ≤ (2 : Nat) ^ (n - 1) := Nat.one_le_two_pow
      omega
  subst hn0
  unfold soft_Round
  rw [chk_pos rfl, show ((0 : Int)) = ((0 : Nat) : Int) from rfl, hn1, ob_some, if_pos (by decide), if_neg (by decide), sign_spec, ob_some]
theorem sgn_split {a : Nat} (ha : a < 4294967296) : sgN (decide (2147483648 ≤ a)) + a % 2147483648 = a := by
  unfold sgN
  by_cases h : 2147483648 ≤ a
  · rw [decide_eq_true h, if_pos rfl]; omega
  · rw [decide_eq_false h, if_neg (by decide)]; omega
theorem mul_fin {fu a b : Nat} (ha : a < 4294967296) (hb : b < 4294967296) (fa : a % 2147483648 < 2139095040) (fb : b % 2147483648 < 2139095040) :
    ∃ s e s2 e2 x y, Opn a x s e ∧ Opn b y s2 e2 ∧ soft_Mul fu (a : Int) (b : Int) = soft_Round fu 0 (!(decide (2147483648 ≤ a) == decide (2147483648 ≤ b))) ((e : Int) - 149 + ((e2 : Int) - 149)) ((s * s2 : Nat) : Int) false := by
  obtain ⟨x, s, e, hx, ox⟩ := open_fin (fu := fu) ha fa
  obtain ⟨y, s2, e2, hy, oy⟩ := open_fin (fu := fu) hb fb
  refine ⟨s, e, s2, e2, x, y, ox, oy, ?_⟩
  have h1 := ox.s24
  have h2 := oy.s24
  have h3 := ox.e253
  have h4 := oy.e253
  have hm : s * s2 ≤ 16777216 * 16777216 := Nat.mul_le_mul (by omega) (by omega)
  unfold soft_Mul soft_MulBy soft_MulBy_k1
  rw [chk_pos rfl, hx, ob_some, hy, ob_some, ox.nan, oy.nan, ox.inf, oy.inf, if_neg (by decide), if_neg (by decide), if_neg (by decide), if_neg (by decide), ox.neg, oy.neg, ox.exp, oy.exp, ox.sig, oy.sig, wk_eq (by omega) (by omega), ← Int.natCast_mul, u64_eq (by omega) (by omega)]
  cases soft_Round fu 0 (!(decide (2147483648 ≤ a) == decide (2147483648 ≤ b))) ((e : Int) - 149 + ((e2 : Int) - 149)) ((s * s2 : Nat) : Int) false <;> rfl
theorem mul_nought {fu b : Nat} (hb : b < 4294967296) (fb : b % 2147483648 < 2139095040) : ∃ z : Nat, soft_Mul fu 0 (b : Int) = some (z : Int) ∧ z % 2147483648 = 0 ∧ z < 4294967296 := by
  obtain ⟨s, e, s2, e2, x, y, ox, oy, h⟩ := mul_fin (fu := fu) (a := 0) (b := b) (by decide) hb (by decide) fb
  have hv := ox.val
  have : s = 0 := by omega
  subst this
  rw [show ((0 : Nat) : Int) = 0 from rfl, show ((0 * s2 : Nat) : Int) = 0 by simp, Round_nought] at h
  refine ⟨_, h, ?_, ?_⟩ <;> (unfold sgN; split <;> decide)
theorem mul_one {fu b : Nat} (hb : b < 4294967296) (fb : b % 2147483648 < 2139095040) : soft_Mul fu 1065353216 (b : Int) = some (b : Int) := by
  obtain ⟨s, e, s2, e2, x, y, ox, oy, h⟩ := mul_fin (fu := fu) (a := 1065353216) (b := b) (by decide) hb (by decide) fb
  have hv := ox.val
  have h1 := ox.s24
  have h2 := ox.norm
  have he : e = 126 ∧ s = 8388608 := by omega
  obtain ⟨rfl, rfl⟩ := he
  have hneg : (!(decide (2147483648 ≤ 1065353216) == decide (2147483648 ≤ b))) = decide (2147483648 ≤ b) := by
    rw [decide_eq_false (p := 2147483648 ≤ 1065353216) (by decide)]
    cases decide (2147483648 ≤ b) <;> rfl
  rw [show ((1065353216 : Nat) : Int) = 1065353216 from rfl, hneg] at h
  have hv2 := oy.val
  have hs := sgn_split hb
  by_cases h0 : s2 = 0
  · subst h0
    have : e2 = 0 := by have := oy.norm; omega
    subst this
    rw [show ((8388608 * 0 : Nat) : Int) = 0 from rfl, Round_nought] at h
    rw [h]; congr 2; omega
  · rw [Round_exact (s := s2) (e := e2) (k := 23) (by omega) oy.s24 oy.norm oy.e253 (by decide) (by omega) (by omega) (by rw [show (2 : Nat) ^ 23 = 8388608 from rfl, Nat.mul_comm])] at h
    rw [h]; congr 2; omega
theorem nought_spec {fu : Nat} : soft_nought fu 0 = some 0 := by
  unfold soft_nought
  rw [chk_pos rfl, sign_spec, ob_some]; rfl
theorem beq_dec {p q : Prop} [Decidable p] [Decidable q] : (decide p == decide q) = true ↔ (p ↔ q) := by
  by_cases hp : p <;> by_cases hq : q <;> simp [hp, hq]
/-- a finite float that is no nought, and a nought -/
theorem add_k2 {fu a s e : Nat} {neg neg2 : Bool} (ha : a < 4294967296) (hneg : neg = decide (2147483648 ≤ a)) (h0 : 0 < s) (hs : s < 16777216) (he : e ≤ 253) (hn : e = 0 ∨ 8388608 ≤ s) (hv : a % 2147483648 = e * 8388608 + s) (hf : a % 2147483648 < 2139095040) :
    soft_AddBy_k2 fu neg ((e : Int) - 149) (s : Int) neg2 (-149) 0 = some (a : Int) := by
  have hsg := sgn_split ha
  have hr : ∀ {k : Nat} {E S : Int}, k ≤ 38 → E = (e : Int) - 149 - k → S = ((s * 2 ^ k : Nat) : Int) → soft_Round fu 0 neg E S false = some (a : Int) := fun hk hE hS => by
    rw [Round_exact h0 hs hn he hk (by omega) hE hS, hneg]; congr 2; omega
  have k3 : ∀ {k : Nat} {E S : Int}, k ≤ 38 → E = (e : Int) - 149 - k → S = ((s * 2 ^ k : Nat) : Int) → soft_AddBy_k3 fu neg neg2 E S 0 false = some (a : Int) := fun {k} {E} {S} hk hE hS => by
    have hp : 1 ≤ (2 : Nat) ^ k := Nat.one_le_two_pow
    have h38 : (2 : Nat) ^ k ≤ 2 ^ 38 := two_mono hk
    have hx : s * 2 ^ k < 16777216 * 2 ^ k := Nat.mul_lt_mul_of_pos_right hs (by omega)
    have hx1 : 2 ^ k ≤ s * 2 ^ k := Nat.le_mul_of_pos_left _ h0
    have h := hr hk hE hS
    unfold soft_AddBy_k3
    have e1 : wk .u64 (S + 0) = S := by rw [Int.add_zero, hS]; exact u64_eq (by omega) (by omega)
    have e2 : wk .u64 (S - 0) = S := by rw [Int.sub_zero, hS]; exact u64_eq (by omega) (by omega)
    rw [e1, e2, h]
    by_cases hc : (neg == neg2) = true
    · rw [if_pos hc, ob_some]
    · rw [if_neg hc, if_neg (by decide), if_neg (by omega), if_pos (by omega), ob_some]
  unfold soft_AddBy_k2
  rw [show (e : Int) - 149 - (-149) = (e : Int) by omega, wk_eq (x := (e : Int)) (by omega) (by omega)]
  by_cases h38 : (e : Int) ≤ 38
  · rw [if_pos h38, chk_pos (by omega), shl_nat (by omega) (by
      have h38' : (2 : Nat) ^ e ≤ 2 ^ 38 := two_mono (by omega)
      have hx : s * 2 ^ e ≤ 16777216 * 2 ^ 38 := Nat.mul_le_mul (by omega) h38'
      omega)]
    exact k3 (by omega) (by omega) rfl
  · have e1 : wk .i64 ((e : Int) - 38) = ((e - 38 : Nat) : Int) := by rw [wk_eq (by omega) (by omega)]; omega
    have e2 : shrk .u64 0 ((e - 38 : Nat) : Int) = 0 := by
      have := shr_nat (a := 0) (k := e - 38) (by decide)
      simpa using this
    have e3 : shlk .u64 0 ((e - 38 : Nat) : Int) = 0 := by
      unfold shlk; rw [Int.zero_mul]; rfl
    rw [if_neg h38, e1, chk_pos (by omega), e2, e3, show (!(decide ((0 : Int) = 0))) = false from rfl, wk_eq (x := (e : Int) - 149 - 38) (by omega) (by omega), show ((38 : Int)) = ((38 : Nat) : Int) from rfl, shl_nat (by decide) (by rw [show (2 : Nat) ^ 38 = 274877906944 from rfl]; omega)]
    exact k3 (k := 38) (by decide) (by omega) rfl
theorem add_noughts {fu z : Nat} (hz : z % 2147483648 = 0) (h : z < 4294967296) : soft_Add fu 0 (z : Int) = some 0 := by
  obtain ⟨x, s, e, hx, ox⟩ := open_fin (fu := fu) (a := 0) (by decide) (by decide)
  obtain ⟨y, s2, e2, hy, oy⟩ := open_fin (fu := fu) (a := z) h (by omega)
  have h1 := ox.val
  have h2 := oy.val
  have hs : s = 0 := by omega
  have hs2 : s2 = 0 := by omega
  unfold soft_Add soft_AddBy
  rw [show ((0 : Int)) = ((0 : Nat) : Int) from rfl, chk_pos rfl, hx, ob_some, hy, ob_some, ox.nan, oy.nan, ox.inf, oy.inf, if_neg (by decide), if_neg (by decide), if_neg (by decide), if_neg (by decide), ox.sig, oy.sig, hs, hs2, if_pos rfl, if_pos rfl, show soft_nought fu ((0 : Nat) : Int) = some 0 from nought_spec]
  split <;> rfl
theorem add_l {fu a : Nat} (ha : a < 4294967296) (fa : a % 2147483648 < 2139095040) (h0 : a % 2147483648 ≠ 0) : soft_Add fu 0 (a : Int) = some (a : Int) := by
  obtain ⟨x, s, e, hx, ox⟩ := open_fin (fu := fu) (a := 0) (by decide) (by decide)
  obtain ⟨y, s2, e2, hy, oy⟩ := open_fin (fu := fu) (a := a) ha fa
  have h1 := ox.val
  have h2 := oy.val
  have hn := oy.norm
  have hs : s = 0 := by omega
  have he : e = 0 := by omega
  have hs2 : 0 < s2 := by omega
  unfold soft_Add soft_AddBy
  rw [show ((0 : Int)) = ((0 : Nat) : Int) from rfl, chk_pos rfl, hx, ob_some, hy, ob_some, ox.nan, oy.nan, ox.inf, oy.inf, if_neg (by decide), if_neg (by decide), if_neg (by decide), if_neg (by decide), ox.sig, oy.sig, hs, if_pos rfl, if_neg (by omega)]
  unfold soft_AddBy_k1
  rw [ox.exp, oy.exp, ox.sig, oy.sig, ox.neg, oy.neg, hs, he]
  by_cases h : e2 = 0
  · subst h
    rw [if_neg (by omega)]
    unfold soft_AddBy_k2 soft_AddBy_k3
    have e1 : wk .i64 (((0 : Nat) : Int) - 149 - (((0 : Nat) : Int) - 149)) = 0 := rfl
    have e2 : shlk .u64 ((0 : Nat) : Int) 0 = 0 := rfl
    have hs24 := oy.s24
    have hsg := sgn_split ha
    have hr := Round_exact (fu := fu) (s := s2) (e := 0) (k := 0) (neg := decide (2147483648 ≤ a)) hs2 oy.s24 (.inl rfl) (by decide) (by decide) (by omega) (E := ((0 : Nat) : Int) - 149) (S := (s2 : Int)) (by omega) (by simp)
    rw [e1, if_pos (by decide), chk_pos (by decide), e2, Int.zero_add, Int.sub_zero, u64_eq (x := (s2 : Int)) (by omega) (by omega), hr]
    by_cases hc : (decide (2147483648 ≤ 0) == decide (2147483648 ≤ a)) = true
    · have hd : decide (2147483648 ≤ 0) = decide (2147483648 ≤ a) := eq_of_beq hc
      rw [if_pos hc, hd, hr, ob_some, ob_some]
      congr 2; omega
    · rw [if_neg hc, if_neg (by decide), if_neg (by omega), if_neg (by omega), ob_some, ob_some]
      congr 2; omega
  · rw [if_pos (by omega), show (((0 : Nat) : Int) - 149) = -149 from rfl, show ((0 : Nat) : Int) = 0 from rfl, add_k2 ha rfl hs2 oy.s24 oy.e253 hn h2 fa, ob_some]
theorem add_r {fu a z : Nat} (ha : a < 4294967296) (fa : a % 2147483648 < 2139095040) (h0 : a % 2147483648 ≠ 0) (hz : z % 2147483648 = 0) (h : z < 4294967296) : soft_Add fu (a : Int) (z : Int) = some (a : Int) := by
  obtain ⟨x, s, e, hx, ox⟩ := open_fin (fu := fu) (a := z) h (by omega)
  obtain ⟨y, s2, e2, hy, oy⟩ := open_fin (fu := fu) (a := a) ha fa
  have h1 := ox.val
  have h2 := oy.val
  have hn := oy.norm
  have hs : s = 0 := by omega
  have he : e = 0 := by omega
  have hs2 : 0 < s2 := by omega
  unfold soft_Add soft_AddBy
  rw [chk_pos rfl, hy, ob_some, hx, ob_some, oy.nan, ox.nan, oy.inf, ox.inf, if_neg (by decide), if_neg (by decide), if_neg (by decide), if_neg (by decide), oy.sig, if_neg (by omega)]
  unfold soft_AddBy_k1
  rw [ox.exp, oy.exp, ox.sig, oy.sig, ox.neg, oy.neg, hs, he, if_neg (by omega), show (((0 : Nat) : Int) - 149) = -149 from rfl, show ((0 : Nat) : Int) = 0 from rfl, add_k2 ha rfl hs2 oy.s24 oy.e253 hn h2 fa, ob_some]
end Go.Av
set_option linter.unusedVariables false
namespace Go.Av
theorem refSizeW_spec {fu : Nat} {l : List Int} (hp : ∀ x ∈ l, 1 ≤ x ∧ x ≤ 4096) (hl : l.length ≤ 8) (hf : l.length < fu) : ref04_Size_W1 fu l 1 0 = some (if prod l ≤ 4096 then (prod l, 0) else (0, 4)) := by
  unfold ref04_Size_W1
  refine (cloop_ind (fun (s : Int × Int) => some (if s.1 * prod (l.drop s.2.toNat) ≤ 4096 then (s.1 * prod (l.drop s.2.toNat), 0) else (0, 4))) (fun s => 0 ≤ s.2 ∧ s.2 ≤ l.length ∧ 1 ≤ s.1 ∧ s.1 ≤ 4096) (fun s => l.length - s.2.toNat) ?_ fu (1, 0) (by simp) (by simp; omega)).trans (by simp)
  rintro ⟨m, i⟩ ⟨h0, h1, h2, h3⟩ next hn
  simp only at h0 h1 h2 h3 hn ⊢
  obtain ⟨k, rfl⟩ := Int.eq_ofNat_of_zero_le h0
  unfold ref04_Size_L1 ref04_Size_k2
  simp only [Int.toNat_natCast]
  by_cases hk : k < l.length
  · obtain ⟨q1, q2⟩ := hp _ (List.getElem_mem hk)
    have hge : 1 ≤ m * l[k] := by have := Int.mul_le_mul h2 q1 (by decide) (by omega); simpa using this
    have hle : m * l[k] ≤ 4096 * 4096 := Int.mul_le_mul h3 q2 (by omega) (by decide)
    rw [if_pos (by omega), at?_get hk, ob_some, if_neg (by omega), ob_some, wk_eq (x := m * l[k]) (by omega) (by omega), List.drop_eq_getElem_cons hk]
    have hpos : 1 ≤ prod (l.drop (k + 1)) := prod_pos fun x hx => (hp x (List.mem_of_mem_drop hx)).1
    simp only [prod, ← Int.mul_assoc]
    by_cases hd : 4096 < m * l[k]
    · rw [if_pos hd]
      have : m * l[k] * 1 ≤ m * l[k] * prod (l.drop (k + 1)) := Int.mul_le_mul_of_nonneg_left hpos (by omega)
      rw [if_neg (by omega)]
    · rw [if_neg hd]
      rw [wk_succ (by omega), hn (m * l[k], ((k + 1 : Nat) : Int)) ⟨by simp only []; omega, by simp only []; omega, hge, by simp only []; omega⟩ (by simp; omega)]
      simp
  · rw [if_neg (by omega), List.drop_of_length_le (by omega)]
    simp only [prod, Int.mul_one]
    rw [if_pos h3]
theorem refSize_spec {fu : Nat} {l : List Int} (hl : Short l) (hf : l.length < fu) : ref04_Size fu l = some (sizeV l) := by
  unfold ref04_Size ref04_Size_W2
  refine (cloop_ind (fun (s : Bool × Bool × Int) => cond ((l.drop s.2.2.toNat).any (fun x => decide (x < 0))) (some (0, 1)) (ref04_Size_k1 fu l (s.1 || (l.drop s.2.2.toNat).any (fun x => decide (x = 0))) (s.2.1 || (l.drop s.2.2.toNat).any (fun x => decide (4096 < x))))) (fun s => 0 ≤ s.2.2 ∧ s.2.2 ≤ l.length) (fun s => l.length - s.2.2.toNat) ?_ fu _ (by simp) (by simp; omega)).trans ?_
  · rintro ⟨z, b, i⟩ ⟨h0, h1⟩ next hn
    simp only at h0 h1 hn ⊢
    obtain ⟨k, rfl⟩ := Int.eq_ofNat_of_zero_le h0
    unfold ref04_Size_L2
    simp only [Int.toNat_natCast]
    by_cases hk : k < l.length
    · rw [if_pos (by omega), at?_get hk, ob_some, List.drop_eq_getElem_cons hk]
      simp only [List.any_cons]
      by_cases h2 : l[k] < 0
      · rw [if_pos h2]; simp [h2]
      · rw [if_neg h2]
        have hx := fun z' b' => hn (z', b', ((k + 1 : Nat) : Int)) (by simp only []; omega) (by simp; omega)
        simp only [Int.toNat_natCast] at hx
        have hz : (if z = true then ref04_Size_k3 fu (fun x13 x14 x15 => next (x13, x14, x15)) b (k : Int) l[k] true else ref04_Size_k3 fu (fun x13 x14 x15 => next (x13, x14, x15)) b (k : Int) l[k] (decide (l[k] = 0))) = next (z || decide (l[k] = 0), b || decide (4096 < l[k]), wk .i64 ((k : Int) + 1)) := by
          unfold ref04_Size_k3
          cases z <;> cases b <;> simp
        rw [hz, wk_succ (by unfold Short at hl; omega), hx]
        simp only [Bool.or_assoc]
        simp [h2]
    · rw [if_neg (by omega), List.drop_of_length_le (by omega)]
      simp
  · simp only [Int.toNat_zero, List.drop_zero, Bool.false_or]
    by_cases h1 : l.any (fun x => decide (x < 0)) = true
    · rw [h1, cond_true]
      have hg : ¬ Good l := fun hg => by
        obtain ⟨x, hx, hx2⟩ := List.any_eq_true.1 h1
        have := (hg.2.1 x hx).1
        simp at hx2; omega
      simp only [sizeV, if_neg hg, errS, if_pos h1]
    have h1' : l.any (fun x => decide (x < 0)) = false := by simpa using h1
    rw [h1', cond_false]
    have he : errS l = 4 := by simp only [errS, if_neg h1]
    unfold ref04_Size_k1
    by_cases h2 : (decide (8 < (l.length : Int)) || l.any fun x => decide (4096 < x)) = true
    · rw [if_pos h2]
      have hg : ¬ Good l := fun hg => by
        rcases Bool.or_eq_true_iff.1 h2 with h3 | h3
        · have := hg.1; simp at h3; omega
        · obtain ⟨x, hx, hx2⟩ := List.any_eq_true.1 h3
          have := (hg.2.1 x hx).2
          simp at hx2; omega
      simp only [sizeV, if_neg hg, he]
    rw [if_neg h2]
    simp only [Bool.or_eq_true, decide_eq_true_eq, List.any_eq_true, not_or, not_exists, not_and] at h1 h2
    have hr : Rng l := fun x hx => by have := h1 x hx; have := h2.2 x hx; omega
    by_cases h4 : (l.any fun x => decide (x = 0)) = true
    · rw [if_pos h4]
      have hz : (0 : Int) ∈ l := by
        obtain ⟨x, hx, hx2⟩ := List.any_eq_true.1 h4
        simp at hx2; subst hx2; exact hx
      have hg : Good l := ⟨by omega, hr, by rw [prod_zero hz]; decide⟩
      simp only [sizeV, if_pos hg, prod_zero hz]
    rw [if_neg h4]
    have hp : ∀ x ∈ l, 1 ≤ x ∧ x ≤ 4096 := fun x hx => by
      have := hr x hx
      simp only [List.any_eq_true, decide_eq_true_eq, not_exists, not_and] at h4
      have := h4 x hx; omega
    rw [refSizeW_spec hp (by omega) hf]
    by_cases h5 : prod l ≤ 4096
    · have hg : Good l := ⟨by omega, hr, h5⟩
      simp only [sizeV, if_pos hg, if_pos h5]
    · have hg : ¬ Good l := fun hg => h5 hg.2.2
      simp only [sizeV, if_neg hg, if_neg h5, he]
theorem refKnown_spec {fu : Nat} {k : Int} : ref05_Known fu k = some (decide (k = 1 ∨ k = 7 ∨ k = 9)) := by
  unfold ref05_Known
  by_cases h1 : k = 1
  · simp [h1]
  · by_cases h2 : k = 7
    · simp [h2]
    · by_cases h3 : k = 9 <;> simp [h1, h2, h3]
theorem refCheck_spec {fu : Nat} {t : T_Tensor} (hs : Small t) (hf : Fuel fu t) : ref05_Check fu t = some (checkV t) := by
  obtain ⟨s1, s2, s3, s4⟩ := hs
  unfold ref05_Check checkV
  rw [refKnown_spec, ob_some, refSize_spec (by unfold Short; omega) hf.1]
  by_cases hk : Known t.fType
  · rw [if_pos (by simpa [Known] using hk), ob_some, if_pos hk]
    simp only [sizeV]
    by_cases hg : Good t.fDims
    · simp only [if_pos hg, if_true]
      unfold ref05_Check_k1 LensOK
      have key : ∀ a b c : Int, (if (t.fF.length : Int) = a then (if (t.fI.length : Int) = b then (if (t.fB.length : Int) = c then (some 0 : Option Int) else some 3) else some 3) else some 3) = some (if (t.fF.length : Int) = a ∧ (t.fI.length : Int) = b ∧ (t.fB.length : Int) = c then 0 else 3) := fun a b c => by
        by_cases h1 : (t.fF.length : Int) = a <;> by_cases h2 : (t.fI.length : Int) = b <;> by_cases h3 : (t.fB.length : Int) = c <;> simp [h1, h2, h3]
      rcases hk with e | e | e
      · simp only [e, show ¬ (1 : Int) = 7 by decide, show ¬ (1 : Int) = 9 by decide, if_false, if_true, key]
      · simp only [e, show ¬ (7 : Int) = 1 by decide, show ¬ (7 : Int) = 9 by decide, if_false, if_true, key]
      · simp only [e, show ¬ (9 : Int) = 1 by decide, show ¬ (9 : Int) = 7 by decide, if_false, if_true, key]
    · simp only [if_neg hg]
      rw [if_neg (errS_ne _)]
  · rw [if_neg (by simpa [Known] using hk), if_neg hk]
end Go.Av
set_option linter.unusedVariables false
namespace Go.Av
theorem Abs_spec {fu a : Nat} : ref01_Abs fu (a : Int) = some ((a % 2147483648 : Nat) : Int) := by
  unfold ref01_Abs
  rw [Int.tmod_eq_emod_of_nonneg (by omega)]
  congr 1
def Fin (x : Int) : Prop := ∃ n : Nat, x = (n : Int) ∧ n < 4294967296 ∧ n % 2147483648 < 2139095040
def wantV (x : Int) : Int := if x % 2147483648 = 0 then 0 else x
theorem wantV_nat {n : Nat} : wantV (n : Int) = if n % 2147483648 = 0 then 0 else (n : Int) := by
  unfold wantV
  by_cases h : n % 2147483648 = 0
  · rw [if_pos h, if_pos (by omega)]
  · rw [if_neg h, if_neg (by omega)]
theorem mulV_zero {y : Int} (h : Fin y) : ∃ z : Nat, mulV 0 y = (z : Int) ∧ z % 2147483648 = 0 ∧ z < 4294967296 := by
  obtain ⟨n, rfl, h1, h2⟩ := h
  obtain ⟨z, e, z1, z2⟩ := mul_nought (fu := 0) h1 h2
  exact ⟨z, by unfold mulV; rw [e]; rfl, z1, z2⟩
theorem mulV_one {y : Int} (h : Fin y) : mulV 1065353216 y = y := by
  obtain ⟨n, rfl, h1, h2⟩ := h
  unfold mulV; rw [mul_one (fu := 0) h1 h2]; rfl
theorem addV_first {y : Int} (h : Fin y) : addV 0 y = wantV y := by
  obtain ⟨n, rfl, h1, h2⟩ := h
  rw [wantV_nat]
  by_cases h0 : n % 2147483648 = 0
  · rw [if_pos h0]; unfold addV; rw [add_noughts (fu := 0) h0 h1]; rfl
  · rw [if_neg h0]; unfold addV; rw [add_l (fu := 0) h1 h2 h0]; rfl
theorem addV_zero {z : Nat} (hz : z % 2147483648 = 0) (h : z < 4294967296) : addV 0 (z : Int) = 0 := by
  unfold addV; rw [add_noughts (fu := 0) hz h]; rfl
theorem addV_want {y : Int} (hy : Fin y) {z : Nat} (hz : z % 2147483648 = 0) (h : z < 4294967296) : addV (wantV y) (z : Int) = wantV y := by
  obtain ⟨n, rfl, h1, h2⟩ := hy
  rw [wantV_nat]
  by_cases h0 : n % 2147483648 = 0
  · rw [if_pos h0]; exact addV_zero hz h
  · rw [if_neg h0]; unfold addV; rw [add_r (fu := 0) h1 h2 h0 hz h]; rfl
theorem pick_dot {g : Nat → Int} {k : Nat} (hg : ∀ i, Fin (g i)) : ∀ m, (List.range m).foldl (fun s i => addV s (mulV (if i = k then 1065353216 else 0) (g i))) 0 = if k < m then wantV (g k) else 0
  | 0 => by simp
  | m + 1 => by
    rw [List.range_succ, List.foldl_append, pick_dot hg m]
    show addV _ _ = _
    by_cases h : m = k
    · subst h
      rw [if_neg (by omega), if_pos rfl, if_pos (by omega), mulV_one (hg _), addV_first (hg _)]
    · rw [if_neg h]
      obtain ⟨z, e, z1, z2⟩ := mulV_zero (hg m)
      rw [e]
      by_cases h2 : k < m
      · rw [if_pos h2, if_pos (by omega), addV_want (hg _) z1 z2]
      · rw [if_neg h2, if_neg (by omega), addV_zero z1 z2]
theorem fin_zero : Fin 0 := ⟨0, rfl, by decide, by decide⟩
theorem line_pick {n k : Nat} : lineV ((List.replicate n (0 : Int)).set k 1065353216) 0 1 n = (List.range n).map fun i => if i = k then 1065353216 else 0 := by
  unfold lineV
  refine List.map_congr_left fun i hi => ?_
  have hi : i < n := List.mem_range.1 hi
  rw [List.getD_eq_getElem?_getD, show 0 + i * 1 = i by omega, List.getElem?_set]
  by_cases h : i = k
  · subst h; simp [hi]
  · rw [if_neg (by omega), if_neg h]; simp [hi]
theorem pick_times {G : List Int} {n w k : Nat} (hG : ∀ x ∈ G, Fin x) (hk : k < n) : timesV ((List.replicate n (0 : Int)).set k 1065353216) G 0 0 1 n w = (List.range w).map fun c => wantV (G.getD (k * w + c) 0) := by
  unfold timesV
  rw [show List.range 1 = [0] from rfl, List.flatMap_cons, List.flatMap_nil, List.append_nil]
  refine List.map_congr_left fun c hc => ?_
  rw [show 0 + 0 * n = 0 by simp, line_pick]
  unfold lineV dotV
  rw [List.zip_map', List.foldl_map]
  have hf : ∀ i, Fin (G.getD (0 + c * 1 + i * w) 0) := fun i => by
    rw [List.getD_eq_getElem?_getD]
    cases h : G[0 + c * 1 + i * w]? with
    | none => exact fin_zero
    | some x => exact hG x (List.mem_of_getElem? h)
  rw [pick_dot (g := fun i => G.getD (0 + c * 1 + i * w) 0) hf n, if_pos hk, show 0 + c * 1 + k * w = k * w + c by omega]
theorem canon_fin {x : Int} (h : Fin x) : canonF x = x := by
  obtain ⟨n, rfl, h1, h2⟩ := h
  unfold canonF
  rw [if_neg (by omega)]
theorem picksW2_spec {fu : Nat} {y : T_Tensor} {at_ : Int} (hy : Ten y) (hl : y.fF.length ≤ 4096) (hf : 5000 < fu) (h : (∀ x ∈ y.fF, Fin x) → law14_MatPicks_k2 fu y at_ = some true) : law14_MatPicks_W2 fu y at_ 0 = some true := by
  unfold law14_MatPicks_W2
  suffices key : ∀ m n k : Nat, y.fF.length - k = m → k ≤ y.fF.length → m < n → (∀ i, i < k → ∃ x, y.fF[i]? = some x ∧ Fin x) → cloop (fun next s => law14_MatPicks_L2 fu y at_ next s) n (k : Int) = some true from
    key y.fF.length fu 0 (by omega) (by omega) (by omega) (fun i hi => by omega)
  intro m
  induction m with
  | zero =>
    intro n k h1 h2 h3 h4
    cases n with
    | zero => omega
    | succ n =>
      have : k = y.fF.length := by omega
      subst this
      rw [cloop_succ]
      unfold law14_MatPicks_L2
      rw [if_neg (by omega)]
      refine h fun x hx => ?_
      obtain ⟨i, hi, rfl⟩ := List.mem_iff_getElem.1 hx
      obtain ⟨z, hz, hz2⟩ := h4 i hi
      rw [List.getElem?_eq_getElem hi] at hz
      injection hz with hz
      rw [hz]; exact hz2
  | succ m ih =>
    intro n k h1 h2 h3 h4
    cases n with
    | zero => omega
    | succ n =>
      have hk : k < y.fF.length := by omega
      rw [cloop_succ]
      unfold law14_MatPicks_L2
      have hx := hy.2.2.2.2 _ (List.getElem_mem hk)
      obtain ⟨a, ha⟩ := Int.eq_ofNat_of_zero_le hx.1
      rw [if_pos (by omega), at?_get hk, ob_some, ha, Abs_spec, ob_some]
      by_cases hb : (2139095040 : Int) ≤ ((a % 2147483648 : Nat) : Int)
      · rw [if_pos hb]
      · rw [if_neg hb, wk_succ (by omega)]
        refine ih n (k + 1) (by omega) (by omega) (by omega) fun i hi => ?_
        by_cases hik : i = k
        · subst hik
          exact ⟨_, List.getElem?_eq_getElem hk, a, ha, by omega, by omega⟩
        · exact h4 i (by omega)
theorem law_5 (a0 : T_Tensor) (a1 : Int) (w0 : Q_31 a0) (w1 : (Lit.int .i64 a1).wf = true) : ∃ fu, law14_MatPicks fu a0 a1 = some true := by
  have hy := ten_of w0
  refine ⟨20000 + big a0 + 3, ?_⟩
  generalize hfu : 20000 + big a0 = fu
  have hF : Fuel (fu + 3) a0 := by unfold big at hfu; exact ⟨by omega, by omega, by omega, by omega⟩
  unfold law14_MatPicks
  rw [refCheck_spec hy.small hF, ob_some]
  by_cases hc : checkV a0 = 0
  · rw [if_pos hc]
    by_cases ht : a0.fType = 1
    · rw [if_pos ht]
      by_cases h2 : (a0.fDims.length : Int) = 2
      · rw [if_pos h2]
        obtain ⟨yn, yw, hd⟩ := two_of h2
        obtain ⟨gy, ly, my, iy, by_⟩ := lens_F ht hc
        rw [hd] at gy ly
        have nx := gy.2.1 yn (by simp)
        have wx := gy.2.1 yw (by simp)
        obtain ⟨n, rfl⟩ := Int.eq_ofNat_of_zero_le nx.1
        obtain ⟨w, rfl⟩ := Int.eq_ofNat_of_zero_le wx.1
        rw [hd]
        show (some (n : Int)).bind _ = _
        rw [ob_some]
        by_cases hn : (n : Int) = 0
        · rw [if_pos hn]
        · rw [if_neg hn]
          have ly' : a0.fF.length = n * w := by simp [prod] at ly; exact_mod_cast ly
          unfold law14_MatPicks_k1
          refine picksW2_spec hy my (by omega) fun hfin => ?_
          unfold law14_MatPicks_k2
          rw [hd]
          show (some (n : Int)).bind _ = _
          obtain ⟨b, hb, hb2⟩ := band_low (x := a1)
          obtain ⟨k, hk, hkn⟩ : ∃ k : Nat, Int.tmod (b : Int) (n : Int) = (k : Int) ∧ k < n := ⟨b % n, (Int.ofNat_tmod b n).symm, Nat.mod_lt _ (by omega)⟩
          rw [ob_some, chk_pos hn, chk_pos (by omega), hb, hk, Int.toNat_natCast, Int.toNat_natCast, chk_pos (by omega)]
          unfold law14_floats
          rw [ob_some]
          generalize hx2 : T_Tensor.mk 1 [(n : Int)] ((List.replicate n (0 : Int)).set k 1065353216) [] [] = x2
          have fx2 : x2.fF = (List.replicate n (0 : Int)).set k 1065353216 := by subst hx2; rfl
          have slen : ((List.replicate n (0 : Int)).set k 1065353216).length = n := by simp
          have hmem : ∀ z ∈ (List.replicate n (0 : Int)).set k 1065353216, Fin z := fun z hz => by
            rcases List.mem_or_eq_of_mem_set hz with h | h
            · rw [List.eq_of_mem_replicate h]; exact fin_zero
            · rw [h]; exact ⟨1065353216, rfl, by decide, by decide⟩
          have tx2 : Ten x2 := by
            subst hx2
            refine ⟨by simp, by show (List.set _ _ _).length * 4 ≤ _; omega, by simp, by simp, fun z hz => ?_⟩
            obtain ⟨m, rfl, h1, _⟩ := hmem z hz
            omega
          have gq : Good [(n : Int)] := ⟨by simp, fun z hz => gy.2.1 z (by simp at hz; simp [hz]), by simp [prod]; omega⟩
          have gw : Good [(w : Int)] := good_one gy
          have cx2 : checkV x2 = 0 := by
            subst hx2
            refine checkV_zero.2 ⟨.inl rfl, gq, ?_, ?_, ?_⟩
            · show ((List.set _ _ _).length : Int) = _; rw [slen, if_pos rfl]; simp [prod]
            · simp
            · simp
          have ok2 : OkM x2 a0 true [] 1 n false [] w [(w : Int)] := by
            refine ⟨by subst hx2; rfl, ht, cx2, hc, by subst hx2; exact .row _, ?_, rfl, by simp [bv_nil], gw⟩
            rw [hd]; exact .mat [] _ _
          have big2 : big x2 = 1 + n := by subst hx2; unfold big; show [(n : Int)].length + (List.set _ _ _).length + 0 + 0 = _; rw [slen]; simp
          have hD2 := Do_ok (s := noS) tx2 hy (fu := fu) (by omega) ok2
          unfold noS at hD2
          rw [hD2, ob_some, if_pos rfl, chk_pos (by simp)]
          rw [show subN [(n : Int), (w : Int)] (1 : Int).toNat [(n : Int), (w : Int)].length = [(w : Int)] from rfl, show (ansV x2 a0 [] 1 n [] w [(w : Int)], (0 : Int)).1.fDims = [(w : Int)] from rfl, SameInts_spec (by unfold Short; simp) (by simp only [List.length_cons, List.length_nil]; omega), ob_some, if_pos (by simp)]
          have hF2 : (ansV x2 a0 [] 1 n [] w [(w : Int)]).fF = (List.range w).map fun c => wantV (a0.fF.getD (k * w + c) 0) := by
            unfold ansV
            by_cases h0 : w = 0
            · subst h0; rw [if_pos (by simp [prod])]; rfl
            · have c1 : x2.fF.map canonF = x2.fF := by
                rw [fx2]
                conv => rhs; rw [← List.map_id ((List.replicate n (0 : Int)).set k 1065353216)]
                exact List.map_congr_left fun z hz => canon_fin (hmem z hz)
              have c2 : a0.fF.map canonF = a0.fF := by
                conv => rhs; rw [← List.map_id a0.fF]
                exact List.map_congr_left fun z hz => canon_fin (hfin z hz)
              rw [if_neg (by simp [prod]; omega), prodV_nil, c1, c2, fx2, pick_times hfin hkn]
          unfold law14_MatPicks_k3 law14_MatPicks_W1
          suffices key : ∀ c : Nat, c < w → ∀ nx : Int → Option Bool, law14_MatPicks_L1 (fu + 3) a0 a1 (n : Int) (ansV x2 a0 [] 1 n [] w [(w : Int)], 0) nx (c : Int) = nx ((c + 1 : Nat) : Int) by
            have : ∀ m n2 c : Nat, w - c = m → c ≤ w → m < n2 → cloop (fun next s => law14_MatPicks_L1 (fu + 3) a0 a1 (n : Int) (ansV x2 a0 [] 1 n [] w [(w : Int)], 0) next s) n2 (c : Int) = some true := by
              intro m
              induction m with
              | zero =>
                intro n2 c h1 h2 h3
                cases n2 with
                | zero => omega
                | succ n2 =>
                  have : c = w := by omega
                  subst this
                  rw [cloop_succ]
                  unfold law14_MatPicks_L1
                  rw [hd]
                  show (some (c : Int)).bind _ = _
                  rw [ob_some, if_neg (by omega)]
              | succ m ih =>
                intro n2 c h1 h2 h3
                cases n2 with
                | zero => omega
                | succ n2 =>
                  rw [cloop_succ, key c (by omega)]
                  exact ih n2 (c + 1) (by omega) (by omega) (by omega)
            exact this w (fu + 3) 0 (by omega) (by omega) (by omega)
          intro c hcw nx
          have hkw := blk_le (b := w) hkn
          have hi : k * w + c < a0.fF.length := by omega
          unfold law14_MatPicks_L1
          rw [hd]
          show (some (w : Int)).bind _ = _
          obtain ⟨v, hv, hv1, hv2⟩ := hfin _ (List.getElem_mem hi)
          rw [ob_some, if_pos (by omega), hb, hk, wk_nat_mul (by omega), wk_nat_add (by omega), at?_get hi, ob_some, hv, Abs_spec, ob_some]
          have hat : at? (ansV x2 a0 [] 1 n [] w [(w : Int)], (0 : Int)).1.fF (c : Int) = some (wantV (v : Int)) := by
            show at? (ansV x2 a0 [] 1 n [] w [(w : Int)]).fF (c : Int) = _
            rw [hF2, at?_nat, List.getElem?_map, List.getElem?_range hcw]
            show some (wantV (a0.fF.getD (k * w + c) 0)) = _
            rw [List.getD_eq_getElem?_getD, List.getElem?_eq_getElem hi, hv]; rfl
          have k4 : law14_MatPicks_k4 (fu + 3) nx (ansV x2 a0 [] 1 n [] w [(w : Int)], 0) (c : Int) (wantV (v : Int)) = nx ((c + 1 : Nat) : Int) := by
            unfold law14_MatPicks_k4
            rw [hat, ob_some, if_pos rfl, wk_succ (by omega)]
          rw [wantV_nat] at k4
          by_cases h0 : v % 2147483648 = 0
          · rw [if_pos (by omega)]; rw [if_pos h0] at k4; exact k4
          · rw [if_neg (by omega)]; rw [if_neg h0] at k4; exact k4
      · rw [if_neg h2]
    · rw [if_neg ht]
  · rw [if_neg hc]
end Go.Av
