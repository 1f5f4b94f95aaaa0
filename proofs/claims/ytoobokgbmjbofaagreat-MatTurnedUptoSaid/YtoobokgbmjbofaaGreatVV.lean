/- Layer 4, shapes: what the plain functions come to. Strides, indices, offsets. Copies. Layer 5: sameness, whether a tensor may be, copies whose no numbers are one. Lists of numbers alike. Shapes brought together. From a place to where it stands in a smaller shape; ShapeBoth: the law over the plain functions. Floats: a product and a sum always come to something. mat.Dot. Any tensors: as constant values; whether each may be. Sameness of two tensors. The document's sizes, indices and offsets. The document's new, checked and picked tensors. What infer tells of Gemm, for any values. What infer tells of Gemm: the dims. Lists that grow; things that stand a stride apart; places in what was brought together. What mat.gemm comes to. What mat.Do answers at Gemm. The document's Transpose of a matrix. A product told to turn, and that of the turned. Conditions: those that each names. -/
import Derived.Test.YtoobokgbmjbofaaGreatQS
import Derived.Test.YtoobokgbmjbofaaGreatPl
set_option linter.unusedVariables false
namespace Go.Av
def fstAt (p : Int → Bool) : Nat → List Int → Int
  | _, [] => -1
  | i, x :: l => if p x = true then i else fstAt p (i + 1) l
theorem fstAt_any (p : Int → Bool) : ∀ (l : List Int) (i : Nat), decide (0 ≤ fstAt p i l) = l.any p
  | [], i => rfl
  | x :: l, i => by
    simp only [fstAt, List.any_cons]
    by_cases h : p x = true
    · simp [h]
    · simp [h, ← fstAt_any p l (i + 1)]
def Short (l : List Int) : Prop := l.length ≤ 140737488355328
theorem wk_succ {k : Nat} (h : k ≤ 140737488355328) : wk .i64 ((k : Int) + 1) = ((k + 1 : Nat) : Int) := by rw [wk_eq (by omega) (by omega)]; omega
theorem IndexFunc_spec {fu : Nat} {l : List Int} {p : Int → Option Bool} {q : Int → Bool} (hp : ∀ x, p x = some (q x)) (hl : Short l) (hf : l.length < fu) : slices_IndexFunc_int fu l p = some (fstAt q 0 l) := by
  unfold slices_IndexFunc_int slices_IndexFunc_int.W1
  refine cloop_ind (fun (i : Int) => some (fstAt q i.toNat (l.drop i.toNat))) (fun i => 0 ≤ i ∧ i ≤ l.length) (fun i => l.length - i.toNat) ?_ fu 0 (by omega) (by simp; omega)
  rintro i ⟨h0, h1⟩ next hn
  obtain ⟨k, rfl⟩ := Int.eq_ofNat_of_zero_le h0
  unfold slices_IndexFunc_int.L1
  simp only [Int.toNat_natCast]
  by_cases hk : k < l.length
  · rw [if_pos (by omega), at?_get hk, ob_some, hp, ob_some, List.drop_eq_getElem_cons hk]
    simp only [fstAt]
    by_cases hq : q l[k] = true
    · rw [if_pos hq, if_pos hq]
    · rw [if_neg hq, if_neg hq, wk_succ (by unfold Short at hl; omega), hn _ (by omega) (by simp; omega)]
      simp
  · rw [if_neg (by omega), List.drop_of_length_le (by omega)]; rfl
theorem ContainsFunc_spec {fu : Nat} {l : List Int} {p : Int → Option Bool} {q : Int → Bool} (hp : ∀ x, p x = some (q x)) (hl : Short l) (hf : l.length < fu) : slices_ContainsFunc_int fu l p = some (l.any q) := by
  unfold slices_ContainsFunc_int
  rw [IndexFunc_spec hp hl hf, ob_some, fstAt_any]
theorem IndexI_spec {fu : Nat} {l : List Int} {x : Int} (hl : Short l) (hf : l.length < fu) : slices_Index_int fu l x = some (fstAt (fun y => decide (x = y)) 0 l) := by
  unfold slices_Index_int slices_Index_int.W1
  refine cloop_ind (fun (i : Int) => some (fstAt (fun y => decide (x = y)) i.toNat (l.drop i.toNat))) (fun i => 0 ≤ i ∧ i ≤ l.length) (fun i => l.length - i.toNat) ?_ fu 0 (by omega) (by simp; omega)
  rintro i ⟨h0, h1⟩ next hn
  obtain ⟨k, rfl⟩ := Int.eq_ofNat_of_zero_le h0
  unfold slices_Index_int.L1
  simp only [Int.toNat_natCast]
  by_cases hk : k < l.length
  · rw [if_pos (by omega), at?_get hk, ob_some, List.drop_eq_getElem_cons hk]
    simp only [fstAt]
    by_cases hq : x = l[k]
    · rw [if_pos hq, if_pos (by simpa using hq)]
    · rw [if_neg hq, if_neg (by simpa using hq), wk_succ (by unfold Short at hl; omega), hn _ (by omega) (by simp; omega)]
      simp
  · rw [if_neg (by omega), List.drop_of_length_le (by omega)]; rfl
theorem Contains_spec {fu : Nat} {l : List Int} {x : Int} (hl : Short l) (hf : l.length < fu) : slices_Contains_int fu l x = some (l.any fun y => decide (x = y)) := by
  unfold slices_Contains_int
  rw [IndexI_spec hl hf, ob_some, fstAt_any]
def prod : List Int → Int
  | [] => 1
  | x :: l => x * prod l
def Rng (l : List Int) : Prop := ∀ x ∈ l, 0 ≤ x ∧ x ≤ 4096
def Good (l : List Int) : Prop := l.length ≤ 8 ∧ Rng l ∧ prod l ≤ 4096
instance (l : List Int) : Decidable (Rng l) := by unfold Rng; infer_instance
instance (l : List Int) : Decidable (Good l) := by unfold Good; infer_instance
def errS (l : List Int) : Int := if l.any (fun x => decide (x < 0)) = true then 1 else 4
def sizeV (l : List Int) : Int × Int := if Good l then (prod l, 0) else (0, errS l)
theorem errS_ne (l : List Int) : errS l ≠ 0 := by unfold errS; split <;> decide
theorem prod_nonneg : ∀ {l : List Int}, Rng l → 0 ≤ prod l
  | [], _ => by decide
  | x :: l, h => Int.mul_nonneg (h x (by simp)).1 (prod_nonneg fun y hy => h y (by simp [hy]))
theorem prod_pos : ∀ {l : List Int}, (∀ x ∈ l, 1 ≤ x) → 1 ≤ prod l
  | [], _ => by decide
  | x :: l, h => by
    have h1 := h x (by simp)
    have h2 := prod_pos (l := l) fun y hy => h y (by simp [hy])
    have := Int.mul_le_mul h1 h2 (by decide) (by omega)
    simpa [prod] using this
theorem prod_zero : ∀ {l : List Int}, 0 ∈ l → prod l = 0
  | x :: l, h => by
    rcases List.mem_cons.1 h with rfl | h
    · simp [prod]
    · simp [prod, prod_zero h]
theorem div_lt_iff {m d : Int} (hm : 1 ≤ m) (hd : 0 ≤ d) : (Int.tdiv 4096 m < d) ↔ 4096 < m * d := by
  rw [Int.tdiv_eq_ediv_of_nonneg (by decide)]
  constructor
  · intro h
    have := Int.lt_mul_of_ediv_lt (by omega : 0 < m) h
    rwa [Int.mul_comm] at this
  · intro h
    exact Int.ediv_lt_of_lt_mul (by omega) (by rwa [Int.mul_comm])
theorem SizeW_spec {fu : Nat} {l : List Int} (hp : ∀ x ∈ l, 1 ≤ x ∧ x ≤ 4096) (hl : l.length ≤ 8) (hf : l.length < fu) : shape_Size.W1 fu l 1 0 = some (if prod l ≤ 4096 then (prod l, 0) else (0, 4)) := by
  unfold shape_Size.W1
  refine (cloop_ind (fun (s : Int × Int) => some (if s.1 * prod (l.drop s.2.toNat) ≤ 4096 then (s.1 * prod (l.drop s.2.toNat), 0) else (0, 4))) (fun s => 0 ≤ s.2 ∧ s.2 ≤ l.length ∧ 1 ≤ s.1 ∧ s.1 ≤ 4096) (fun s => l.length - s.2.toNat) ?_ fu (1, 0) (by simp) (by simp; omega)).trans (by simp)
  rintro ⟨m, i⟩ ⟨h0, h1, h2, h3⟩ next hn
  simp only at h0 h1 h2 h3 hn ⊢
  obtain ⟨k, rfl⟩ := Int.eq_ofNat_of_zero_le h0
  unfold shape_Size.L1
  simp only [Int.toNat_natCast]
  by_cases hk : k < l.length
  · obtain ⟨q1, q2⟩ := hp _ (List.getElem_mem hk)
    have t0 : 0 ≤ Int.tdiv 4096 m ∧ Int.tdiv 4096 m ≤ 4096 := by
      rw [Int.tdiv_eq_ediv_of_nonneg (by decide)]
      exact ⟨Int.ediv_nonneg (by decide) (by omega), Int.ediv_le_self _ (by decide)⟩
    rw [if_pos (by omega), at?_get hk, ob_some, chk_pos (by omega), wk_eq (by omega) (by omega), List.drop_eq_getElem_cons hk]
    have hpos : 1 ≤ prod (l.drop (k + 1)) := prod_pos fun x hx => (hp x (List.mem_of_mem_drop hx)).1
    have hge : 1 ≤ m * l[k] := by have := Int.mul_le_mul h2 q1 (by decide) (by omega); simpa using this
    simp only [prod, ← Int.mul_assoc]
    by_cases hd : Int.tdiv 4096 m < l[k]
    · rw [if_pos hd]
      rw [div_lt_iff h2 (by omega)] at hd
      have : m * l[k] * 1 ≤ m * l[k] * prod (l.drop (k + 1)) := Int.mul_le_mul_of_nonneg_left hpos (by omega)
      rw [if_neg (by omega)]
    · rw [if_neg hd]
      rw [div_lt_iff h2 (by omega)] at hd
      rw [wk_eq (by omega) (by omega), wk_succ (by omega), hn (m * l[k], ((k + 1 : Nat) : Int)) ⟨by simp only []; omega, by simp only []; omega, hge, by simp only []; omega⟩ (by simp; omega)]
      simp
  · rw [if_neg (by omega), List.drop_of_length_le (by omega)]
    simp only [prod, Int.mul_one]
    rw [if_pos h3]
theorem Size_spec {fu : Nat} {l : List Int} (hl : Short l) (hf : l.length < fu) : shape_Size fu l = some (sizeV l) := by
  unfold shape_Size; try unfold jn
  rw [ContainsFunc_spec (p := fun y0 => shape_Size_1 fu y0) (q := fun x => decide (x < 0)) (fun x => rfl) hl hf, ob_some]
  by_cases h1 : l.any (fun x => decide (x < 0)) = true
  · rw [if_pos h1]
    have hg : ¬ Good l := fun hg => by
      obtain ⟨x, hx, hx2⟩ := List.any_eq_true.1 h1
      have := (hg.2.1 x hx).1
      simp at hx2; omega
    simp only [sizeV, if_neg hg, errS, if_pos h1]
  rw [if_neg h1]
  have he : errS l = 4 := by simp only [errS, if_neg h1]
  by_cases h2 : 8 < (l.length : Int)
  · rw [if_pos h2]
    have hg : ¬ Good l := fun hg => by have := hg.1; omega
    simp only [sizeV, if_neg hg, he]
  rw [if_neg h2, ContainsFunc_spec (p := fun y0 => shape_Size_2 fu y0) (q := fun x => decide (4096 < x)) (fun x => rfl) hl hf, ob_some]
  by_cases h3 : l.any (fun x => decide (4096 < x)) = true
  · rw [if_pos h3]
    have hg : ¬ Good l := fun hg => by
      obtain ⟨x, hx, hx2⟩ := List.any_eq_true.1 h3
      have := (hg.2.1 x hx).2
      simp at hx2; omega
    simp only [sizeV, if_neg hg, he]
  rw [if_neg h3]
  have hr : Rng l := fun x hx => by
    simp only [List.any_eq_true, decide_eq_true_eq, not_exists, not_and] at h1 h3
    have := h1 x hx; have := h3 x hx; omega
  unfold shape_Size.k1
  rw [Contains_spec hl hf, ob_some]
  by_cases h4 : (l.any fun y => decide ((0 : Int) = y)) = true
  · rw [if_pos h4]
    have hz : (0 : Int) ∈ l := by
      obtain ⟨x, hx, hx2⟩ := List.any_eq_true.1 h4
      simp at hx2; subst hx2; exact hx
    have hg : Good l := ⟨by omega, hr, by rw [prod_zero hz]; decide⟩
    simp only [sizeV, if_pos hg, prod_zero hz]
  rw [if_neg h4]
  have hp : ∀ x ∈ l, 1 ≤ x ∧ x ≤ 4096 := fun x hx => by
    have := hr x hx
    simp only [List.any_eq_true, decide_eq_true_eq, not_exists, not_and] at h4
    have := h4 x hx; omega
  rw [SizeW_spec hp (by omega) hf]
  by_cases h5 : prod l ≤ 4096
  · have hg : Good l := ⟨by omega, hr, h5⟩
    simp only [sizeV, if_pos hg, if_pos h5]
  · have hg : ¬ Good l := fun hg => h5 hg.2.2
    simp only [sizeV, if_neg hg, if_neg h5, he]
end Go.Av
set_option linter.unusedVariables false
namespace Go.Av
def strdW : List Int → List Int
  | [] => []
  | _ :: l => wk .i64 (prod l) :: strdW l
theorem strdW_length : ∀ l, (strdW l).length = l.length
  | [] => rfl
  | _ :: l => by simp [strdW, strdW_length l]
theorem strdW_get : ∀ {l : List Int} {i : Nat} (h : i < l.length), (strdW l)[i]? = some (wk .i64 (prod (l.drop (i + 1))))
  | _ :: l, 0, _ => by simp [strdW]
  | _ :: l, i + 1, h => by
    have := strdW_get (l := l) (i := i) (by simpa using h)
    simpa [strdW] using this
theorem rep_set (i : Nat) (x : Int) (s : List Int) : (List.replicate (i + 1) 0 ++ s).set i x = List.replicate i 0 ++ x :: s := by
  rw [List.replicate_succ', List.append_assoc, List.set_append_right _ _ (by simp)]
  simp
theorem strides_spec {fu : Nat} {l : List Int} (hl : l.length * 8 ≤ 140737488355328) (hf : l.length < fu) : shape_strides fu l = some (strdW l) := by
  unfold shape_strides shape_strides.W1
  rw [chk_pos (by omega)]
  have hw : wk .i64 ((l.length : Int) - 1) = ((l.length : Int) - 1) := wk_eq (by omega) (by omega)
  rw [hw, Int.toNat_natCast]
  refine (cloop_ind (fun _ => some (strdW l)) (fun (s : List Int × Int × Int) => ∃ k : Nat, k ≤ l.length ∧ s = (List.replicate k 0 ++ strdW (l.drop k), wk .i64 (prod (l.drop k)), (k : Int) - 1)) (fun s => (s.2.2 + 1).toNat) ?_ fu _ ⟨l.length, Nat.le_refl _, by simp [strdW, prod]; decide⟩ (by simp; omega))
  rintro _ ⟨k, hk, rfl⟩ next hn
  unfold shape_strides.L1
  simp only
  match k, hk with
  | 0, _ => rw [if_neg (by decide)]; simp
  | k + 1, hk =>
    have e1 : (((k + 1 : Nat) : Int) - 1) = (k : Int) := by omega
    have hlen : (List.replicate (k + 1) (0 : Int) ++ strdW (l.drop (k + 1))).length = l.length := by simp [strdW_length]; omega
    rw [e1, if_pos (by omega), hlen, chk_pos (by omega), at?_get (by omega), ob_some, Int.toNat_natCast, rep_set, wk_mul_l, wk_eq (x := (k : Int) - 1) (by omega) (by omega)]
    refine hn _ ⟨k, by omega, ?_⟩ (by simp)
    rw [List.drop_eq_getElem_cons (by omega : k < l.length)]
    simp only [strdW, prod]
    rw [Int.mul_comm]
theorem prod_drop_le {l : List Int} (hp : ∀ x ∈ l, 1 ≤ x) : ∀ k, 1 ≤ prod (l.drop k) ∧ prod (l.drop k) ≤ prod l := by
  induction l with
  | nil => intro k; simp [prod]
  | cons x l ih =>
    intro k
    have hx := hp x (by simp)
    have ih' := ih fun y hy => hp y (by simp [hy])
    cases k with
    | zero => exact ⟨by simpa using prod_pos hp, by simp⟩
    | succ k =>
      obtain ⟨h1, h2⟩ := ih' k
      have h3 := prod_pos (l := l) fun y hy => hp y (by simp [hy])
      refine ⟨by simpa using h1, ?_⟩
      simp only [List.drop_succ_cons, prod]
      have : 1 * prod l ≤ x * prod l := Int.mul_le_mul_of_nonneg_right hx (by omega)
      omega
theorem pos_of_good {l : List Int} (hg : Good l) (h0 : prod l ≠ 0) : ∀ x ∈ l, 1 ≤ x := fun x hx => by
  have := (hg.2.1 x hx).1
  by_cases h : x = 0
  · subst h; exact absurd (prod_zero hx) h0
  · omega
theorem good_short {l : List Int} (hg : Good l) : l.length * 8 ≤ 140737488355328 := by have := hg.1; omega
def idxV : List Int → Int → List Int
  | [], _ => []
  | _ :: l, a => a / prod l :: idxV l (a % prod l)
theorem idxV_length : ∀ l a, (idxV l a).length = l.length
  | [], _ => rfl
  | _ :: l, a => by simp [idxV, idxV_length l]
theorem IndexW_spec {fu : Nat} {l : List Int} {a : Int} (hg : Good l) (hn0 : 1 ≤ prod l) (ha : 0 ≤ a) (ha2 : a ≤ 4096) (hf : l.length < fu) : shape_Index.W1 fu (strdW l) (List.replicate l.length 0) a 0 = some (idxV l a, 0) := by
  have hp := pos_of_good hg (by omega)
  have hd := prod_drop_le hp
  have hP := hg.2.2
  have hL := hg.1
  unfold shape_Index.W1
  refine (cloop_ind (fun s => some (s.1.take s.2.2.toNat ++ idxV (l.drop s.2.2.toNat) s.2.1, (0 : Int))) (fun (s : List Int × Int × Int) => 0 ≤ s.2.2 ∧ s.2.2 ≤ l.length ∧ s.1.length = l.length ∧ 0 ≤ s.2.1 ∧ s.2.1 ≤ 4096) (fun s => l.length - s.2.2.toNat) ?_ fu _ ⟨by simp, by simp, by simp, ha, ha2⟩ (by simp; omega)).trans (by simp)
  rintro ⟨o, b, i⟩ ⟨h0, h1, h2, h3, h4⟩ next hn
  simp only at h0 h1 h2 h3 h4 hn ⊢
  obtain ⟨k, rfl⟩ := Int.eq_ofNat_of_zero_le h0
  unfold shape_Index.L1
  simp only [Int.toNat_natCast, strdW_length]
  by_cases hk : k < l.length
  · obtain ⟨d1, d2⟩ := hd (k + 1)
    have hw : wk .i64 (prod (l.drop (k + 1))) = prod (l.drop (k + 1)) := wk_eq (by omega) (by omega)
    rw [if_pos (by omega), at?_nat, strdW_get hk, ob_some, hw]
    have q1 : Int.tdiv b (prod (l.drop (k + 1))) = b / prod (l.drop (k + 1)) := Int.tdiv_eq_ediv_of_nonneg h3
    have q2 : Int.tmod b (prod (l.drop (k + 1))) = b % prod (l.drop (k + 1)) := Int.tmod_eq_emod_of_nonneg h3
    have q3 : 0 ≤ b / prod (l.drop (k + 1)) := Int.ediv_nonneg h3 (by omega)
    have q4 : b / prod (l.drop (k + 1)) ≤ b := Int.ediv_le_self _ h3
    have q5 : 0 ≤ b % prod (l.drop (k + 1)) := Int.emod_nonneg _ (by omega)
    have q6 : b % prod (l.drop (k + 1)) < prod (l.drop (k + 1)) := Int.emod_lt_of_pos _ (by omega)
    rw [chk_pos (by omega), chk_pos (by omega), q1, q2, wk_eq (by omega) (by omega), wk_succ (by omega)]
    rw [hn (_, _, ((k + 1 : Nat) : Int)) ⟨by simp only []; omega, by simp only []; omega, by simp [h2], q5, by simp only []; omega⟩ (by simp; omega)]
    simp only [Int.toNat_natCast, Option.some.injEq, Prod.mk.injEq, and_true]
    rw [List.drop_eq_getElem_cons hk]
    simp only [idxV]
    rw [List.take_succ_eq_append_getElem (by simp; omega), List.append_assoc, List.take_set, List.set_eq_of_length_le (by simp; omega)]
    simp
  · rw [if_neg (by omega), List.drop_of_length_le (by omega), List.take_of_length_le (by omega)]
    simp [idxV]
def indexV (l : List Int) (a : Int) : List Int × Int := if Good l then (if 0 ≤ a ∧ a < prod l then (idxV l a, 0) else ([], 2)) else ([], errS l)
theorem Index_spec {fu : Nat} {l : List Int} {a : Int} (hl : Short l) (hf : l.length < fu) : shape_Index fu l a = some (indexV l a) := by
  unfold shape_Index; try unfold jn
  rw [Size_spec hl hf, ob_some]
  simp only [sizeV, indexV]
  by_cases hg : Good l
  · simp only [if_pos hg, if_true]
    by_cases h1 : a < 0
    · rw [if_pos h1, if_neg (by omega)]
    · rw [if_neg h1]
      by_cases h2 : prod l ≤ a
      · rw [if_pos h2, if_neg (by omega)]
      · rw [if_neg h2, if_pos (by omega)]
        unfold shape_Index.k1
        have := hg.1
        have := hg.2.2
        rw [chk_pos (by omega), strides_spec (good_short hg) hf, ob_some, Int.toNat_natCast, IndexW_spec hg (by omega) (by omega) (by omega) hf]
  · simp only [if_neg hg]
    rw [if_neg (errS_ne l)]
def okIx : List Int → List Int → Bool
  | d :: l, x :: xs => decide (0 ≤ x) && decide (x < d) && okIx l xs
  | _, _ => true
def offV : List Int → List Int → Int
  | _ :: l, x :: xs => x * prod l + offV l xs
  | _, _ => 0
theorem okIx_idx : ∀ {l : List Int} {a : Int}, (∀ x ∈ l, 1 ≤ x) → 0 ≤ a → a < prod l → okIx l (idxV l a) = true
  | [], _, _, _, _ => rfl
  | d :: l, a, hp, h0, h1 => by
    have hq : 1 ≤ prod l := prod_pos fun x hx => hp x (by simp [hx])
    have h2 : 0 ≤ a / prod l := Int.ediv_nonneg h0 (by omega)
    have h3 : a / prod l < d := Int.ediv_lt_of_lt_mul (by omega) h1
    have h4 := okIx_idx (l := l) (a := a % prod l) (fun x hx => hp x (by simp [hx])) (Int.emod_nonneg _ (by omega)) (Int.emod_lt_of_pos _ (by omega))
    simp [idxV, okIx, h2, h3, h4]
end Go.Av
set_option linter.unusedVariables false
namespace Go.Av
theorem Clone_spec {fu : Nat} {l : List Int} (h : l.length * 8 ≤ 140737488355328) : slices_Clone_int fu l = some l := by
  unfold slices_Clone_int
  rw [chk_pos (by omega)]
end Go.Av
set_option linter.unusedVariables false
namespace Go.Av
def sameT (a b : T_Tensor) : Bool := decide (a.fType = b.fType) && decide (a.fDims = b.fDims) && decide (a.fF = b.fF) && decide (a.fI = b.fI) && decide (a.fB = b.fB)
def Small (t : T_Tensor) : Prop := t.fDims.length * 8 ≤ 140737488351232 ∧ t.fF.length ≤ 140737488351232 ∧ t.fI.length ≤ 140737488351232 ∧ t.fB.length ≤ 140737488351232
def Fuel (fu : Nat) (t : T_Tensor) : Prop := t.fDims.length < fu ∧ t.fF.length < fu ∧ t.fI.length < fu ∧ t.fB.length < fu
theorem sameT_self (a : T_Tensor) : sameT a a = true := by simp [sameT]
def noT : T_Tensor := ⟨0, [], [], [], []⟩
theorem known_spec {fu : Nat} {k : Int} : tens_known fu k = some (decide (k = 1 ∨ k = 7 ∨ k = 9)) := by
  unfold tens_known tens_Width
  by_cases h1 : k = 1
  · simp [h1]
  · by_cases h2 : k = 7
    · simp [h2]
    · by_cases h3 : k = 9 <;> simp [h1, h2, h3]
def Known (k : Int) : Prop := k = 1 ∨ k = 7 ∨ k = 9
instance (k : Int) : Decidable (Known k) := by unfold Known; infer_instance
def LensOK (t : T_Tensor) : Prop := (t.fF.length : Int) = (if t.fType = 1 then prod t.fDims else 0) ∧ (t.fI.length : Int) = (if t.fType = 7 then prod t.fDims else 0) ∧ (t.fB.length : Int) = (if t.fType = 9 then prod t.fDims else 0)
instance (t : T_Tensor) : Decidable (LensOK t) := by unfold LensOK; infer_instance
def checkV (t : T_Tensor) : Int := if Known t.fType then (if Good t.fDims then (if LensOK t then 0 else 3) else errS t.fDims) else 5
theorem Check_spec {fu : Nat} {t : T_Tensor} (hs : Small t) (hf : Fuel fu t) : tens_Check fu t = some (checkV t) := by
  obtain ⟨s1, s2, s3, s4⟩ := hs
  unfold tens_Check checkV; try unfold jn
  rw [known_spec, ob_some, Size_spec (by unfold Short; omega) hf.1]
  by_cases hk : Known t.fType
  · rw [if_pos (by simpa [Known] using hk), ob_some, if_pos hk]
    simp only [sizeV]
    by_cases hg : Good t.fDims
    · simp only [if_pos hg, if_true]
      have hp := prod_nonneg hg.2.1
      have hsum : wk .i64 ((wk .i64 ((t.fF.length : Int) + (t.fI.length : Int))) + (t.fB.length : Int)) = t.fF.length + t.fI.length + t.fB.length := by
        rw [wk_add_l, wk_eq (by omega) (by omega)]
      unfold tens_Check.k1 LensOK
      simp only [hsum]
      rcases hk with e | e | e
      · simp only [e, show ¬ (1 : Int) = 7 by decide, show ¬ (1 : Int) = 9 by decide, if_false, if_true]
        by_cases h1 : (t.fF.length : Int) = prod t.fDims
        · by_cases h2 : (t.fF.length : Int) + t.fI.length + t.fB.length = prod t.fDims
          · rw [if_pos h1, if_pos h2, if_pos ⟨h1, by omega, by omega⟩]
          · rw [if_pos h1, if_neg h2, if_neg (fun h => h2 (by omega))]
        · rw [if_neg h1, if_neg (fun h => h1 h.1)]
      · simp only [e, show ¬ (7 : Int) = 1 by decide, show ¬ (7 : Int) = 9 by decide, if_false, if_true]
        by_cases h1 : (t.fI.length : Int) = prod t.fDims
        · by_cases h2 : (t.fF.length : Int) + t.fI.length + t.fB.length = prod t.fDims
          · rw [if_pos h1, if_pos h2, if_pos ⟨by omega, h1, by omega⟩]
          · rw [if_pos h1, if_neg h2, if_neg (fun h => h2 (by omega))]
        · rw [if_neg h1, if_neg (fun h => h1 h.2.1)]
      · simp only [e, show ¬ (9 : Int) = 1 by decide, show ¬ (9 : Int) = 7 by decide, if_false, if_true]
        by_cases h1 : (t.fB.length : Int) = prod t.fDims
        · by_cases h2 : (t.fF.length : Int) + t.fI.length + t.fB.length = prod t.fDims
          · rw [if_pos h1, if_pos h2, if_pos ⟨by omega, by omega, h1⟩]
          · rw [if_pos h1, if_neg h2, if_neg (fun h => h2 (by omega))]
        · rw [if_neg h1, if_neg (fun h => h1 h.2.2)]
    · simp only [if_neg hg]
      rw [if_neg (errS_ne _)]
  · rw [if_neg (by simpa [Known] using hk), if_neg hk]
theorem checkV_zero {t : T_Tensor} : checkV t = 0 ↔ Known t.fType ∧ Good t.fDims ∧ LensOK t := by
  unfold checkV
  by_cases hk : Known t.fType <;> by_cases hg : Good t.fDims <;> by_cases hl : LensOK t <;> simp [hk, hg, hl, errS_ne]
theorem map_loop {β : Type} {l : List Int} {f : Int → Int} {B : ((List Int × Int) → Option β) → (List Int × Int) → Option β} {c : List Int → Option β} {fu : Nat} (hf : l.length < fu)
    (hB : ∀ (next : List Int × Int → Option β) (k : Nat) (m : List Int) (hk : k < l.length), m.length = l.length → (hm : m[k]? = some l[k]) → B next (m, (k : Int)) = next (m.set k (f l[k]), ((k + 1 : Nat) : Int)))
    (hE : ∀ next (m : List Int), m.length = l.length → B next (m, (l.length : Int)) = c m) : cloop B fu (l, 0) = c (l.map f) := by
  have := cloop_up (body := B) (n := fu) l.length (fun k => (l.take k).map f ++ l.drop k) (c (l.map f)) ?_ ?_ hf
  · simpa using this
  · intro k hk next hn
    have hlk : ((l.take k).map f).length = k := by simp; omega
    rw [hB next k _ hk (by simp; omega) (by rw [List.getElem?_append_right (by omega), hlk, Nat.sub_self, List.getElem?_drop]; simp [hk])]
    have e : ((l.take k).map f ++ l.drop k).set k (f l[k]) = (l.take (k + 1)).map f ++ l.drop (k + 1) := by
      rw [List.set_append_right _ _ (by omega), hlk, Nat.sub_self, List.drop_eq_getElem_cons hk, List.set_cons_zero, List.take_add_one, List.getElem?_eq_getElem hk, List.map_append, List.append_assoc]
      rfl
    rw [e]
    exact hn
  · intro next
    rw [hE _ _ (by simp)]
    simp
def canonF (x : Int) : Int := if 2139095040 < x % 2147483648 then 2143289344 else x
def canonT (t : T_Tensor) : T_Tensor := ⟨t.fType, t.fDims, t.fF.map canonF, t.fI, t.fB⟩
theorem wk_eq32 {x : Int} (h0 : 0 ≤ x) (h1 : x < 4294967296) : wk .u32 x = x := by
  have : wk .u32 x = x % 4294967296 := by simp [wk, IntKind.wrap, IntKind.signed, IntKind.bits]
  rw [this, Int.emod_eq_of_lt h0 h1]
theorem abs_u32 {x : Int} (h0 : 0 ≤ x) (h1 : x < 4294967296) : bandn .u32 x 2147483648 = x % 2147483648 := by
  unfold bandn
  rw [show IntKind.u32.bits = 32 from rfl, show ~~~(BitVec.ofInt 32 2147483648) = BitVec.ofNat 32 (2 ^ 31 - 1) by decide, BitVec.toNat_and, BitVec.toNat_ofNat, BitVec.toNat_ofInt]
  have : (2 ^ 31 - 1) % 2 ^ 32 = 2 ^ 31 - 1 := by decide
  rw [this, Nat.and_two_pow_sub_one_eq_mod]
  have hw := wk_eq32 (x := (((x % ((2 ^ 32 : Nat) : Int)).toNat % 2 ^ 31 : Nat) : Int)) (by omega) (by omega)
  unfold wk at hw
  rw [hw]
  omega
theorem softCanon_spec {fu : Nat} {x : Int} (h0 : 0 ≤ x) (h1 : x < 4294967296) : soft_Canon fu x = some (canonF x) := by
  unfold soft_Canon soft_NaN soft_Abs canonF
  rw [abs_u32 h0 h1, ob_some, ob_some]
  by_cases h : 2139095040 < x % 2147483648 <;> simp [h]
def Ten (t : T_Tensor) : Prop := t.fDims.length * 8 ≤ 140737488351232 ∧ t.fF.length * 4 ≤ 140737488351232 ∧ t.fI.length * 8 ≤ 140737488351232 ∧ t.fB.length ≤ 140737488351232 ∧ ∀ x ∈ t.fF, 0 ≤ x ∧ x < 4294967296
theorem Ten.small {t : T_Tensor} (h : Ten t) : Small t := by obtain ⟨a, b, c, d, _⟩ := h; exact ⟨a, by omega, by omega, by omega⟩
theorem Copy_spec {fu : Nat} {t : T_Tensor} (h : Ten t) : tens_Copy fu t = some t := by
  obtain ⟨h1, h2, h3, h4, _⟩ := h
  unfold tens_Copy tens_own_int tens_own_uint32 tens_own_int64 tens_own_bool
  rw [chk_pos (by omega), ob_some, chk_pos (by omega), ob_some, chk_pos (by omega), ob_some, chk_pos (by omega), ob_some]
theorem Canon_spec {fu : Nat} {t : T_Tensor} (h : Ten t) (hf : t.fF.length < fu) : tens_Canon fu t = some (canonT t) := by
  have hu := h.2.2.2.2
  have hl := h.2.1
  unfold tens_Canon
  rw [Copy_spec h, ob_some]
  unfold tens_Canon.W1
  refine map_loop (f := canonF) (c := fun m => some (T_Tensor.mk t.fType t.fDims m t.fI t.fB)) hf ?_ ?_
  · intro next k m hk hm hg
    unfold tens_Canon.L1
    simp only []
    obtain ⟨u1, u2⟩ := hu _ (List.getElem_mem hk)
    rw [if_pos (by omega), at?_nat, hg, ob_some, softCanon_spec u1 u2, ob_some, chk_pos (by omega), wk_succ (by omega)]
    rfl
  · intro next m hm
    unfold tens_Canon.L1
    rw [if_neg (by simp)]
end Go.Av
set_option linter.unusedVariables false
namespace Go.Av
theorem drop_same {a b : List Int} {i : Nat} (ha : i < a.length) (hb : i < b.length) : a.drop i = b.drop i ↔ a[i] = b[i] ∧ a.drop (i + 1) = b.drop (i + 1) := by
  rw [List.drop_eq_getElem_cons ha, List.drop_eq_getElem_cons hb]
  exact List.cons_eq_cons
theorem SameInts_spec {fu : Nat} {a b : List Int} (hl : Short a) (hf : a.length < fu) : ref04_SameInts fu a b = some (decide (a = b)) := by
  unfold ref04_SameInts ref04_SameInts.W1
  by_cases hlen : a.length = b.length
  · rw [if_pos (by omega)]
    refine (cloop_ind (fun (i : Int) => some (decide (a.drop i.toNat = b.drop i.toNat))) (fun i => 0 ≤ i ∧ i ≤ a.length) (fun i => a.length - i.toNat) ?_ fu 0 (by simp) (by simp; omega)).trans (by simp)
    rintro i ⟨h0, h1⟩ next hn
    obtain ⟨k, rfl⟩ := Int.eq_ofNat_of_zero_le h0
    unfold ref04_SameInts.L1
    simp only [Int.toNat_natCast]
    by_cases hk : k < a.length
    · rw [if_pos (by omega), at?_get hk, ob_some, at?_get (by omega : k < b.length), ob_some, wk_succ (by unfold Short at hl; omega)]
      have hd := drop_same hk (by omega : k < b.length)
      by_cases he : a[k] = b[k]
      · rw [if_pos he, hn _ (by omega) (by simp; omega)]
        simp [hd, he]
      · rw [if_neg he]
        simp [hd, he]
    · rw [if_neg (by omega)]
      have e1 : a.drop k = b.drop k := by rw [List.drop_of_length_le (by omega), List.drop_of_length_le (by omega)]
      simp [e1]
  · rw [if_neg (by omega)]
    have : ¬ a = b := fun h => hlen (by rw [h])
    simp [this]
end Go.Av
set_option linter.unusedVariables false
namespace Go.Av
theorem Equal_spec {fu : Nat} {a b : List Int} (hl : Short a) (hf : a.length < fu) : slices_Equal_int fu a b = some (decide (a = b)) := by
  unfold slices_Equal_int slices_Equal_int.W1
  by_cases hlen : a.length = b.length
  · rw [if_pos (by omega)]
    refine (cloop_ind (fun (i : Int) => some (decide (a.drop i.toNat = b.drop i.toNat))) (fun i => 0 ≤ i ∧ i ≤ a.length) (fun i => a.length - i.toNat) ?_ fu 0 (by simp) (by simp; omega)).trans (by simp)
    rintro i ⟨h0, h1⟩ next hn
    obtain ⟨k, rfl⟩ := Int.eq_ofNat_of_zero_le h0
    unfold slices_Equal_int.L1
    simp only [Int.toNat_natCast]
    by_cases hk : k < a.length
    · rw [if_pos (by omega), at?_get hk, ob_some, at?_get (by omega : k < b.length), ob_some, wk_succ (by unfold Short at hl; omega)]
      have hd := drop_same hk (by omega : k < b.length)
      by_cases he : a[k] = b[k]
      · rw [if_pos he, hn _ (by omega) (by simp; omega)]
        simp [hd, he]
      · rw [if_neg he]
        simp [hd, he]
    · rw [if_neg (by omega)]
      have e1 : a.drop k = b.drop k := by rw [List.drop_of_length_le (by omega), List.drop_of_length_le (by omega)]
      simp [e1]
  · rw [if_neg (by omega)]
    have : ¬ a = b := fun h => hlen (by rw [h])
    simp [this]
def zipB : List Int → List Int → Option (List Int)
  | x :: a, d :: b => if x = 1 then (zipB a b).map (d :: ·) else if d = 1 ∨ d = x then (zipB a b).map (x :: ·) else none
  | _, _ => some []
def bc' (a b : List Int) : Option (List Int) := (zipB (a.drop (a.length - b.length)) b).map (a.take (a.length - b.length) ++ ·)
def bc (a b : List Int) : Option (List Int) := if a.length < b.length then bc' b a else bc' a b
def broadcastV (a b : List Int) : List Int × Int :=
  if Good a then (if Good b then (match bc a b with
    | some l => if Good l then (l, 0) else ([], errS l)
    | none => ([], 3)) else ([], errS b)) else ([], errS a)
theorem zipB_length : ∀ {a b r : List Int}, a.length = b.length → zipB a b = some r → r.length = b.length
  | [], [], r, _, h => by simp [zipB] at h; subst h; rfl
  | x :: a, d :: b, r, hl, h => by
    simp only [zipB] at h
    have hl' : a.length = b.length := by simpa using hl
    split at h
    · simp only [Option.map_eq_some_iff] at h
      obtain ⟨q, hq, rfl⟩ := h
      simp [zipB_length hl' hq]
    · split at h
      · simp only [Option.map_eq_some_iff] at h
        obtain ⟨q, hq, rfl⟩ := h
        simp [zipB_length hl' hq]
      · cases h
theorem bc'_length {a b r : List Int} (hl : b.length ≤ a.length) (h : bc' a b = some r) : r.length = a.length := by
  unfold bc' at h
  simp only [Option.map_eq_some_iff] at h
  obtain ⟨q, hq, rfl⟩ := h
  have := zipB_length (by simp; omega) hq
  simp; omega
theorem k3_spec {fu : Nat} {l : List Int} (hl : Short l) (hf : l.length < fu) : shape_Broadcast.k3 fu l = some (if Good l then (l, 0) else ([], errS l)) := by
  unfold shape_Broadcast.k3
  rw [Size_spec hl hf, ob_some]
  simp only [sizeV]
  by_cases hg : Good l
  · simp only [if_pos hg, if_true]
  · simp only [if_neg hg]
    rw [if_neg (errS_ne l)]
theorem BW_spec {fu : Nat} {a b : List Int} (ha : a.length ≤ 8) (hl : b.length ≤ a.length) (hf : 9 < fu) : shape_Broadcast.W1 fu a b a 0 = some (match bc' a b with
    | some l => if Good l then (l, 0) else ([], errS l)
    | none => ([], 3)) := by
  unfold shape_Broadcast.W1
  have key : ∀ l : List Int, l.length = a.length → shape_Broadcast.k3 fu l = some (if Good l then (l, 0) else ([], errS l)) := fun l h => k3_spec (by unfold Short; omega) (by omega)
  have hah : wk .i64 ((a.length : Int) - (b.length : Int)) = ((a.length - b.length : Nat) : Int) := by rw [wk_eq (by omega) (by omega)]; omega
  generalize hA : a.length - b.length = A at hah
  refine (cloop_ind (fun (s : List Int × Int) => some (match (zipB (s.1.drop (A + s.2.toNat)) (b.drop s.2.toNat)).map (s.1.take (A + s.2.toNat) ++ ·) with
    | some l => if Good l then (l, 0) else ([], errS l)
    | none => ([], 3))) (fun s => 0 ≤ s.2 ∧ s.2 ≤ b.length ∧ s.1.length = a.length) (fun s => b.length - s.2.toNat) ?_ fu (a, 0) ⟨by simp, by simp, rfl⟩ (by simp; omega)).trans (by simp [bc', hA])
  rintro ⟨o, i⟩ ⟨h0, h1, h2⟩ next hn
  simp only at h0 h1 h2 hn ⊢
  obtain ⟨k, rfl⟩ := Int.eq_ofNat_of_zero_le h0
  unfold shape_Broadcast.L1
  simp only [Int.toNat_natCast, hah]
  have hidx : wk .i64 ((A : Int) + (k : Int)) = ((A + k : Nat) : Int) := by rw [wk_eq (by omega) (by omega)]; omega
  by_cases hk : k < b.length
  · have hko : A + k < o.length := by omega
    rw [if_pos (by omega), at?_get hk, ob_some, hidx, at?_get hko, ob_some, wk_succ (by omega), Int.toNat_natCast]
    rw [List.drop_eq_getElem_cons hko, List.drop_eq_getElem_cons hk]
    simp only [zipB]
    have hnext : ∀ o' : List Int, o'.length = a.length → next (o', ((k + 1 : Nat) : Int)) = _ := fun o' ho' => hn (o', ((k + 1 : Nat) : Int)) ⟨by simp only []; omega, by simp only []; omega, ho'⟩ (by simp; omega)
    simp only [Int.toNat_natCast] at hnext
    by_cases h3 : o[A + k] = 1
    · rw [if_pos h3, if_pos h3, chk_pos (by omega), hnext _ (by simp [h2])]
      have e1 : (o.set (A + k) b[k]).drop (A + (k + 1)) = o.drop (A + k + 1) := by
        rw [List.drop_set_of_lt (by omega)]; rfl
      have e2 : (o.set (A + k) b[k]).take (A + (k + 1)) = o.take (A + k) ++ [b[k]] := by
        rw [← Nat.add_assoc, List.take_succ_eq_append_getElem (by simp; omega), List.take_set, List.set_eq_of_length_le (by simp; omega)]
        simp
      rw [e1, e2]
      cases zipB (o.drop (A + k + 1)) (b.drop (k + 1)) <;> simp
    · rw [if_neg h3, if_neg h3]
      have e2 : o.take (A + (k + 1)) = o.take (A + k) ++ [o[A + k]] := by
        rw [← Nat.add_assoc, List.take_succ_eq_append_getElem hko]
      by_cases h4 : b[k] = 1
      · rw [if_pos h4, if_pos (.inl h4), hnext _ h2, e2]
        cases zipB (o.drop (A + k + 1)) (b.drop (k + 1)) with
        | none => rfl
        | some r => simp only [Option.map_some, List.append_assoc, List.cons_append, List.nil_append]
      · rw [if_neg h4]
        by_cases h5 : b[k] = o[A + k]
        · rw [if_pos h5, if_pos (.inr h5), hnext _ h2, e2]
          cases zipB (o.drop (A + k + 1)) (b.drop (k + 1)) with
          | none => rfl
          | some r => simp only [Option.map_some, List.append_assoc, List.cons_append, List.nil_append]
        · rw [if_neg h5, if_neg (fun h => h.elim h4 h5)]
          rfl
  · rw [if_neg (by omega), key o h2, List.drop_of_length_le (by omega), List.drop_of_length_le (by omega), List.take_of_length_le (by omega)]
    simp [zipB]
theorem Broadcast_spec {fu : Nat} {a b : List Int} (ha : Short a) (hb : Short b) (hfa : a.length < fu) (hfb : b.length < fu) (hf : 9 < fu) : shape_Broadcast fu a b = some (broadcastV a b) := by
  unfold shape_Broadcast shape_Broadcast.W2; (try unfold jn)
  have hk1 : Good a → Good b → ∀ z, shape_Broadcast.k1 fu a b z = some (broadcastV a b) := by
    intro ga gb z
    unfold shape_Broadcast.k1 shape_Broadcast.k2; (try unfold jn)
    simp only [broadcastV, if_pos ga, if_pos gb, bc]
    by_cases hlt : a.length < b.length
    · rw [if_pos (by omega), if_pos hlt, Clone_spec (good_short gb), ob_some, BW_spec gb.1 (by omega) hf]
    · rw [if_neg (by omega), if_neg hlt, Clone_spec (good_short ga), ob_some, BW_spec ga.1 (by omega) hf]
  obtain ⟨f, rfl⟩ : ∃ f, fu = f + 3 := ⟨fu - 3, by omega⟩
  have h0 : at? [a, b] (0 : Int) = some a := rfl
  have h1 : at? [a, b] (1 : Int) = some b := rfl
  have w0 : wk .i64 ((0 : Int) + 1) = 1 := by decide
  have w1 : wk .i64 ((1 : Int) + 1) = 2 := by decide
  unfold cloop shape_Broadcast.L2
  simp only
  rw [if_pos (by decide), h0, ob_some, Size_spec ha hfa, ob_some]
  simp only [sizeV]
  by_cases ga : Good a
  · simp only [if_pos ga, if_true, w0]
    unfold cloop
    simp only
    rw [if_pos (by decide), h1, ob_some, Size_spec hb hfb, ob_some]
    simp only [sizeV]
    by_cases gb : Good b
    · simp only [if_pos gb, if_true, w1]
      unfold cloop
      simp only
      rw [if_neg (by decide), hk1 ga gb]
    · simp only [if_neg gb]
      rw [if_neg (errS_ne b)]
      simp [broadcastV, ga, gb]
  · simp only [if_neg ga]
    rw [if_neg (errS_ne a)]
    simp [broadcastV, ga]
end Go.Av
set_option linter.unusedVariables false
namespace Go.Av
theorem zipB_comm : ∀ {a b : List Int}, a.length = b.length → zipB a b = zipB b a
  | [], [], _ => rfl
  | x :: a, d :: b, h => by
    have ih := zipB_comm (a := a) (b := b) (by simpa using h)
    simp only [zipB, ih]
    by_cases h1 : x = 1 <;> by_cases h2 : d = 1
    · subst h1 h2; rfl
    · subst h1; simp [h2]
    · subst h2; simp [h1]
    · by_cases h3 : d = x
      · subst h3; simp [h1]
      · have h4 : ¬ x = d := fun h => h3 h.symm
        simp [h1, h2, h3, h4]
theorem bc_comm {a b : List Int} : bc a b = bc b a := by
  unfold bc
  by_cases h1 : a.length < b.length
  · rw [if_pos h1, if_neg (by omega)]
  · rw [if_neg h1]
    by_cases h2 : b.length < a.length
    · rw [if_pos h2]
    · rw [if_neg h2]
      have hl : a.length = b.length := by omega
      unfold bc'
      rw [hl]
      simp [zipB_comm hl]
theorem zipB_self : ∀ {r : List Int}, zipB r r = some r
  | [] => rfl
  | x :: r => by
    simp only [zipB, zipB_self (r := r)]
    by_cases h : x = 1
    · simp [h]
    · simp [h]
theorem zipB_right : ∀ {a b r : List Int}, a.length = b.length → zipB a b = some r → zipB r b = some r
  | [], [], r, _, h => by simp [zipB] at h; subst h; rfl
  | x :: a, d :: b, r, hl, h => by
    simp only [zipB] at h
    have hl' : a.length = b.length := by simpa using hl
    split at h
    · simp only [Option.map_eq_some_iff] at h
      obtain ⟨q, hq, rfl⟩ := h
      have ih := zipB_right hl' hq
      simp only [zipB, ih]
      by_cases h1 : d = 1 <;> simp [h1]
    · split at h
      · rename_i hx hd
        simp only [Option.map_eq_some_iff] at h
        obtain ⟨q, hq, rfl⟩ := h
        have ih := zipB_right hl' hq
        simp only [zipB, ih, if_neg hx, if_pos hd]
        rfl
      · cases h
theorem bc'_right {a b r : List Int} (hl : b.length ≤ a.length) (h : bc' a b = some r) : bc' r b = some r := by
  have hrl := bc'_length hl h
  unfold bc' at h ⊢
  simp only [Option.map_eq_some_iff] at h
  obtain ⟨q, hq, rfl⟩ := h
  have hda : (a.drop (a.length - b.length)).length = b.length := by simp; omega
  have hz := zipB_right hda hq
  rw [hrl]
  have hpl : (a.take (a.length - b.length)).length = a.length - b.length := by simp
  have e1 : (a.take (a.length - b.length) ++ q).drop (a.length - b.length) = q := by
    rw [List.drop_append_of_le_length (by omega), List.drop_of_length_le (by omega)]; rfl
  have e2 : (a.take (a.length - b.length) ++ q).take (a.length - b.length) = a.take (a.length - b.length) := by
    rw [List.take_append_of_le_length (by omega), List.take_of_length_le (by omega)]
  rw [e1, e2, hz]; rfl
theorem bc'_left {a b r : List Int} (hl : b.length ≤ a.length) (h : bc' a b = some r) : bc' r a = some r := by
  have hrl := bc'_length hl h
  unfold bc' at h ⊢
  simp only [Option.map_eq_some_iff] at h
  obtain ⟨q, hq, rfl⟩ := h
  have hda : (a.drop (a.length - b.length)).length = b.length := by simp; omega
  rw [zipB_comm hda] at hq
  have hz := zipB_right hda.symm hq
  rw [hrl, Nat.sub_self, List.drop_zero, List.take_zero]
  have key : ∀ (p q s : List Int), zipB q s = some q → zipB (p ++ q) (p ++ s) = some (p ++ q) := by
    intro p
    induction p with
    | nil => intro q s h; exact h
    | cons x p ih =>
      intro q s h
      simp only [List.cons_append, zipB, ih q s h]
      by_cases h1 : x = 1 <;> simp [h1]
  have := key (a.take (a.length - b.length)) q (a.drop (a.length - b.length)) hz
  rw [List.take_append_drop] at this
  rw [this]; rfl
theorem bc_left {a b r : List Int} (h : bc a b = some r) : bc r a = some r ∧ bc b r = some r ∧ bc r r = some r ∧ a.length ≤ r.length ∧ b.length ≤ r.length ∧ r.length = max a.length b.length := by
  have hrr : bc r r = some r := by simp [bc, bc', zipB_self]
  unfold bc at h
  by_cases hlt : a.length < b.length
  · rw [if_pos hlt] at h
    have hrl := bc'_length (by omega) h
    have h1 := bc'_right (by omega) h
    have h2 := bc'_left (by omega) h
    refine ⟨by unfold bc; rw [if_neg (by omega)]; exact h1, ?_, hrr, by omega, by omega, by omega⟩
    rw [bc_comm]
    unfold bc; rw [if_neg (by omega)]; exact h2
  · rw [if_neg hlt] at h
    have hrl := bc'_length (by omega) h
    have h1 := bc'_right (by omega) h
    have h2 := bc'_left (by omega) h
    refine ⟨by unfold bc; rw [if_neg (by omega)]; exact h2, ?_, hrr, by omega, by omega, by omega⟩
    rw [bc_comm]
    unfold bc; rw [if_neg (by omega)]; exact h1
def fromS : List Int → List Int → Int
  | d :: l, x :: xs => (if d = 1 then 0 else x * prod l) + fromS l xs
  | _, _ => 0
def fromV (s l : List Int) (a : Int) : Int × Int :=
  if Good s then (if Good l then (if broadcastV s l = (l, 0) then (if 0 ≤ a ∧ a < prod l then (fromS s ((idxV l a).drop (l.length - s.length)), 0) else (0, 2)) else (0, 3)) else (0, errS l)) else (0, errS s)
def dimsFit : List Int → List Int → Prop
  | d :: s, x :: l => (d = 1 ∨ d = x) ∧ dimsFit s l
  | _, _ => True
theorem zipB_fit : ∀ {a b : List Int}, a.length = b.length → zipB a b = some a → dimsFit b a
  | [], [], _, _ => trivial
  | x :: a, d :: b, hl, h => by
    simp only [zipB] at h
    have hl' : a.length = b.length := by simpa using hl
    split at h
    · rename_i hx
      simp only [Option.map_eq_some_iff] at h
      obtain ⟨q, hq, he⟩ := h
      injection he with h1 h2
      subst h2
      exact ⟨.inr h1, zipB_fit hl' hq⟩
    · split at h
      · rename_i hx hd
        simp only [Option.map_eq_some_iff] at h
        obtain ⟨q, hq, he⟩ := h
        injection he with h1 h2
        subst h2
        exact ⟨hd, zipB_fit hl' hq⟩
      · cases h
theorem bcast_fit {s l : List Int} (hs : Good s) (hlg : Good l) (h : broadcastV s l = (l, 0)) : s.length ≤ l.length ∧ bc s l = some l ∧ dimsFit s (l.drop (l.length - s.length)) := by
  simp only [broadcastV, if_pos hs, if_pos hlg] at h
  cases hb : bc s l with
  | none => rw [hb] at h; simp at h
  | some r =>
    rw [hb] at h
    simp only at h
    have hr : r = l := by
      split at h
      · exact (Prod.mk.inj h).1
      · exact absurd (Prod.mk.inj h).2 (errS_ne r)
    subst hr
    obtain ⟨h1, _, _, h4, _, _⟩ := bc_left hb
    refine ⟨h4, rfl, ?_⟩
    unfold bc at h1
    rw [if_neg (by omega)] at h1
    unfold bc' at h1
    simp only [Option.map_eq_some_iff] at h1
    obtain ⟨q, hq, he⟩ := h1
    have : q = r.drop (r.length - s.length) := by
      have := congrArg (List.drop (r.length - s.length)) he
      rwa [List.drop_append_of_le_length (by simp), List.drop_of_length_le (by simp), List.nil_append] at this
    rw [this] at hq
    exact zipB_fit (by simp; omega) hq
theorem okIx_drop : ∀ (k : Nat) {l xs : List Int}, okIx l xs = true → okIx (l.drop k) (xs.drop k) = true
  | 0, _, _, h => by simpa using h
  | k + 1, [], xs, h => by simp [okIx]
  | k + 1, _ :: _, [], h => by cases h' : (List.drop (k + 1) _ : List Int) <;> simp [okIx]
  | k + 1, d :: l, x :: xs, h => by
    simp only [okIx, Bool.and_eq_true] at h
    simpa using okIx_drop k h.2
theorem fit_drop : ∀ {s l : List Int} (hl : s.length = l.length), dimsFit s l → ∀ (k : Nat) (h : k < s.length), (s[k] = 1 ∨ s[k] = l[k]'(hl ▸ h))
  | d :: s, x :: l, hl, hf, 0, _ => hf.1
  | d :: s, x :: l, hl, hf, k + 1, h => by
    have := fit_drop (s := s) (l := l) (by simpa using hl) hf.2 k (by simpa using h)
    simpa using this
theorem okIx_get : ∀ {l xs : List Int} (hl : l.length = xs.length), okIx l xs = true → ∀ (k : Nat) (h : k < l.length), 0 ≤ xs[k]'(hl ▸ h) ∧ xs[k]'(hl ▸ h) < l[k]
  | d :: l, x :: xs, hl, ho, 0, _ => by
    simp only [okIx, Bool.and_eq_true, decide_eq_true_eq] at ho
    exact ho.1
  | d :: l, x :: xs, hl, ho, k + 1, h => by
    simp only [okIx, Bool.and_eq_true] at ho
    have := okIx_get (l := l) (xs := xs) (by simpa using hl) ho.2 k (by simpa using h)
    simpa using this
theorem FromW_spec {fu : Nat} {s l : List Int} {a : Int} (hs : Good s) (hlg : Good l) (hls : s.length ≤ l.length) (hfit : dimsFit s (l.drop (l.length - s.length))) (h0 : 0 ≤ a) (h1 : a < prod l) (hf : 9 < fu) (e : Int) :
    shape_From.W1 fu s l (idxV l a, e) (strdW s) 0 0 = some (fromS s ((idxV l a).drop (l.length - s.length)), 0) := by
  have hL := hlg.1
  have hS := hs.1
  have hP := hs.2.2
  have hn : prod l ≠ 0 := by omega
  have hok := okIx_drop (l.length - s.length) (okIx_idx (pos_of_good hlg hn) h0 h1)
  have hil := idxV_length l a
  have hw : wk .i64 ((l.length : Int) - (s.length : Int)) = ((l.length - s.length : Nat) : Int) := by rw [wk_eq (by omega) (by omega)]; omega
  unfold shape_From.W1
  generalize hA : l.length - s.length = A at hw hok hfit ⊢
  generalize hx : (idxV l a).drop A = xs at hok ⊢
  have hxl : xs.length = s.length := by rw [← hx]; simp [hil]; omega
  have hdl : (l.drop A).length = s.length := by simp; omega
  have hsub : subN (idxV l a) (A : Int).toNat (idxV l a).length = xs := by
    simp only [subN, Int.toNat_natCast, hx, hil]
    rw [List.take_of_length_le (by omega)]
  refine (cloop_ind (fun (t : Int × Int) => some (t.1 + fromS (s.drop t.2.toNat) (xs.drop t.2.toNat), (0 : Int))) (fun t => 0 ≤ t.2 ∧ t.2 ≤ s.length ∧ 0 ≤ t.1 ∧ t.1 + prod (s.drop t.2.toNat) ≤ 4096) (fun t => s.length - t.2.toNat) ?_ fu (0, 0) ⟨by simp, by simp, by simp, by simpa using hP⟩ (by simp; omega)).trans (by simp)
  rintro ⟨o, i⟩ ⟨q0, q1, q2, q3⟩ next hnx
  simp only at q0 q1 q2 q3 hnx ⊢
  obtain ⟨k, rfl⟩ := Int.eq_ofNat_of_zero_le q0
  unfold shape_From.L1
  simp only [Int.toNat_natCast, strdW_length, hw] at q3 ⊢
  by_cases hk : k < s.length
  · have hkx : k < xs.length := by omega
    have hsub2 : subN (idxV l a) A (idxV l a).length = xs := by simpa using hsub
    rw [if_pos (by omega), at?_nat, strdW_get hk, ob_some, at?_get hk, ob_some]
    rw [List.drop_eq_getElem_cons hk] at q3
    simp only [prod] at q3
    rw [List.drop_eq_getElem_cons hk, List.drop_eq_getElem_cons hkx]
    simp only [fromS]
    have hpn : 0 ≤ prod (s.drop (k + 1)) := prod_nonneg fun x hx => hs.2.1 x (List.mem_of_mem_drop hx)
    by_cases hd : s[k] = 1
    · rw [if_pos hd, if_pos hd, wk_succ (by omega)]
      rw [hd, Int.one_mul] at q3
      rw [hnx (o, ((k + 1 : Nat) : Int)) ⟨by simp only []; omega, by simp only []; omega, q2, by simpa using q3⟩ (by simp; omega)]
      simp
    · rw [if_neg hd, if_neg hd, hsub2, at?_get hkx, ob_some]
      have hfk := (fit_drop hdl.symm hfit k hk).resolve_left hd
      obtain ⟨r1, r2⟩ := okIx_get (by omega) hok k (by omega)
      rw [← hfk] at r2
      have m1 : (xs[k] + 1) * prod (s.drop (k + 1)) ≤ s[k] * prod (s.drop (k + 1)) := Int.mul_le_mul_of_nonneg_right (by omega) hpn
      rw [Int.add_mul, Int.one_mul] at m1
      have m2 : 0 ≤ xs[k] * prod (s.drop (k + 1)) := Int.mul_nonneg r1 hpn
      rw [wk_eq (x := prod (s.drop (k + 1))) (by omega) (by omega), wk_eq (x := xs[k] * prod (s.drop (k + 1))) (by omega) (by omega), wk_eq (by omega) (by omega), wk_succ (by omega)]
      rw [hnx (_, ((k + 1 : Nat) : Int)) ⟨by simp only []; omega, by simp only []; omega, by simp only []; omega, by simp only [Int.toNat_natCast]; omega⟩ (by simp; omega)]
      simp only [Int.toNat_natCast, Int.add_assoc]
  · rw [if_neg (by omega), List.drop_of_length_le (by omega), List.drop_of_length_le (by omega)]
    simp [fromS]
theorem From_spec {fu : Nat} {s l : List Int} {a : Int} (hs : Short s) (hl : Short l) (hfs : s.length < fu) (hfl : l.length < fu) (hf : 9 < fu) : shape_From fu s l a = some (fromV s l a) := by
  unfold shape_From shape_From.k1; (try unfold jn)
  rw [Size_spec hs hfs, ob_some, Size_spec hl hfl, ob_some, Broadcast_spec hs hl hfs hfl hf, ob_some]
  simp only [sizeV, fromV]
  by_cases gs : Good s
  · simp only [if_pos gs, if_true]
    by_cases gl : Good l
    · simp only [if_pos gl, if_true]
      by_cases he : (broadcastV s l).2 = 0
      · rw [if_pos he]
        have hsh : Short (broadcastV s l).1 := by
          simp only [broadcastV, if_pos gs, if_pos gl]
          have := gs.1; have := gl.1
          cases hb : bc s l with
          | none => simp [Short]
          | some r =>
            obtain ⟨_, _, _, _, _, h6⟩ := bc_left hb
            simp only
            split <;> simp [Short]; omega
        have hfl2 : (broadcastV s l).1.length < fu := by
          simp only [broadcastV, if_pos gs, if_pos gl]
          have := gs.1; have := gl.1
          cases hb : bc s l with
          | none => simp; omega
          | some r =>
            obtain ⟨_, _, _, _, _, h6⟩ := bc_left hb
            simp only
            split <;> simp <;> omega
        rw [Equal_spec hsh hfl2, ob_some]
        by_cases heq : (broadcastV s l).1 = l
        · have hbv : broadcastV s l = (l, 0) := Prod.ext heq he
          rw [if_pos (by simpa using heq), if_pos hbv, Index_spec hl hfl, ob_some]
          simp only [indexV, if_pos gl]
          by_cases hr : 0 ≤ a ∧ a < prod l
          · simp only [if_pos hr, if_true]
            obtain ⟨f1, _, f3⟩ := bcast_fit gs gl hbv
            have := gl.1
            have hw : wk .i64 ((l.length : Int) - (s.length : Int)) = ((l.length - s.length : Nat) : Int) := by rw [wk_eq (by omega) (by omega)]; omega
            rw [hw, chk_pos (by rw [idxV_length]; omega), strides_spec (good_short gs) hfs, ob_some, FromW_spec gs gl f1 f3 hr.1 hr.2 hf]
          · simp only [if_neg hr]
            rfl
        · rw [if_neg (by simpa using heq), if_neg (fun h => heq (by rw [h]))]
      · rw [if_neg he, if_neg (fun h => he (by rw [h]))]
    · simp only [if_neg gl]
      rw [if_neg (errS_ne l)]
  · simp only [if_neg gs]
    rw [if_neg (errS_ne s)]
end Go.Av
set_option linter.unusedVariables false
namespace Go.Av
theorem u32_eq {x : Int} (h0 : 0 ≤ x) (h1 : x < 4294967296) : wk .u32 x = x := by
  have : wk .u32 x = x % 4294967296 := by simp [wk, IntKind.wrap, IntKind.signed, IntKind.bits]
  rw [this, Int.emod_eq_of_lt h0 h1]
theorem two_mono {i j : Nat} (h : i ≤ j) : (2 : Nat) ^ i ≤ 2 ^ j := Nat.pow_le_pow_right (by decide) h
theorem min64 {k : Nat} (hk : k ≤ 64) : min ((k : Nat) : Int).toNat IntKind.u64.bits = k := by simp [IntKind.bits]; omega
theorem two_cast (k : Nat) : ((2 ^ k : Nat) : Int) = (2 : Int) ^ k := by rw [Int.natCast_pow]; rfl
theorem shr_at {a n : Nat} : (a : Int).fdiv ((2 : Int) ^ n) = ((a / 2 ^ n : Nat) : Int) := by
  rw [← two_cast, Int.fdiv_eq_ediv_of_nonneg _ (Int.natCast_nonneg _)]
  exact (Int.natCast_ediv a (2 ^ n)).symm
theorem pow_big {a k : Nat} {b : Nat} (ha : a < 2 ^ b) (hk : b ≤ k) : a / 2 ^ k = 0 := Nat.div_eq_of_lt (Nat.lt_of_lt_of_le ha (two_mono hk))
theorem shr_nat {a k : Nat} (h : a < 18446744073709551616) : shrk .u64 (a : Int) (k : Int) = ((a / 2 ^ k : Nat) : Int) := by
  unfold shrk
  rw [shr_at]
  by_cases hk : k ≤ 64
  · rw [min64 hk]
  · rw [show min ((k : Nat) : Int).toNat IntKind.u64.bits = 64 by simp [IntKind.bits]; omega, pow_big (b := 64) (by simpa using h) (Nat.le_refl _), pow_big (b := 64) (by simpa using h) (by omega)]
def lenOk (T : ByteArray) : Bool := (List.range 256).all fun i => match sat? T (i : Int) with
  | some n => decide (0 ≤ n) && decide (n ≤ 8) && decide (i < 2 ^ n.toNat) && (decide (n = 0) || decide (2 ^ (n.toNat - 1) ≤ i))
  | none => false
theorem lenOk_spec {T : ByteArray} (h : lenOk T = true) {i : Nat} (hi : i < 256) : ∃ n : Nat, sat? T (i : Int) = some (n : Int) ∧ n ≤ 8 ∧ i < 2 ^ n ∧ (n = 0 ∨ 2 ^ (n - 1) ≤ i) := by
  have := List.all_eq_true.1 h i (List.mem_range.2 hi)
  split at this
  · rename_i n hn
    simp only [Bool.and_eq_true, decide_eq_true_eq, Bool.or_eq_true] at this
    obtain ⟨⟨⟨a, b⟩, c⟩, d⟩ := this
    refine ⟨n.toNat, by rw [hn, Int.toNat_of_nonneg a], by omega, c, ?_⟩
    rcases d with d | d
    · exact .inl (by omega)
    · exact .inr d
  · cases this
def Bits (x n : Nat) : Prop := x < 2 ^ n ∧ (n = 0 ∨ 2 ^ (n - 1) ≤ x)
theorem Bits.shift {x n k : Nat} (h : Bits (x / 2 ^ k) n) (h0 : 2 ^ k ≤ x) : Bits x (k + n) := by
  have hk : 0 < 2 ^ k := Nat.pos_of_ne_zero (by simp)
  obtain ⟨h1, h2⟩ := h
  have h3 : 1 ≤ x / 2 ^ k := (Nat.le_div_iff_mul_le hk).2 (by omega)
  refine ⟨?_, .inr ?_⟩
  · rw [Nat.pow_add]
    have h := (Nat.div_lt_iff_lt_mul hk).1 h1
    rw [Nat.mul_comm]; exact h
  · rcases h2 with h2 | h2
    · subst h2; simp at h1; omega
    · by_cases hn : n = 0
      · subst hn; simp at h1; omega
      · rw [show k + n - 1 = (n - 1) + k by omega, Nat.pow_add]
        exact (Nat.le_div_iff_mul_le hk).1 h2
theorem Len_k2 {fu x c : Nat} (hx : x < 65536) (hc : c ≤ 1000) : ∃ n : Nat, math_bits_Len64.k2 fu (x : Int) (c : Int) = some ((c + n : Nat) : Int) ∧ Bits x n ∧ n ≤ 16 := by
  unfold math_bits_Len64.k2
  generalize hT : (ByteArray.mk _ : ByteArray) = T
  have hok : lenOk T = true := by subst hT; kernel_rfl
  clear hT
  by_cases h : 256 ≤ x
  · rw [if_pos (by omega), show ((8 : Int)) = ((8 : Nat) : Int) from rfl, shr_nat (by omega)]
    have h8 : x / 2 ^ 8 < 256 := by omega
    obtain ⟨n, e1, e2, e3, e4⟩ := lenOk_spec hok h8
    have hw : wk .u8 ((x / 2 ^ 8 : Nat) : Int) = ((x / 2 ^ 8 : Nat) : Int) := by
      have : ∀ z : Int, wk .u8 z = z % 256 := fun z => by simp [wk, IntKind.wrap, IntKind.signed, IntKind.bits]
      rw [this, Int.emod_eq_of_lt (by omega) (by omega)]
    rw [hw, e1, ob_some]
    refine ⟨8 + n, ?_, Bits.shift ⟨e3, e4⟩ (by omega), by omega⟩
    rw [wk_eq (x := ((c : Nat) : Int) + ((8 : Nat) : Int)) (by omega) (by omega), wk_eq (x := ((n : Nat) : Int)) (by omega) (by omega), wk_eq (by omega) (by omega)]
    congr 1
    omega
  · rw [if_neg (by omega)]
    have hw : wk .u8 ((x : Nat) : Int) = ((x : Nat) : Int) := by
      have : ∀ z : Int, wk .u8 z = z % 256 := fun z => by simp [wk, IntKind.wrap, IntKind.signed, IntKind.bits]
      rw [this, Int.emod_eq_of_lt (by omega) (by omega)]
    obtain ⟨n, e1, e2, e3, e4⟩ := lenOk_spec hok (i := x) (by omega)
    refine ⟨n, ?_, ⟨e3, e4⟩, by omega⟩
    rw [hw, e1, ob_some, wk_eq (x := ((n : Nat) : Int)) (by omega) (by omega), wk_eq (by omega) (by omega)]
    congr 1
theorem Len_k1 {fu x c : Nat} (hx : x < 4294967296) (hc : c ≤ 100) : ∃ n : Nat, math_bits_Len64.k1 fu (x : Int) (c : Int) = some ((c + n : Nat) : Int) ∧ Bits x n ∧ n ≤ 32 := by
  unfold math_bits_Len64.k1; try unfold jn
  by_cases h : 65536 ≤ x
  · rw [if_pos (by omega), show ((16 : Int)) = ((16 : Nat) : Int) from rfl, shr_nat (by omega)]
    obtain ⟨n, e1, e2, e3⟩ := Len_k2 (fu := fu) (x := x / 2 ^ 16) (c := c + 16) (by omega) (by omega)
    refine ⟨16 + n, ?_, e2.shift (by omega), by omega⟩
    rw [wk_eq (x := ((c : Nat) : Int) + ((16 : Nat) : Int)) (by omega) (by omega), show ((c : Nat) : Int) + ((16 : Nat) : Int) = ((c + 16 : Nat) : Int) by omega, e1]
    congr 1; omega
  · rw [if_neg (by omega)]
    obtain ⟨n, e1, e2, e3⟩ := Len_k2 (fu := fu) (x := x) (c := c) (by omega) (by omega)
    exact ⟨n, e1, e2, by omega⟩
theorem Len64_spec {fu x : Nat} (hx : x < 18446744073709551616) : ∃ n : Nat, math_bits_Len64 fu (x : Int) = some (n : Int) ∧ Bits x n ∧ n ≤ 64 := by
  unfold math_bits_Len64; try unfold jn
  by_cases h : 4294967296 ≤ x
  · rw [if_pos (by omega), show ((32 : Int)) = ((32 : Nat) : Int) from rfl, shr_nat (by omega)]
    obtain ⟨n, e1, e2, e3⟩ := Len_k1 (fu := fu) (x := x / 2 ^ 32) (c := 32) (by omega) (by omega)
    exact ⟨32 + n, e1, e2.shift (by omega), by omega⟩
  · rw [if_neg (by omega), show ((0 : Int)) = ((0 : Nat) : Int) from rfl]
    obtain ⟨n, e1, e2, e3⟩ := Len_k1 (fu := fu) (x := x) (c := 0) (by omega) (by omega)
    exact ⟨n, by rw [e1]; congr 1; omega, e2, by omega⟩
theorem sign_tot {fu : Nat} {b : Bool} : ∃ r, soft_sign fu b = some r := by unfold soft_sign; split <;> exact ⟨_, rfl⟩
theorem tiny_tot {fu : Nat} {b : Bool} : ∃ r, soft_tiny fu 0 b = some r := by
  obtain ⟨s, hs⟩ := sign_tot (fu := fu) (b := b)
  unfold soft_tiny soft_outwards
  rw [chk_pos rfl, chk_pos rfl, ob_some, hs, ob_some]
  exact ⟨_, rfl⟩
theorem huge_tot {fu : Nat} {b : Bool} : ∃ r, soft_huge fu 0 b = some r := by
  obtain ⟨s, hs⟩ := sign_tot (fu := fu) (b := b)
  unfold soft_huge soft_huge.k1; try unfold jn
  rw [chk_pos rfl, hs, ob_some]
  exact ⟨_, rfl⟩
theorem k3_tot {fu : Nat} {a : Bool} {b c d : Int} : ∃ r, soft_Round.k3 fu a b c d = some r := by
  obtain ⟨s, hs⟩ := sign_tot (fu := fu) (b := a)
  obtain ⟨u, hu⟩ := huge_tot (fu := fu) (b := a)
  unfold soft_Round.k3
  rw [hs, hu]
  simp only [ob_some]
  repeat' split
  all_goals exact ⟨_, rfl⟩
theorem k2_tot {fu : Nat} {a e f g : Bool} {b c d : Int} : ∃ r, soft_Round.k2 fu a b c d e f g = some r := by
  unfold soft_Round.k2; try unfold jn
  repeat' split
  all_goals exact k3_tot
theorem k4_tot {fu : Nat} {a e f : Bool} {b c d : Int} : ∃ r, soft_Round.k4 fu a b c e d f = some r := by
  unfold soft_Round.k4
  repeat' split
  all_goals exact k2_tot
theorem k1_tot {fu : Nat} {a e : Bool} {b c : Int} {n : Nat} (hn : n ≤ 64) (hb : -300 ≤ b) (hb2 : b ≤ 200) : ∃ r, soft_Round.k1 fu a b c e (n : Int) = some r := by
  unfold soft_Round.k1; try unfold jn
  have e1 : wk .i64 ((n : Int) - 24) = (n : Int) - 24 := wk_eq (by omega) (by omega)
  have e2 : wk .i64 (-149 - b) = -149 - b := wk_eq (by omega) (by omega)
  rw [e1, e2]
  have h1 : (n : Int) - 24 ≤ imax ((n : Int) - 24) (-149 - b) := by unfold imax; split <;> omega
  have h2 : imax ((n : Int) - 24) (-149 - b) ≤ 151 := by unfold imax; split <;> omega
  generalize imax ((n : Int) - 24) (-149 - b) = m at h1 h2
  split
  · rw [chk_pos (by rw [wk_eq (by omega) (by omega)]; omega)]
    exact k2_tot
  · split
    · exact k2_tot
    · rw [chk_pos (by omega), chk_pos (by rw [wk_eq (by omega) (by omega)]; omega)]
      repeat' split
      all_goals exact k4_tot
theorem Round_tot {fu : Nat} {a e : Bool} {b c : Int} (h0 : 0 ≤ c) (h1 : c < 18446744073709551616) : ∃ r, soft_Round fu 0 a b c e = some r := by
  obtain ⟨k, rfl⟩ := Int.eq_ofNat_of_zero_le h0
  obtain ⟨n, hn, _, hn2⟩ := Len64_spec (fu := fu) (x := k) (by omega)
  obtain ⟨s, hs⟩ := sign_tot (fu := fu) (b := a)
  obtain ⟨u, hu⟩ := huge_tot (fu := fu) (b := a)
  obtain ⟨v, hv⟩ := tiny_tot (fu := fu) (b := a)
  unfold soft_Round; try unfold jn
  rw [chk_pos rfl, hn, ob_some, hs, hu, hv]
  simp only [ob_some]
  split
  · split <;> exact ⟨_, rfl⟩
  · split
    · exact ⟨_, rfl⟩
    · split
      · exact ⟨_, rfl⟩
      · exact k1_tot hn2 (by omega) (by omega)
theorem wk_u64 (x : Int) : 0 ≤ wk .u64 x ∧ wk .u64 x < 18446744073709551616 := by
  have : wk .u64 x = x % 18446744073709551616 := by simp [wk, IntKind.wrap, IntKind.signed, IntKind.bits]
  rw [this]; omega
theorem open_tot {fu : Nat} {x : Int} : ∃ r, soft_open fu x = some r ∧ -150 ≤ r.fexp ∧ r.fexp ≤ 200 := by
  have hb : 0 ≤ band .u32 (shrk .u32 x 23) 255 ∧ band .u32 (shrk .u32 x 23) 255 ≤ 255 := by
    unfold band
    rw [show IntKind.u32.bits = 32 from rfl, BitVec.toNat_and]
    have h : (BitVec.ofInt 32 (shrk .u32 x 23)).toNat &&& (BitVec.ofInt 32 255).toNat ≤ 255 := Nat.le_trans Nat.and_le_right (by decide)
    have hw := u32_eq (x := (((BitVec.ofInt 32 (shrk .u32 x 23)).toNat &&& (BitVec.ofInt 32 255).toNat : Nat) : Int)) (by omega) (by omega)
    unfold wk at hw
    rw [hw]
    omega
  unfold soft_open
  rw [wk_eq (x := band .u32 (shrk .u32 x 23) 255) (by omega) (by omega)]
  generalize band .u32 (shrk .u32 x 23) 255 = q at hb
  split
  · exact ⟨_, rfl, by show (-150 : Int) ≤ 0; omega, by show (0 : Int) ≤ 200; omega⟩
  · split
    · exact ⟨_, rfl, by show (-150 : Int) ≤ -149; omega, by show (-149 : Int) ≤ 200; omega⟩
    · refine ⟨_, rfl, ?_, ?_⟩
      · show -150 ≤ wk .i64 (q - 150)
        rw [wk_eq (by omega) (by omega)]; omega
      · show wk .i64 (q - 150) ≤ 200
        rw [wk_eq (by omega) (by omega)]; omega
theorem Mul_tot {fu : Nat} {x y : Int} : ∃ r, soft_Mul fu x y = some r := by
  obtain ⟨a, ha, _, _⟩ := open_tot (fu := fu) (x := x)
  obtain ⟨b, hb, _, _⟩ := open_tot (fu := fu) (x := y)
  obtain ⟨s, hs⟩ := sign_tot (fu := fu) (b := !(a.fneg == b.fneg))
  obtain ⟨r, hr⟩ := Round_tot (fu := fu) (a := !(a.fneg == b.fneg)) (e := false) (b := wk .i64 (a.fexp + b.fexp)) (wk_u64 (a.fsig * b.fsig)).1 (wk_u64 _).2
  unfold soft_Mul soft_MulBy soft_MulBy.k1; try unfold jn
  rw [chk_pos rfl, ha, ob_some, hb, ob_some, hs, hr]
  simp only [ob_some]
  repeat' split
  all_goals exact ⟨_, rfl⟩
theorem nought_tot {fu : Nat} : ∃ r, soft_nought fu 0 = some r := by
  obtain ⟨s, hs⟩ := sign_tot (fu := fu) (b := decide ((0 : Int) = 2))
  unfold soft_nought
  rw [chk_pos rfl, hs, ob_some]
  exact ⟨_, rfl⟩
theorem a3_tot {fu : Nat} {a b c : Bool} {x y z : Int} : ∃ r, soft_AddBy.k3 fu a b x y z c = some r := by
  obtain ⟨s, hs⟩ := nought_tot (fu := fu)
  obtain ⟨r1, h1⟩ := Round_tot (fu := fu) (a := a) (e := c) (b := x) (wk_u64 (y + z)).1 (wk_u64 _).2
  obtain ⟨r2, h2⟩ := Round_tot (fu := fu) (a := a) (e := true) (b := x) (wk_u64 (wk .u64 (y - z) - 1)).1 (wk_u64 _).2
  obtain ⟨r3, h3⟩ := Round_tot (fu := fu) (a := a) (e := false) (b := x) (wk_u64 (y - z)).1 (wk_u64 _).2
  obtain ⟨r4, h4⟩ := Round_tot (fu := fu) (a := b) (e := false) (b := x) (wk_u64 (z - y)).1 (wk_u64 _).2
  unfold soft_AddBy.k3
  rw [hs, h1, h2, h3, h4]
  simp only [ob_some]
  repeat' split
  all_goals exact ⟨_, rfl⟩
theorem a2_tot {fu : Nat} {a b : Bool} {x y z w : Int} (h : z ≤ x) (h1 : -1000 ≤ z) (h2 : x ≤ 1000) : ∃ r, soft_AddBy.k2 fu a x y b z w = some r := by
  unfold soft_AddBy.k2; try unfold jn
  rw [wk_eq (x := x - z) (by omega) (by omega)]
  split
  · rw [chk_pos (by omega)]; exact a3_tot
  · rw [chk_pos (by rw [wk_eq (by omega) (by omega)]; omega)]; exact a3_tot
theorem a1_tot {fu : Nat} {p q : T_soft_number} (h1 : -150 ≤ p.fexp) (h2 : p.fexp ≤ 200) (h3 : -150 ≤ q.fexp) (h4 : q.fexp ≤ 200) : ∃ r, soft_AddBy.k1 fu p q = some r := by
  unfold soft_AddBy.k1; try unfold jn
  split
  · exact a2_tot (by omega) (by omega) (by omega)
  · exact a2_tot (by omega) (by omega) (by omega)
theorem Add_tot {fu : Nat} {x y : Int} : ∃ r, soft_Add fu x y = some r := by
  obtain ⟨a, ha, a1, a2⟩ := open_tot (fu := fu) (x := x)
  obtain ⟨b, hb, b1, b2⟩ := open_tot (fu := fu) (x := y)
  obtain ⟨s, hs⟩ := nought_tot (fu := fu)
  obtain ⟨r, hr⟩ := a1_tot (fu := fu) a1 a2 b1 b2
  unfold soft_Add soft_AddBy; try unfold jn
  rw [chk_pos rfl, ha, ob_some, hb, ob_some, hs, hr]
  simp only [ob_some]
  repeat' split
  all_goals exact ⟨_, rfl⟩
theorem Mul_fu {fu : Nat} {x y : Int} : soft_Mul fu x y = soft_Mul 0 x y := rfl
theorem Add_fu {fu : Nat} {x y : Int} : soft_Add fu x y = soft_Add 0 x y := rfl
def mulV (x y : Int) : Int := (soft_Mul 0 x y).getD 0
def addV (x y : Int) : Int := (soft_Add 0 x y).getD 0
theorem Mul_spec {fu : Nat} {x y : Int} : soft_Mul fu x y = some (mulV x y) := by
  rw [Mul_fu]; unfold mulV
  obtain ⟨r, hr⟩ := Mul_tot (fu := 0) (x := x) (y := y)
  rw [hr]; rfl
theorem Add_spec {fu : Nat} {x y : Int} : soft_Add fu x y = some (addV x y) := by
  rw [Add_fu]; unfold addV
  obtain ⟨r, hr⟩ := Add_tot (fu := 0) (x := x) (y := y)
  rw [hr]; rfl
def dotV (s : Int) (a b : List Int) : Int := (a.zip b).foldl (fun s p => addV s (mulV p.1 p.2)) s
theorem imin_cast {a b : Nat} : imin (a : Int) (b : Int) = ((min a b : Nat) : Int) := by unfold imin; split <;> omega
end Go.Av
set_option linter.unusedVariables false
namespace Go.Av
theorem Dot_spec {fu : Nat} {a b : List Int} (hl : a.length ≤ 140737488351232) (hf : a.length < fu) : mat_Dot fu a b = some (dotV 0 a b) := by
  unfold mat_Dot mat_Dot.W1
  refine (cloop_ind (fun (s : Int × Int) => some (dotV s.1 (a.drop s.2.toNat) (b.drop s.2.toNat))) (fun s => 0 ≤ s.2 ∧ s.2 ≤ a.length ∧ s.2 ≤ b.length) (fun s => a.length - s.2.toNat) ?_ fu (0, 0) (by simp) (by simp; omega)).trans (by simp)
  rintro ⟨s, i⟩ ⟨h0, h1, h2⟩ next hn
  simp only at h0 h1 h2
  obtain ⟨k, rfl⟩ := Int.eq_ofNat_of_zero_le h0
  simp only [Int.toNat_natCast]
  unfold mat_Dot.L1
  rw [imin_cast]
  by_cases hk : k < a.length ∧ k < b.length
  · obtain ⟨ka, kb⟩ := hk
    rw [if_pos (by omega), at?_get ka, ob_some, at?_get kb, ob_some, Mul_spec, ob_some, Add_spec, ob_some, wk_eq (by omega) (by omega)]
    have e : ((k : Int) + 1) = ((k + 1 : Nat) : Int) := by omega
    rw [e]
    show next (addV s (mulV a[k] b[k]), ((k + 1 : Nat) : Int)) = _
    rw [hn _ ⟨by simp only []; omega, by simp only []; omega, by simp only []; omega⟩ (by simp only [Int.toNat_natCast]; omega)]
    simp only [Int.toNat_natCast]
    rw [List.drop_eq_getElem_cons ka, List.drop_eq_getElem_cons kb]
    rfl
  · rw [if_neg (by omega)]
    have : (a.drop k).zip (b.drop k) = [] := by
      apply List.eq_nil_of_length_eq_zero
      simp only [List.length_zip, List.length_drop]; omega
    unfold dotV
    rw [this]; rfl
end Go.Av
set_option linter.unusedVariables false
namespace Go.Av
theorem cloop_succ {σ β : Type} {body : (σ → Option β) → σ → Option β} {n : Nat} {s : σ} : cloop body (n + 1) s = body (cloop body n) s := rfl
def zeroVal : T_Val := ⟨0, [], false, ⟨0, [], [], [], []⟩⟩
def valOf (t : T_Tensor) : T_Val := if t.fType = 0 then zeroVal else ⟨t.fType, t.fDims, true, t⟩
def Tens (fu : Nat) (l : List T_Tensor) : Prop := l.length ≤ 1048576 ∧ l.length < fu ∧ ∀ t ∈ l, Ten t ∧ Fuel fu t
theorem CloneI_spec {fu : Nat} {l : List Int} (h : l.length * 8 ≤ 140737488351232) : slices_Clone_int fu l = some l := by
  unfold slices_Clone_int; rw [chk_pos (by omega)]
theorem take_next {α β : Type} {f : α → β} {l : List α} {k : Nat} (hk : k < l.length) : (l.take (k + 1)).map f = (l.take k).map f ++ [f l[k]] := by
  rw [List.take_add_one, List.getElem?_eq_getElem hk, List.map_append]; rfl
theorem Vals_all {fu : Nat} {l : List T_Tensor} (h : Tens fu l) : ewise_Vals fu l = some (l.map valOf) := by
  unfold ewise_Vals ewise_Vals.W1
  have hl0 := h.1
  refine cloop_up l.length (fun k => (l.take k).map valOf) _ ?_ ?_ h.2.1
  · intro k hk next hn
    have ht := (h.2.2 _ (List.getElem_mem hk)).1
    show ewise_Vals.L1 fu l _ _ (k : Int) = _
    have hl : ((l.take k).map valOf).length = k := by simp; omega
    rw [take_next hk] at hn
    rw [ewise_Vals.L1, if_pos (by omega), at?_get hk, ob_some, wk_succ (by omega)]
    by_cases h0 : l[k].fType = 0
    · rw [if_pos h0, chk_pos (by rw [hl]; omega)]
      rw [valOf, if_pos h0] at hn
      exact hn
    · rw [if_neg h0, CloneI_spec ht.1, ob_some, Copy_spec ht, ob_some, chk_pos (by rw [hl]; omega)]
      rw [valOf, if_neg h0] at hn
      exact hn
  · intro next
    show ewise_Vals.L1 fu l _ _ (l.length : Int) = _
    rw [ewise_Vals.L1, if_neg (by omega), List.take_length]
def badV : List T_Tensor → Option Int
  | [] => none
  | t :: l => if t.fType = 0 ∨ checkV t = 0 then badV l else some (checkV t)
theorem badV_none {l : List T_Tensor} (h : badV l = none) : ∀ t ∈ l, t.fType = 0 ∨ checkV t = 0 := by
  induction l with
  | nil => intro t ht; cases ht
  | cons x l ih =>
    unfold badV at h
    split at h
    · rename_i hx
      intro t ht
      rcases List.mem_cons.1 ht with rfl | ht
      · exact hx
      · exact ih h t ht
    · cases h
theorem badV_some {l : List T_Tensor} {e : Int} (h : badV l = some e) : e ≠ 0 := by
  induction l with
  | nil => cases h
  | cons x l ih =>
    unfold badV at h
    split at h
    · exact ih h
    · rename_i hx
      injection h with h
      subst h
      exact fun h0 => hx (.inr h0)
theorem head_loop {β : Type} {fu : Nat} {l : List T_Tensor} (h : Tens fu l) {k1 : List T_Tensor → Option β} {er : Int → Option β} {L : (List T_Tensor → Int → Option β) → List T_Tensor → Int → Option β}
    (hL : ∀ nx acc i, L nx acc i = if i < (l.length : Int) then ((at? l i).bind fun x => if x.fType = 0 then ((tens_Canon fu x).bind fun y => chk ((acc.length + 1 : Int) * 104 ≤ 140737488355328) <| nx (acc ++ ([y])) (wk .i64 (i + 1))) else
      (tens_Check fu x).bind fun c => if c = 0 then ((tens_Canon fu x).bind fun y => chk ((acc.length + 1 : Int) * 104 ≤ 140737488355328) <| nx (acc ++ ([y])) (wk .i64 (i + 1))) else er c) else k1 acc) :
    cloop (fun next s => L (fun a b => next (a, b)) s.1 s.2) fu (([] : List T_Tensor), (0 : Int)) = match badV l with | some e => er e | none => k1 (l.map canonT) := by
  have hl0 := h.1
  have key : ∀ m q k : Nat, l.length - k = m → k ≤ l.length → m < q → cloop (fun next s => L (fun a b => next (a, b)) s.1 s.2) q ((l.take k).map canonT, (k : Int)) = match badV (l.drop k) with | some e => er e | none => k1 (l.map canonT) := by
    intro m
    induction m with
    | zero =>
      intro q k h1 h2 h3
      cases q with
      | zero => omega
      | succ q =>
        have : k = l.length := by omega
        subst this
        rw [cloop_succ]
        show L _ _ (l.length : Int) = _
        rw [hL, if_neg (by omega), List.take_length, List.drop_length]
        rfl
    | succ m ih =>
      intro q k h1 h2 h3
      cases q with
      | zero => omega
      | succ q =>
        have hk : k < l.length := by omega
        obtain ⟨ht, hf⟩ := h.2.2 _ (List.getElem_mem hk)
        have hl : ((l.take k).map canonT).length = k := by simp; omega
        have hn := ih q (k + 1) (by omega) (by omega) (by omega)
        rw [take_next hk] at hn
        rw [cloop_succ]
        show L _ _ (k : Int) = _
        rw [hL, if_pos (by omega), at?_get hk, ob_some, wk_succ (by omega), List.drop_eq_getElem_cons hk]
        unfold badV
        by_cases h0 : l[k].fType = 0
        · rw [if_pos h0, Canon_spec ht hf.2.1, ob_some, chk_pos (by rw [hl]; omega), if_pos (.inl h0)]
          exact hn
        · rw [if_neg h0, Check_spec ht.small hf, ob_some]
          by_cases hc : checkV l[k] = 0
          · rw [if_pos hc, Canon_spec ht hf.2.1, ob_some, chk_pos (by rw [hl]; omega), if_pos (.inr hc)]
            exact hn
          · rw [if_neg hc, if_neg (fun hh => hh.elim h0 hc)]
  exact key l.length fu 0 (by omega) (by omega) h.2.1
end Go.Av
set_option linter.unusedVariables false
namespace Go.Av
theorem same_loop {α : Type} [DecidableEq α] {a b : List α} (hl : a.length = b.length) {fu : Nat} (hf : a.length < fu) (hs : a.length ≤ 140737488355328) {L : (Int → Option Bool) → Int → Option Bool} {c : Option Bool}
    (hL : ∀ nx i, L nx i = if i < (a.length : Int) then ((at? a i).bind fun x => (at? b i).bind fun y => if x = y then (nx (wk .i64 (i + 1))) else some false) else c) : cloop L fu 0 = if a = b then c else some false := by
  refine (cloop_ind (fun (i : Int) => if a.drop i.toNat = b.drop i.toNat then c else some false) (fun i => 0 ≤ i ∧ i ≤ a.length) (fun i => a.length - i.toNat) ?_ fu 0 (by simp) (by simp; omega)).trans (by simp)
  rintro i ⟨h0, h1⟩ next hn
  obtain ⟨k, rfl⟩ := Int.eq_ofNat_of_zero_le h0
  rw [hL]
  simp only [Int.toNat_natCast]
  by_cases hk : k < a.length
  · have hkb : k < b.length := by omega
    have hd : a.drop k = b.drop k ↔ a[k] = b[k] ∧ a.drop (k + 1) = b.drop (k + 1) := by
      rw [List.drop_eq_getElem_cons hk, List.drop_eq_getElem_cons hkb]; exact List.cons_eq_cons
    rw [if_pos (by omega), at?_get hk, ob_some, at?_get hkb, ob_some, wk_succ (by omega)]
    by_cases he : a[k] = b[k]
    · rw [if_pos he, hn _ (by omega) (by simp; omega)]
      by_cases h2 : a.drop (k + 1) = b.drop (k + 1)
      · rw [if_pos (by simpa using h2), if_pos (hd.2 ⟨he, h2⟩)]
      · rw [if_neg (by simpa using h2), if_neg (fun h => h2 (hd.1 h).2)]
    · rw [if_neg he, if_neg (fun h => he (hd.1 h).1)]
  · rw [if_neg (by omega), if_pos (by rw [List.drop_of_length_le (by omega), List.drop_of_length_le (by omega)])]
theorem refSame_spec {fu : Nat} {a b : T_Tensor} (hs : Small a) (hf : Fuel fu a) : ref05_Same fu a b = some (sameT a b) := by
  obtain ⟨s1, s2, s3, s4⟩ := hs
  obtain ⟨f1, f2, f3, f4⟩ := hf
  unfold ref05_Same sameT; try unfold jn
  by_cases h1 : a.fType = b.fType
  · rw [if_pos h1, SameInts_spec (by unfold Short; omega) f1, ob_some]
    by_cases h2 : a.fDims = b.fDims
    · rw [if_pos (by simpa using h2)]
      by_cases l3 : a.fF.length = b.fF.length
      · rw [if_pos (by omega)]
        by_cases l4 : a.fI.length = b.fI.length
        · rw [if_pos (by omega)]
          by_cases l5 : a.fB.length = b.fB.length
          · rw [if_pos (by omega)]
            unfold ref05_Same.k1 ref05_Same.W3; try unfold jn
            rw [same_loop (L := fun next s => ref05_Same.L3 fu a b next s) (a := a.fF) (b := b.fF) l3 f2 (by omega) (c := ref05_Same.k2 fu a b) (fun nx i => rfl)]
            unfold ref05_Same.k2 ref05_Same.W2; try unfold jn
            rw [same_loop (L := fun next s => ref05_Same.L2 fu a b next s) (a := a.fI) (b := b.fI) l4 f3 (by omega) (c := ref05_Same.k3 fu a b) (fun nx i => rfl)]
            unfold ref05_Same.k3 ref05_Same.W1
            rw [same_loop (L := fun next s => ref05_Same.L1 fu a b next s) (a := a.fB) (b := b.fB) l5 f4 (by omega) (c := some true) (fun nx i => by unfold ref05_Same.L1; simp only [beq_iff_eq])]
            by_cases e3 : a.fF = b.fF <;> by_cases e4 : a.fI = b.fI <;> by_cases e5 : a.fB = b.fB <;> simp [h1, h2, e3, e4, e5]
          · rw [if_neg (by omega)]
            have : ¬ a.fB = b.fB := fun h => l5 (by rw [h])
            simp [this]
        · rw [if_neg (by omega)]
          have : ¬ a.fI = b.fI := fun h => l4 (by rw [h])
          simp [this]
      · rw [if_neg (by omega)]
        have : ¬ a.fF = b.fF := fun h => l3 (by rw [h])
        simp [this]
    · rw [if_neg (by simpa using h2)]
      simp [h2]
  · rw [if_neg h1]
    simp [h1]
end Go.Av
set_option linter.unusedVariables false
namespace Go.Av
def offsetV (l xs : List Int) : Int × Int := if Good l then (if xs.length = l.length then (if okIx l xs = true then (offV l xs, 0) else (0, 2)) else (0, 2)) else (0, errS l)
theorem wk_idem (x : Int) : wk .i64 (wk .i64 x) = wk .i64 x := by
  have := wk_mul_l x 1
  simpa using this
theorem wk_hor (y p f : Int) : wk .i64 (wk .i64 y * p + f) = wk .i64 (y * p + f) := by
  rw [← wk_add_l (wk .i64 y * p), wk_mul_l, wk_add_l]
theorem refSizeW_spec {fu : Nat} {l : List Int} (hp : ∀ x ∈ l, 1 ≤ x ∧ x ≤ 4096) (hl : l.length ≤ 8) (hf : l.length < fu) : ref04_Size.W1 fu l 1 0 = some (if prod l ≤ 4096 then (prod l, 0) else (0, 4)) := by
  unfold ref04_Size.W1
  refine (cloop_ind (fun (s : Int × Int) => some (if s.1 * prod (l.drop s.2.toNat) ≤ 4096 then (s.1 * prod (l.drop s.2.toNat), 0) else (0, 4))) (fun s => 0 ≤ s.2 ∧ s.2 ≤ l.length ∧ 1 ≤ s.1 ∧ s.1 ≤ 4096) (fun s => l.length - s.2.toNat) ?_ fu (1, 0) (by simp) (by simp; omega)).trans (by simp)
  rintro ⟨m, i⟩ ⟨h0, h1, h2, h3⟩ next hn
  simp only at h0 h1 h2 h3 hn ⊢
  obtain ⟨k, rfl⟩ := Int.eq_ofNat_of_zero_le h0
  unfold ref04_Size.L1 ref04_Size.k2; try unfold jn
  simp only [Int.toNat_natCast]
  by_cases hk : k < l.length
  · obtain ⟨q1, q2⟩ := hp _ (List.getElem_mem hk)
    have hge : 1 ≤ m * l[k] := by have := Int.mul_le_mul h2 q1 (by decide) (by omega); simpa using this
    have hle : m * l[k] ≤ 4096 * 4096 := Int.mul_le_mul h3 q2 (by omega) (by decide)
    rw [if_pos (by omega), at?_get hk, ob_some, if_neg (by omega), ob_some, wk_eq (x := m * l[k]) (by omega) (by omega), List.drop_eq_getElem_cons hk]
    have hpos : 1 ≤ prod (l.drop (k + 1)) := prod_pos fun x hx => (hp x (List.mem_of_mem_drop hx)).1
    simp only [prod, ← Int.mul_assoc]
    by_cases hd : 4096 < m * l[k]
    · rw [if_pos hd]
      have : m * l[k] * 1 ≤ m * l[k] * prod (l.drop (k + 1)) := Int.mul_le_mul_of_nonneg_left hpos (by omega)
      rw [if_neg (by omega)]
    · rw [if_neg hd]
      rw [wk_succ (by omega), hn (m * l[k], ((k + 1 : Nat) : Int)) ⟨by simp only []; omega, by simp only []; omega, hge, by simp only []; omega⟩ (by simp; omega)]
      simp
  · rw [if_neg (by omega), List.drop_of_length_le (by omega)]
    simp only [prod, Int.mul_one]
    rw [if_pos h3]
theorem refSize_spec {fu : Nat} {l : List Int} (hl : Short l) (hf : l.length < fu) : ref04_Size fu l = some (sizeV l) := by
  unfold ref04_Size ref04_Size.W2; try unfold jn
  refine (cloop_ind (fun (s : Bool × Bool × Int) => cond ((l.drop s.2.2.toNat).any (fun x => decide (x < 0))) (some (0, 1)) (ref04_Size.k1 fu l (s.1 || (l.drop s.2.2.toNat).any (fun x => decide (x = 0))) (s.2.1 || (l.drop s.2.2.toNat).any (fun x => decide (4096 < x))))) (fun s => 0 ≤ s.2.2 ∧ s.2.2 ≤ l.length) (fun s => l.length - s.2.2.toNat) ?_ fu _ (by simp) (by simp; omega)).trans ?_
  · rintro ⟨z, b, i⟩ ⟨h0, h1⟩ next hn
    simp only at h0 h1 hn ⊢
    obtain ⟨k, rfl⟩ := Int.eq_ofNat_of_zero_le h0
    unfold ref04_Size.L2; try unfold jn
    simp only [Int.toNat_natCast]
    by_cases hk : k < l.length
    · rw [if_pos (by omega), at?_get hk, ob_some, List.drop_eq_getElem_cons hk]
      simp only [List.any_cons]
      by_cases h2 : l[k] < 0
      · rw [if_pos h2]; simp [h2]
      · rw [if_neg h2]
        have hx := fun z' b' => hn (z', b', ((k + 1 : Nat) : Int)) (by simp only []; omega) (by simp; omega)
        simp only [Int.toNat_natCast] at hx
        have hz : (if z = true then ref04_Size.k3 fu (fun x13 x14 x15 => next (x13, x14, x15)) b (k : Int) l[k] true else ref04_Size.k3 fu (fun x13 x14 x15 => next (x13, x14, x15)) b (k : Int) l[k] (decide (l[k] = 0))) = next (z || decide (l[k] = 0), b || decide (4096 < l[k]), wk .i64 ((k : Int) + 1)) := by
          unfold ref04_Size.k3
          cases z <;> cases b <;> simp
        rw [hz, wk_succ (by unfold Short at hl; omega), hx]
        simp only [Bool.or_assoc]
        simp [h2]
    · rw [if_neg (by omega), List.drop_of_length_le (by omega)]
      simp
  · simp only [Int.toNat_zero, List.drop_zero, Bool.false_or]
    by_cases h1 : l.any (fun x => decide (x < 0)) = true
    · rw [h1, cond_true]
      have hg : ¬ Good l := fun hg => by
        obtain ⟨x, hx, hx2⟩ := List.any_eq_true.1 h1
        have := (hg.2.1 x hx).1
        simp at hx2; omega
      simp only [sizeV, if_neg hg, errS, if_pos h1]
    have h1' : l.any (fun x => decide (x < 0)) = false := by simpa using h1
    rw [h1', cond_false]
    have he : errS l = 4 := by simp only [errS, if_neg h1]
    unfold ref04_Size.k1
    by_cases h2 : (decide (8 < (l.length : Int)) || l.any fun x => decide (4096 < x)) = true
    · rw [if_pos h2]
      have hg : ¬ Good l := fun hg => by
        rcases Bool.or_eq_true_iff.1 h2 with h3 | h3
        · have := hg.1; simp at h3; omega
        · obtain ⟨x, hx, hx2⟩ := List.any_eq_true.1 h3
          have := (hg.2.1 x hx).2
          simp at hx2; omega
      simp only [sizeV, if_neg hg, he]
    rw [if_neg h2]
    simp only [Bool.or_eq_true, decide_eq_true_eq, List.any_eq_true, not_or, not_exists, not_and] at h1 h2
    have hr : Rng l := fun x hx => by have := h1 x hx; have := h2.2 x hx; omega
    by_cases h4 : (l.any fun x => decide (x = 0)) = true
    · rw [if_pos h4]
      have hz : (0 : Int) ∈ l := by
        obtain ⟨x, hx, hx2⟩ := List.any_eq_true.1 h4
        simp at hx2; subst hx2; exact hx
      have hg : Good l := ⟨by omega, hr, by rw [prod_zero hz]; decide⟩
      simp only [sizeV, if_pos hg, prod_zero hz]
    rw [if_neg h4]
    have hp : ∀ x ∈ l, 1 ≤ x ∧ x ≤ 4096 := fun x hx => by
      have := hr x hx
      simp only [List.any_eq_true, decide_eq_true_eq, not_exists, not_and] at h4
      have := h4 x hx; omega
    rw [refSizeW_spec hp (by omega) hf]
    by_cases h5 : prod l ≤ 4096
    · have hg : Good l := ⟨by omega, hr, h5⟩
      simp only [sizeV, if_pos hg, if_pos h5]
    · have hg : ¬ Good l := fun hg => h5 hg.2.2
      simp only [sizeV, if_neg hg, if_neg h5, he]
theorem idx_step {a d P : Int} (ha : 0 ≤ a) (hd : 1 ≤ d) (hP : 1 ≤ P) : a % (d * P) / P = a / P % d ∧ a % (d * P) % P = a % P := by
  have h1 := Int.mul_ediv_add_emod a (d * P)
  have hdP : 0 < d * P := Int.mul_pos (by omega) (by omega)
  have hr := Int.emod_nonneg a (b := d * P) (by omega)
  have hr2 := Int.emod_lt_of_pos a hdP
  generalize a % (d * P) = r at h1 hr hr2 ⊢
  generalize a / (d * P) = q at h1
  have e : a = r + P * (d * q) := by rw [← h1, Int.mul_comm d P, Int.mul_assoc, Int.add_comm]
  have hq : r / P < d := Int.ediv_lt_of_lt_mul (by omega) hr2
  have hq0 : 0 ≤ r / P := Int.ediv_nonneg hr (by omega)
  rw [e, Int.add_mul_ediv_left _ _ (by omega : P ≠ 0), Int.add_mul_emod_self_left, Int.add_mul_emod_self_left, Int.emod_eq_of_lt hq0 hq]
  exact ⟨rfl, rfl⟩
theorem refIndexW_spec {fu : Nat} {l : List Int} {a : Int} (hg : Good l) (hn0 : 1 ≤ prod l) (ha : 0 ≤ a) (ha2 : a < prod l) (hf : l.length < fu) : ref04_Index.W1 fu l (List.replicate l.length 0) a (wk .i64 ((l.length : Int) - 1)) = some (idxV l a, 0) := by
  have hp := pos_of_good hg (by omega)
  have hd := prod_drop_le hp
  have h8 := hg.1
  have hP := hg.2.2
  rw [wk_eq (by omega) (by omega)]
  unfold ref04_Index.W1
  refine cloop_ind (fun _ => some (idxV l a, (0 : Int))) (fun (s : List Int × Int × Int) => ∃ k : Nat, k ≤ l.length ∧ s = (List.replicate k 0 ++ idxV (l.drop k) (a % prod (l.drop k)), a / prod (l.drop k), (k : Int) - 1)) (fun s => (s.2.2 + 1).toNat) ?_ fu _ ⟨l.length, Nat.le_refl _, by simp [idxV, prod]⟩ (by simp; omega)
  rintro _ ⟨k, hk, rfl⟩ next hn
  unfold ref04_Index.L1
  simp only
  match k, hk with
  | 0, _ =>
    rw [if_neg (by decide)]
    simp only [List.replicate_zero, List.nil_append, List.drop_zero]
    rw [Int.emod_eq_of_lt ha ha2]
  | k + 1, hk =>
    have e1 : (((k + 1 : Nat) : Int) - 1) = (k : Int) := by omega
    have hlen : (List.replicate (k + 1) (0 : Int) ++ idxV (l.drop (k + 1)) (a % prod (l.drop (k + 1)))).length = l.length := by simp [idxV_length]; omega
    have hq := hp l[k] (List.getElem_mem _)
    have hr := (hg.2.1 l[k] (List.getElem_mem _)).2
    obtain ⟨d1, d2⟩ := hd (k + 1)
    have q0 : 0 ≤ a / prod (l.drop (k + 1)) := Int.ediv_nonneg ha (by omega)
    have q1 : a / prod (l.drop (k + 1)) ≤ a := Int.ediv_le_self _ ha
    have q2 : 0 ≤ a / prod (l.drop (k + 1)) / l[k] := Int.ediv_nonneg q0 (by omega)
    have q3 : a / prod (l.drop (k + 1)) / l[k] ≤ a / prod (l.drop (k + 1)) := Int.ediv_le_self _ q0
    rw [e1, if_pos (by omega), hlen, at?_get (by omega), ob_some, chk_pos (by omega), chk_pos (by omega), Int.toNat_natCast, rep_set]
    rw [Int.tdiv_eq_ediv_of_nonneg q0, Int.tmod_eq_emod_of_nonneg q0, wk_eq (by omega) (by omega), wk_eq (x := (k : Int) - 1) (by omega) (by omega)]
    refine hn _ ⟨k, by omega, ?_⟩ (by simp)
    rw [List.drop_eq_getElem_cons (by omega : k < l.length)]
    obtain ⟨s1, s2⟩ := idx_step (P := prod (l.drop (k + 1))) ha hq d1
    simp only [prod, idxV, s1, s2]
    rw [Int.ediv_ediv_of_nonneg (by omega), Int.mul_comm]
theorem refIndex_spec {fu : Nat} {l : List Int} {a : Int} (hl : Short l) (hf : l.length < fu) : ref04_Index fu l a = some (indexV l a) := by
  unfold ref04_Index; try unfold jn
  rw [refSize_spec hl hf, ob_some]
  simp only [sizeV, indexV]
  by_cases hg : Good l
  · simp only [if_pos hg, if_true]
    by_cases h1 : a < 0
    · rw [if_pos h1, if_neg (by omega)]
    · rw [if_neg h1]
      by_cases h2 : prod l ≤ a
      · rw [if_pos h2, if_neg (by omega)]
      · rw [if_neg h2, if_pos (by omega)]
        unfold ref04_Index.k1
        have := hg.1
        rw [chk_pos (by omega), Int.toNat_natCast, refIndexW_spec hg (by omega) (by omega) (by omega) hf]
  · simp only [if_neg hg]
    rw [if_neg (errS_ne l)]
theorem offV_lt : ∀ {l xs : List Int}, (∀ x ∈ l, 0 ≤ x) → xs.length = l.length → okIx l xs = true → 0 ≤ offV l xs ∧ offV l xs < prod l
  | [], [], _, _, _ => by simp [offV, prod]
  | d :: l, x :: xs, hp, hl, h => by
    simp only [okIx, Bool.and_eq_true, decide_eq_true_eq] at h
    obtain ⟨h1, h2⟩ := offV_lt (l := l) (xs := xs) (fun y hy => hp y (by simp [hy])) (by simpa using hl) h.2
    simp only [offV, prod]
    have m1 : (x + 1) * prod l ≤ d * prod l := Int.mul_le_mul_of_nonneg_right (by omega) (by omega)
    rw [Int.add_mul, Int.one_mul] at m1
    have m2 : 0 ≤ x * prod l := Int.mul_nonneg h.1.1 (by omega)
    omega
theorem refOffset_spec {fu : Nat} {l xs : List Int} (hl : Short l) (hf : l.length < fu) : ref04_Offset fu l xs = some (offsetV l xs) := by
  unfold ref04_Offset
  rw [refSize_spec hl hf, ob_some]
  simp only [sizeV, offsetV]
  by_cases hg : Good l
  · simp only [if_pos hg, if_true]
    by_cases hx : xs.length = l.length
    · rw [if_pos (by omega), if_pos hx]
      unfold ref04_Offset.W1
      have hP := hg.2.2
      have h8 := hg.1
      refine (cloop_ind (fun s => some (if okIx (l.drop s.2.toNat) (xs.drop s.2.toNat) = true then (wk .i64 (s.1 * prod (l.drop s.2.toNat) + offV (l.drop s.2.toNat) (xs.drop s.2.toNat)), (0 : Int)) else (0, 2))) (fun (s : Int × Int) => 0 ≤ s.2 ∧ s.2 ≤ l.length ∧ ∃ s', s.1 = wk .i64 s') (fun s => l.length - s.2.toNat) ?_ fu _ ⟨by simp, by simp, 0, by decide⟩ (by simp; omega)).trans ?_
      · rintro ⟨o, i⟩ ⟨h0, h1, s', rfl⟩ next hn
        simp only at h0 h1 hn ⊢
        obtain ⟨k, rfl⟩ := Int.eq_ofNat_of_zero_le h0
        unfold ref04_Offset.L1 ref04_Offset.k1; try unfold jn
        simp only [Int.toNat_natCast]
        by_cases hk : k < l.length
        · have hkx : k < xs.length := by omega
          rw [if_pos (by omega), at?_get hkx, ob_some]
          rw [List.drop_eq_getElem_cons hk, List.drop_eq_getElem_cons hkx]
          simp only [okIx, offV, Bool.and_eq_true, decide_eq_true_eq]
          by_cases hx1 : xs[k] < 0
          · rw [if_pos hx1, if_neg (by omega)]
          rw [if_neg hx1, at?_get hk, ob_some]
          by_cases hx2 : l[k] ≤ xs[k]
          · rw [if_pos hx2, if_neg (by omega)]
          rw [if_neg hx2, ob_some, ob_some, wk_add_l, wk_succ (by omega)]
          rw [hn (wk .i64 (wk .i64 s' * l[k] + xs[k]), ((k + 1 : Nat) : Int)) ⟨by simp only []; omega, by simp only []; omega, _, rfl⟩ (by simp; omega)]
          simp only [Int.toNat_natCast]
          by_cases hok : okIx (l.drop (k + 1)) (xs.drop (k + 1)) = true
          · rw [if_pos hok, if_pos ⟨⟨by omega, by omega⟩, hok⟩, wk_hor, Int.add_mul, prod, ← Int.mul_assoc, Int.add_assoc]
          · rw [if_neg hok, if_neg (fun h => hok h.2)]
        · rw [if_neg (by omega), List.drop_of_length_le (by omega), List.drop_of_length_le (by omega)]
          simp [okIx, offV, prod, wk_idem]
      · simp only [Int.toNat_zero, List.drop_zero, Int.zero_mul, Int.zero_add]
        by_cases hok : okIx l xs = true
        · obtain ⟨b1, b2⟩ := offV_lt (fun x hx => (hg.2.1 x hx).1) hx hok
          rw [if_pos hok, if_pos hok, wk_eq (by omega) (by omega)]
        · rw [if_neg hok, if_neg hok]
    · rw [if_neg (by omega), if_neg hx]
  · simp only [if_neg hg]
    rw [if_neg (errS_ne l)]
end Go.Av
set_option linter.unusedVariables false
namespace Go.Av
def newV (k : Int) (d : List Int) : T_Tensor × Int :=
  if k = 1 ∨ k = 7 ∨ k = 9 then (if Good d then (if k = 1 then (⟨k, d, List.replicate (prod d).toNat 0, [], []⟩, 0) else if k = 7 then (⟨k, d, [], List.replicate (prod d).toNat 0, []⟩, 0) else (⟨k, d, [], [], List.replicate (prod d).toNat false⟩, 0)) else (noT, errS d)) else (noT, 5)
theorem refKnown_spec {fu : Nat} {k : Int} : ref05_Known fu k = some (decide (k = 1 ∨ k = 7 ∨ k = 9)) := by
  unfold ref05_Known
  by_cases h1 : k = 1
  · simp [h1]
  · by_cases h2 : k = 7
    · simp [h2]
    · by_cases h3 : k = 9 <;> simp [h1, h2, h3]
theorem refNew_spec {fu : Nat} {k : Int} {d : List Int} (hd : Short d) (hf : d.length < fu) : ref05_New fu k d = some (newV k d) := by
  unfold ref05_New newV
  rw [refKnown_spec, ob_some, refSize_spec hd hf, ob_some]
  by_cases hk : k = 1 ∨ k = 7 ∨ k = 9
  · rw [if_pos (by simpa using hk), if_pos hk]
    simp only [sizeV]
    by_cases hg : Good d
    · simp only [if_pos hg, if_true]
      have h1 := prod_nonneg hg.2.1
      have h2 := hg.2.2
      have h3 := hg.1
      rw [chk_pos (by omega), chk_pos (by omega), chk_pos (by omega), chk_pos (by omega)]
      by_cases e1 : k = 1
      · rw [if_pos e1, if_pos e1]
      · rw [if_neg e1, if_neg e1]
        by_cases e2 : k = 7
        · rw [if_pos e2, if_pos e2]
        · rw [if_neg e2, if_neg e2]
    · simp only [if_neg hg]
      rw [if_neg (errS_ne d)]
      rfl
  · rw [if_neg (by simpa using hk), if_neg hk]
    rfl
theorem newV_small (k : Int) (d : List Int) : (newV k d).1.fDims.length ≤ 8 ∧ (newV k d).1.fF.length ≤ 4096 ∧ (newV k d).1.fI.length ≤ 4096 ∧ (newV k d).1.fB.length ≤ 4096 := by
  unfold newV noT
  split
  · split
    · rename_i hg
      have h2 := hg.2.2
      have h3 := hg.1
      split
      · simp; omega
      · split <;> simp <;> omega
    · simp
  · simp
theorem refCheck_spec {fu : Nat} {t : T_Tensor} (hs : Small t) (hf : Fuel fu t) : ref05_Check fu t = some (checkV t) := by
  obtain ⟨s1, s2, s3, s4⟩ := hs
  unfold ref05_Check checkV; try unfold jn
  rw [refKnown_spec, ob_some, refSize_spec (by unfold Short; omega) hf.1]
  by_cases hk : Known t.fType
  · rw [if_pos (by simpa [Known] using hk), ob_some, if_pos hk]
    simp only [sizeV]
    by_cases hg : Good t.fDims
    · simp only [if_pos hg, if_true]
      unfold ref05_Check.k1 LensOK
      have key : ∀ a b c : Int, (if (t.fF.length : Int) = a then (if (t.fI.length : Int) = b then (if (t.fB.length : Int) = c then (some 0 : Option Int) else some 3) else some 3) else some 3) = some (if (t.fF.length : Int) = a ∧ (t.fI.length : Int) = b ∧ (t.fB.length : Int) = c then 0 else 3) := fun a b c => by
        by_cases h1 : (t.fF.length : Int) = a <;> by_cases h2 : (t.fI.length : Int) = b <;> by_cases h3 : (t.fB.length : Int) = c <;> simp [h1, h2, h3]
      rcases hk with e | e | e
      · simp only [e, show ¬ (1 : Int) = 7 by decide, show ¬ (1 : Int) = 9 by decide, if_false, if_true, key]
      · simp only [e, show ¬ (7 : Int) = 1 by decide, show ¬ (7 : Int) = 9 by decide, if_false, if_true, key]
      · simp only [e, show ¬ (9 : Int) = 1 by decide, show ¬ (9 : Int) = 7 by decide, if_false, if_true, key]
    · simp only [if_neg hg]
      rw [if_neg (errS_ne _)]
  · rw [if_neg (by simpa [Known] using hk), if_neg hk]
theorem pick_loop {σ α β : Type} (st : List α → Nat → σ) {B : (σ → Option β) → σ → Option β} {at_ : List Int} (bad : Int → Bool) (pk : Int → α) (z : α) {e : Option β} {c : List α → Option β}
    (hB : ∀ (next : σ → Option β) (k : Nat) (m : List α) (hk : k < at_.length), m.length = at_.length → B next (st m k) = if bad at_[k] = true then e else next (st (if 0 ≤ at_[k] then m.set k (pk at_[k]) else m) (k + 1)))
    (hE : ∀ (next : σ → Option β) (m : List α), m.length = at_.length → B next (st m at_.length) = c m) (hz : ∀ a, ¬ 0 ≤ a → pk a = z) {fu : Nat} (hf : at_.length < fu) :
    cloop B fu (st (List.replicate at_.length z) 0) = if at_.any bad = true then e else c (at_.map pk) := by
  have key : ∀ (f k : Nat), k ≤ at_.length → at_.length - k < f → cloop B f (st ((at_.take k).map pk ++ List.replicate (at_.length - k) z) k) = if (at_.drop k).any bad = true then e else c (at_.map pk) := by
    intro f
    induction f with
    | zero => intro k _ h; omega
    | succ f ih =>
      intro k hk hf
      by_cases hkn : k = at_.length
      · subst hkn
        show B _ _ = _
        have := hE (cloop B f) ((at_.take at_.length).map pk ++ List.replicate (at_.length - at_.length) z) (by simp)
        rw [this]
        simp
      · have hk' : k < at_.length := by omega
        show B _ _ = _
        rw [hB _ _ _ hk' (by simp; omega), List.drop_eq_getElem_cons hk', List.any_cons]
        by_cases hb : bad at_[k] = true
        · simp [hb]
        · rw [if_neg hb]
          have hm : (if 0 ≤ at_[k] then ((at_.take k).map pk ++ List.replicate (at_.length - k) z).set k (pk at_[k]) else (at_.take k).map pk ++ List.replicate (at_.length - k) z) = (at_.take (k + 1)).map pk ++ List.replicate (at_.length - (k + 1)) z := by
            have hr : List.replicate (at_.length - k) z = z :: List.replicate (at_.length - (k + 1)) z := by rw [show at_.length - k = at_.length - (k + 1) + 1 by omega, List.replicate_succ]
            have ht : at_.take (k + 1) = at_.take k ++ [at_[k]] := by rw [List.take_add_one, List.getElem?_eq_getElem hk']; rfl
            have hlen : ((at_.take k).map pk).length = k := by simp; omega
            rw [hr, ht, List.map_append, List.append_assoc]
            split
            · rw [List.set_append_right _ _ (by omega), hlen, Nat.sub_self]
              rfl
            · rename_i h0
              rw [List.map_singleton, hz _ h0]
              rfl
          rw [hm, ih (k + 1) (by omega) (by omega)]
          simp [hb]
  have := key fu 0 (by omega) (by omega)
  simpa using this
def badP (N : Int) (x : Int) : Bool := decide (x < -1) || decide (N ≤ x)
def pkOf {α : Type} (src : List α) (z : α) (a : Int) : α := if 0 ≤ a then src.getD a.toNat z else z
def pickV (t : T_Tensor) (d l : List Int) : T_Tensor × Int :=
  if checkV t = 0 then (if (newV t.fType d).2 = 0 then (if (l.length : Int) = prod d then (if l.any (badP (t.fF.length + t.fI.length + t.fB.length)) = true then (noT, 2) else
    (if t.fType = 1 then ⟨t.fType, d, l.map (pkOf t.fF 0), [], []⟩ else if t.fType = 7 then ⟨t.fType, d, [], l.map (pkOf t.fI 0), []⟩ else ⟨t.fType, d, [], [], l.map (pkOf t.fB false)⟩, 0)) else (noT, 3)) else (noT, (newV t.fType d).2)) else (noT, checkV t)
theorem at?_pk {α : Type} {src : List α} {z : α} {a : Int} (h0 : 0 ≤ a) (h : a < src.length) : at? src a = some (pkOf src z a) := by
  obtain ⟨k, rfl⟩ := Int.eq_ofNat_of_zero_le h0
  rw [at?_get (by omega), pkOf, if_pos h0, List.getD_eq_getElem?_getD, Int.toNat_natCast, List.getElem?_eq_getElem (by omega)]
  rfl
theorem pkOf_neg {α : Type} {src : List α} {z : α} {a : Int} (h : ¬ 0 ≤ a) : pkOf src z a = z := if_neg h
theorem newV_ok {k : Int} {d : List Int} (h : (newV k d).2 = 0) : Known k ∧ Good d ∧ newV k d = (if k = 1 then (⟨k, d, List.replicate (prod d).toNat 0, [], []⟩, 0) else if k = 7 then (⟨k, d, [], List.replicate (prod d).toNat 0, []⟩, 0) else (⟨k, d, [], [], List.replicate (prod d).toNat false⟩, 0)) := by
  unfold newV at h ⊢
  by_cases hk : k = 1 ∨ k = 7 ∨ k = 9
  · rw [if_pos hk] at h ⊢
    by_cases hg : Good d
    · rw [if_pos hg]
      exact ⟨hk, hg, rfl⟩
    · rw [if_neg hg] at h
      exact absurd h (errS_ne d)
  · rw [if_neg hk] at h
    cases h
theorem sumW {a b c : Nat} (h1 : a ≤ 140737488355328) (h2 : b ≤ 140737488355328) (h3 : c ≤ 140737488355328) : wk .i64 ((wk .i64 ((a : Int) + (b : Int))) + (c : Int)) = (a : Int) + b + c := by
  rw [wk_add_l, wk_eq (by omega) (by omega)]
theorem notbad {N : Int} {l : List Int} (h : ¬ l.any (badP N) = true) {k : Nat} (hk : k < l.length) : -1 ≤ l[k] ∧ l[k] < N := by
  have := h
  simp only [List.any_eq_true, not_exists, not_and, badP, Bool.or_eq_true, decide_eq_true_eq] at this
  have := this _ (List.getElem_mem hk)
  omega
end Go.Av
set_option linter.unusedVariables false
namespace Go.Av
def vAt (vs : List T_Val) (i : Nat) : T_Val := vs.getD i zeroVal
theorem cloop_succ' {σ β : Type} {body : (σ → Option β) → σ → Option β} {n : Nat} {s : σ} : cloop body (n + 1) s = body (cloop body n) s := rfl
section
variable {fu : Nat} {s : T_Setting} {vs : List T_Val}
theorem val_spec {i : Nat} : infer_ask_val fu ⟨74, s, vs, 1⟩ (i : Int) = some (vAt vs i) := by
  have h0 : infer_ask_val fu ⟨74, s, vs, 1⟩ (i : Int) = if (i : Int) < (vs.length : Int) then ((at? vs (i : Int)).bind fun x3 => some x3) else some zeroVal := rfl
  rw [h0]; unfold vAt
  by_cases h : i < vs.length
  · rw [if_pos (by omega), at?_get h, ob_some, List.getD_eq_getElem?_getD, List.getElem?_eq_getElem h]; rfl
  · rw [if_neg (by omega), List.getD_eq_getElem?_getD, List.getElem?_eq_none (by omega)]; rfl
theorem has_spec {i : Nat} : infer_ask_has fu ⟨74, s, vs, 1⟩ (i : Int) = some (!(decide ((vAt vs i).fType = 0))) := by
  have h0 : infer_ask_has fu ⟨74, s, vs, 1⟩ (i : Int) = (infer_ask_val fu ⟨74, s, vs, 1⟩ (i : Int)).bind fun x3 => some (!(decide (x3.fType = 0))) := rfl
  rw [h0, val_spec]; rfl
theorem dims_spec {i : Nat} : infer_ask_dims fu ⟨74, s, vs, 1⟩ (i : Int) = some (vAt vs i).fDims := by
  have h0 : infer_ask_dims fu ⟨74, s, vs, 1⟩ (i : Int) = (infer_ask_val fu ⟨74, s, vs, 1⟩ (i : Int)).bind fun x3 => some x3.fDims := rfl
  rw [h0, val_spec]; rfl
def FullV (vs : List T_Val) : Prop := 2 ≤ vs.length ∧ vs.length ≤ 3 ∧ (vAt vs 0).fType ≠ 0 ∧ (vAt vs 1).fType ≠ 0
theorem complete_spec : infer_ask_complete (fu + 3) ⟨74, s, vs, 1⟩ = some (@decide (FullV vs) (Classical.propDecidable _)) := by
  have h : infer_ask_complete (fu + 3) ⟨74, s, vs, 1⟩ = if (vs.length : Int) < 2 then some false else if 3 < (vs.length : Int) then some false else infer_ask_complete.W1 (fu + 3) ⟨74, s, vs, 1⟩ (2, 3, 1, 1) 0 := rfl
  rw [h]
  have no : ¬ FullV vs → @decide (FullV vs) (Classical.propDecidable _) = false := fun h => by simpa using h
  have yes : FullV vs → @decide (FullV vs) (Classical.propDecidable _) = true := fun h => by simpa using h
  by_cases h2 : (vs.length : Int) < 2
  · rw [if_pos h2, no (fun hh => by have := hh.1; omega)]
  rw [if_neg h2]
  by_cases h3 : 3 < (vs.length : Int)
  · rw [if_pos h3, no (fun hh => by have := hh.2.1; omega)]
  rw [if_neg h3]
  unfold infer_ask_complete.W1
  rw [cloop_succ, infer_ask_complete.L1, if_pos (by decide)]
  have a0 := has_spec (fu := fu + 3) (s := s) (vs := vs) (i := 0)
  have a1 := has_spec (fu := fu + 3) (s := s) (vs := vs) (i := 1)
  show (infer_ask_has (fu + 3) ⟨74, s, vs, 1⟩ ((0 : Nat) : Int)).bind _ = _
  rw [a0, ob_some]
  by_cases h0 : (vAt vs 0).fType = 0
  · rw [no (fun hh => hh.2.2.1 h0)]; simp [h0]
  rw [if_pos (by simp [h0]), cloop_succ, show wk .i64 (0 + 1) = 1 from rfl, infer_ask_complete.L1, if_pos (by decide)]
  show (infer_ask_has (fu + 3) ⟨74, s, vs, 1⟩ ((1 : Nat) : Int)).bind _ = _
  rw [a1, ob_some]
  by_cases h1 : (vAt vs 1).fType = 0
  · rw [no (fun hh => hh.2.2.2 h1)]; simp [h1]
  rw [if_pos (by simp [h1]), cloop_succ, yes ⟨by omega, by omega, h0, h1⟩]
  rfl
theorem fits_spec {i : Nat} : infer_ask_fits fu ⟨74, s, vs, 1⟩ (i : Int) 102 = some (decide ((vAt vs i).fType = 1)) := by
  have h0 : infer_ask_fits fu ⟨74, s, vs, 1⟩ (i : Int) 102 = (infer_ask_val fu ⟨74, s, vs, 1⟩ (i : Int)).bind fun x4 => some (decide (x4.fType = 1)) := rfl
  rw [h0, val_spec]; rfl
theorem width_one {k : Int} : tens_Width fu k = some (if k = 1 then 4 else if k = 7 then 8 else if k = 9 then 1 else 0) := by
  unfold tens_Width; repeat' split
  all_goals rfl
def TypedV (vs : List T_Val) : Prop := ∀ v ∈ vs, v.fType = 0 ∨ v.fType = 1
instance (vs : List T_Val) : Decidable (TypedV vs) := by unfold TypedV; infer_instance
theorem sort_at {k : Nat} : sat? (⟨#[102]⟩ : ByteArray) (imin (k : Int) (wk .i64 (((⟨#[102]⟩ : ByteArray).size : Int) - 1))) = some 102 := by
  have : imin (k : Int) (wk .i64 (((⟨#[102]⟩ : ByteArray).size : Int) - 1)) = 0 := by
    show imin (k : Int) 0 = 0
    unfold imin; split <;> omega
  rw [this]; rfl
theorem vAt_get {k : Nat} (hk : k < vs.length) : vAt vs k = vs[k] := by
  unfold vAt; rw [List.getD_eq_getElem?_getD, List.getElem?_eq_getElem hk]; rfl
theorem typed_spec (hl : vs.length ≤ 1048576) (hf : vs.length < fu) : infer_ask_typed fu ⟨74, s, vs, 1⟩ = some (decide (TypedV vs)) := by
  have h : infer_ask_typed fu ⟨74, s, vs, 1⟩ = infer_ask_typed.W1 fu ⟨74, s, vs, 1⟩ ⟨#[102]⟩ 0 := rfl
  rw [h]
  unfold infer_ask_typed.W1
  refine (cloop_ind (fun (i : Int) => some (decide (TypedV (vs.drop i.toNat)))) (fun i => 0 ≤ i ∧ i ≤ vs.length) (fun i => vs.length - i.toNat) ?_ fu 0 (by simp) (by simp; omega)).trans (by simp)
  rintro i ⟨h0, h1⟩ next hn
  obtain ⟨k, rfl⟩ := Int.eq_ofNat_of_zero_le h0
  show infer_ask_typed.L1 fu ⟨74, s, vs, 1⟩ ⟨#[102]⟩ next ((k : Nat) : Int) = _
  rw [infer_ask_typed.L1]
  simp only [Int.toNat_natCast]
  by_cases hk : k < vs.length
  · rw [if_pos (show ((k : Nat) : Int) < (vs.length : Int) by omega), has_spec, ob_some, val_spec, ob_some, width_one, ob_some, sort_at, ob_some, fits_spec, ob_some, wk_succ (by omega), hn _ (by omega) (by simp; omega), vAt_get hk]
    simp only [Int.toNat_natCast]
    have ht : TypedV (vs.drop k) ↔ (vs[k].fType = 0 ∨ vs[k].fType = 1) ∧ TypedV (vs.drop (k + 1)) := by
      have e := List.drop_eq_getElem_cons hk
      generalize vs.drop (k + 1) = w at *
      generalize vs[k] = x at *
      rw [e]
      unfold TypedV
      exact List.forall_mem_cons
    by_cases e0 : vs[k].fType = 0
    · rw [if_neg (by simp [e0])]
      congr 1
      exact decide_eq_decide.2 ⟨fun h => ht.2 ⟨.inl e0, h⟩, fun h => (ht.1 h).2⟩
    · rw [if_pos (by simp [e0])]
      by_cases e1 : vs[k].fType = 1
      · rw [if_neg (by rw [if_pos e1]; decide), if_pos (by simp [e1])]
        congr 1
        exact decide_eq_decide.2 ⟨fun h => ht.2 ⟨.inr e1, h⟩, fun h => (ht.1 h).2⟩
      · have hno : decide (TypedV (vs.drop k)) = false := decide_eq_false fun h => ((ht.1 h).1).elim e0 e1
        rw [hno, if_neg (show ¬ decide (vs[k].fType = 1) = true by simp [e1])]
        exact ite_self _
  · have hv : TypedV (vs.drop k) := by rw [List.drop_of_length_le (by omega)]; intro v hv; cases hv
    rw [if_neg (show ¬ ((k : Nat) : Int) < (vs.length : Int) by omega), decide_eq_true hv]; rfl
theorem attr_spec : infer_ask_attributes fu ⟨74, s, vs, 1⟩ = some true := by
  have e : infer_ask_attributes fu ⟨74, s, vs, 1⟩ = ((infer_ask_dims fu ⟨74, s, vs, 1⟩ ((0 : Nat) : Int)).bind fun d => some (d.length : Int)).bind fun _ => some true := rfl
  rw [e, dims_spec]; rfl
theorem told_spec : infer_ask_told (fu + 3) ⟨74, s, vs, 1⟩ = some 0 := rfl
def SizedV (vs : List T_Val) : Prop := ∀ v ∈ vs, (v.fType = 0 ∧ v.fDims = []) ∨ Good v.fDims
theorem wrong_spec (hs : SizedV vs) (hl : vs.length ≤ 1048576) (hf : vs.length + 20 < fu + 3) : infer_ask_wrong (fu + 3) ⟨74, s, vs, 1⟩ = some (if TypedV vs then 0 else 5) := by
  have h : infer_ask_wrong (fu + 3) ⟨74, s, vs, 1⟩ = infer_ask_wrong.W1 (fu + 3) ⟨74, s, vs, 1⟩ 0 := rfl
  rw [h]
  unfold infer_ask_wrong.W1
  have hk1 : infer_ask_wrong.k1 (fu + 3) ⟨74, s, vs, 1⟩ = some (if TypedV vs then 0 else 5) := by
    have e : infer_ask_wrong.k1 (fu + 3) ⟨74, s, vs, 1⟩ = (infer_ask_typed (fu + 3) ⟨74, s, vs, 1⟩).bind fun x2 => if x2 = true then ((infer_ask_attributes (fu + 3) ⟨74, s, vs, 1⟩).bind fun x3 => if x3 = true then ((infer_ask_told (fu + 3) ⟨74, s, vs, 1⟩).bind fun x4 => some x4) else some 14) else some 5 := rfl
    rw [e, typed_spec hl (by omega), ob_some, attr_spec, ob_some, told_spec, ob_some]
    by_cases ht : TypedV vs
    · rw [if_pos (decide_eq_true ht), if_pos ht]; rfl
    · rw [if_neg (by simpa using ht), if_neg ht]
  refine cloop_ind (fun (i : Int) => some (if TypedV vs then 0 else 5)) (fun i => 0 ≤ i ∧ i ≤ vs.length) (fun i => vs.length - i.toNat) ?_ (fu + 3) 0 (by simp) (by simp; omega)
  rintro i ⟨h0, h1⟩ next hn
  obtain ⟨k, rfl⟩ := Int.eq_ofNat_of_zero_le h0
  show infer_ask_wrong.L1 (fu + 3) ⟨74, s, vs, 1⟩ next ((k : Nat) : Int) = _
  rw [infer_ask_wrong.L1]
  by_cases hk : k < vs.length
  · have hd := hs _ (List.getElem_mem hk)
    rw [if_pos (show ((k : Nat) : Int) < (vs.length : Int) by omega)]
    show (at? vs ((k : Nat) : Int)).bind _ = _
    rw [at?_get hk, ob_some]
    show (shape_Size (fu + 3) vs[k].fDims).bind _ = _
    have hg : Good vs[k].fDims := by
      rcases hd with hd | hd
      · rw [hd.2]; exact ⟨by simp, fun (x : Int) (hx : x ∈ []) => absurd hx (by simp), by simp [prod]⟩
      · exact hd
    have hg1 := hg.1
    rw [Size_spec (by unfold Short; omega) (by omega), ob_some]
    show (infer_ask_has (fu + 3) ⟨74, s, vs, 1⟩ ((k : Nat) : Int)).bind _ = _
    rw [has_spec, ob_some, sizeV, if_pos hg, if_pos rfl, wk_succ (by omega), hn _ (by omega) (by simp; omega)]
    split <;> rfl
  · rw [if_neg (show ¬ ((k : Nat) : Int) < (vs.length : Int) by omega)]; exact hk1
end
end Go.Av
set_option linter.unusedVariables false
namespace Go.Av
theorem two_of {l : List Int} (h : l.length = 2) : ∃ a b, l = [a, b] := by
  match l, h with
  | [a, b], _ => exact ⟨a, b, rfl⟩
def withinV (x y : List Int) : Int := if (broadcastV x y).2 = 4 then 4 else if (broadcastV x y).2 = 0 then (if (broadcastV x y).1 = y then 0 else 3) else 3
def tw (t : Bool) (a b : Int) : Int := if t = true then b else a
section
variable {fu : Nat} {s : T_Setting} {vs : List T_Val}
theorem within_spec {x y : List Int} (hx : x.length ≤ 8) (hy : y.length ≤ 8) (hf : 20 < fu) : infer_within fu x y = some (withinV x y) := by
  unfold infer_within withinV
  rw [Broadcast_spec (by unfold Short; omega) (by unfold Short; omega) (by omega) (by omega) (by omega), ob_some]
  by_cases h4 : (broadcastV x y).2 = 4
  · rw [if_pos h4, if_pos h4, h4]
  rw [if_neg h4, if_neg h4]
  by_cases h0 : (broadcastV x y).2 = 0
  · rw [if_pos h0, if_pos h0]
    have hl : (broadcastV x y).1.length ≤ 8 := by
      unfold broadcastV at h0 ⊢
      split
      · split
        · rename_i ha hb
          rw [if_pos ha, if_pos hb] at h0
          cases hbc : bc x y with
          | none => simp
          | some l =>
            simp only []
            split
            · rename_i hl; exact hl.1
            · simp
        · simp
      · simp
    rw [Equal_spec (by unfold Short; omega) (by omega), ob_some]
    by_cases h1 : (broadcastV x y).1 = y
    · rw [if_pos (decide_eq_true h1), if_pos h1]
    · rw [if_neg (by simpa using h1), if_neg h1]
  · rw [if_neg h0, if_neg h0]
structure GemmC (s : T_Setting) (vs : List T_Val) (a b c e : Int) : Prop where
  dx : (vAt vs 0).fDims = [a, b]
  dy : (vAt vs 1).fDims = [c, e]
  mid : tw s.fTransA b a = tw s.fTransB c e
  bias : (vAt vs 2).fType ≠ 0 → withinV (vAt vs 2).fDims [tw s.fTransA a b, tw s.fTransB e c] = 0
def outG (s : T_Setting) (vs : List T_Val) (a b c e : Int) : List (List Int) × Int :=
  if tw s.fTransA b a = tw s.fTransB c e then (if (vAt vs 2).fType = 0 then ([[tw s.fTransA a b, tw s.fTransB e c]], 0) else if withinV (vAt vs 2).fDims [tw s.fTransA a b, tw s.fTransB e c] = 0 then ([[tw s.fTransA a b, tw s.fTransB e c]], 0) else ([], withinV (vAt vs 2).fDims [tw s.fTransA a b, tw s.fTransB e c])) else ([], 3)
theorem gemm_k3 {a b c e : Int} (hb : (vAt vs 2).fDims.length ≤ 8) (hf : 20 < fu) {x6 x8 : Bool} (h6 : x6 = s.fTransA) (h8 : x8 = s.fTransB) :
    infer_ask_gemm.k3 fu ⟨74, s, vs, 1⟩ x6 [tw s.fTransA a b, tw s.fTransA b a] x8 [tw s.fTransB c e, tw s.fTransB e c] = some (outG s vs a b c e) := by
  subst h6 h8
  have h0 : infer_ask_gemm.k3 fu ⟨74, s, vs, 1⟩ s.fTransA [tw s.fTransA a b, tw s.fTransA b a] s.fTransB [tw s.fTransB c e, tw s.fTransB e c] = if tw s.fTransA b a = tw s.fTransB c e then ((infer_ask_has fu ⟨74, s, vs, 1⟩ ((2 : Nat) : Int)).bind fun x14 => if x14 = true then ((infer_ask_dims fu ⟨74, s, vs, 1⟩ ((2 : Nat) : Int)).bind fun x15 => (infer_within fu x15 ([tw s.fTransA a b, tw s.fTransB e c])).bind fun x16 => if x16 = 0 then some ([[tw s.fTransA a b, tw s.fTransB e c]], 0) else some ([], x16)) else some ([[tw s.fTransA a b, tw s.fTransB e c]], 0)) else some ([], 3) := rfl
  rw [h0]
  unfold outG
  by_cases hm : tw s.fTransA b a = tw s.fTransB c e
  · rw [if_pos hm, if_pos hm, has_spec, ob_some]
    by_cases h2 : (vAt vs 2).fType = 0
    · rw [if_neg (by simp [h2]), if_pos h2]
    · rw [if_pos (by simp [h2]), if_neg h2, dims_spec, ob_some, within_spec hb (by simp) hf, ob_some]
      split <;> rfl
  · rw [if_neg hm, if_neg hm]
theorem gemm_spec {a b c e : Int} (hx : (vAt vs 0).fDims = [a, b]) (hy : (vAt vs 1).fDims = [c, e]) (hb : (vAt vs 2).fDims.length ≤ 8) (hf : 20 < fu) :
    infer_ask_gemm (fu + 3) ⟨74, s, vs, 1⟩ = some (outG s vs a b c e) := by
  have h0 : infer_ask_gemm (fu + 3) ⟨74, s, vs, 1⟩ = (infer_ask_dims (fu + 3) ⟨74, s, vs, 1⟩ ((0 : Nat) : Int)).bind fun x2 => (slices_Clone_int (fu + 3) x2).bind fun x3 => (infer_ask_dims (fu + 3) ⟨74, s, vs, 1⟩ ((1 : Nat) : Int)).bind fun x4 => (slices_Clone_int (fu + 3) x4).bind fun x5 => if (x3.length : Int) = 2 then (if (x5.length : Int) = 2 then (infer_ask_gemm.k1 (fu + 3) ⟨74, s, vs, 1⟩ x3 x5) else some ([], 3)) else some ([], 3) := rfl
  rw [h0, dims_spec, ob_some, CloneI_spec (by rw [hx]; simp), ob_some, dims_spec, ob_some, CloneI_spec (by rw [hy]; simp), ob_some, hx, hy, if_pos (by simp), if_pos (by simp)]
  have K2 : ∀ x6, x6 = s.fTransA → infer_ask_gemm.k2 (fu + 3) ⟨74, s, vs, 1⟩ [c, e] x6 [tw s.fTransA a b, tw s.fTransA b a] = some (outG s vs a b c e) := fun x6 h6 => by
    unfold infer_ask_gemm.k2 jn
    cases hB : s.fTransB with
    | false =>
      rw [if_neg (by decide)]
      have := gemm_k3 (fu := fu + 3) (s := s) (vs := vs) (a := a) (b := b) (c := c) (e := e) hb (by omega) h6 (x8 := false) hB.symm
      have e1 : tw s.fTransB c e = c := by rw [hB]; rfl
      have e2 : tw s.fTransB e c = e := by rw [hB]; rfl
      rw [e1, e2] at this
      exact this
    | true =>
      rw [if_pos rfl]
      have := gemm_k3 (fu := fu + 3) (s := s) (vs := vs) (a := a) (b := b) (c := c) (e := e) hb (by omega) h6 (x8 := true) hB.symm
      have e1 : tw s.fTransB c e = e := by rw [hB]; rfl
      have e2 : tw s.fTransB e c = c := by rw [hB]; rfl
      rw [e1, e2] at this
      unfold infer_ask_gemm.W1
      rw [cloop_succ']
      show infer_ask_gemm.L1 (fu + 3) ⟨74, s, vs, 1⟩ [c, e] x6 _ (fun x22 x23 x24 => cloop _ _ (x22, x23, x24)) [c, e] 0 1 = _
      rw [infer_ask_gemm.L1, if_pos (by decide), chk_pos (by simp)]
      show chk _ (chk _ (chk _ (cloop _ _ ([e, c], (1 : Int), (0 : Int))))) = _
      rw [chk_pos (by simp), chk_pos (by simp), chk_pos (by simp), cloop_succ']
      show infer_ask_gemm.L1 (fu + 3) ⟨74, s, vs, 1⟩ [c, e] x6 _ _ [e, c] 1 0 = _
      rw [infer_ask_gemm.L1, if_neg (by decide), chk_pos (by simp)]
      exact this
  unfold infer_ask_gemm.k1 jn
  cases hA : s.fTransA with
  | false =>
    rw [if_neg (by decide)]
    have := K2 false hA.symm
    have e1 : tw s.fTransA a b = a := by rw [hA]; rfl
    have e2 : tw s.fTransA b a = b := by rw [hA]; rfl
    rw [e1, e2] at this
    exact this
  | true =>
    rw [if_pos rfl]
    have := K2 true hA.symm
    have e1 : tw s.fTransA a b = b := by rw [hA]; rfl
    have e2 : tw s.fTransA b a = a := by rw [hA]; rfl
    rw [e1, e2] at this
    unfold infer_ask_gemm.W2
    rw [cloop_succ']
    show infer_ask_gemm.L2 (fu + 3) ⟨74, s, vs, 1⟩ [a, b] [c, e] (fun x22 x23 x24 => cloop _ _ (x22, x23, x24)) [a, b] 0 1 = _
    rw [infer_ask_gemm.L2, if_pos (by decide), chk_pos (by simp)]
    show chk _ (chk _ (chk _ (cloop _ _ ([b, a], (1 : Int), (0 : Int))))) = _
    rw [chk_pos (by simp), chk_pos (by simp), chk_pos (by simp), cloop_succ']
    show infer_ask_gemm.L2 (fu + 3) ⟨74, s, vs, 1⟩ [a, b] [c, e] _ [b, a] 1 0 = _
    rw [infer_ask_gemm.L2, if_neg (by decide), chk_pos (by simp)]
    exact this
theorem gemm_not (h0 : (vAt vs 0).fDims.length ≤ 8) (h1 : (vAt vs 1).fDims.length ≤ 8) (h : ¬ ((vAt vs 0).fDims.length = 2 ∧ (vAt vs 1).fDims.length = 2)) : infer_ask_gemm (fu + 3) ⟨74, s, vs, 1⟩ = some ([], 3) := by
  have e0 : infer_ask_gemm (fu + 3) ⟨74, s, vs, 1⟩ = (infer_ask_dims (fu + 3) ⟨74, s, vs, 1⟩ ((0 : Nat) : Int)).bind fun x2 => (slices_Clone_int (fu + 3) x2).bind fun x3 => (infer_ask_dims (fu + 3) ⟨74, s, vs, 1⟩ ((1 : Nat) : Int)).bind fun x4 => (slices_Clone_int (fu + 3) x4).bind fun x5 => if (x3.length : Int) = 2 then (if (x5.length : Int) = 2 then (infer_ask_gemm.k1 (fu + 3) ⟨74, s, vs, 1⟩ x3 x5) else some ([], 3)) else some ([], 3) := rfl
  rw [e0, dims_spec, ob_some, CloneI_spec (by omega), ob_some, dims_spec, ob_some, CloneI_spec (by omega), ob_some]
  by_cases a : (vAt vs 0).fDims.length = 2
  · rw [if_pos (by omega), if_neg (by omega)]
  · rw [if_neg (by omega)]
structure NodeG (s : T_Setting) (vs : List T_Val) (a b c e : Int) : Prop where
  full : FullV vs
  typed : TypedV vs
  gemm : GemmC s vs a b c e
  good : Good [tw s.fTransA a b, tw s.fTransB e c]
theorem vAt_type (ht : TypedV vs) (i : Nat) : (vAt vs i).fType = 0 ∨ (vAt vs i).fType = 1 := by
  by_cases h : i < vs.length
  · rw [vAt_get h]; exact ht _ (List.getElem_mem h)
  · left; unfold vAt; rw [List.getD_eq_getElem?_getD, List.getElem?_eq_none (by omega)]; rfl
theorem dim_len (hs : SizedV vs) (i : Nat) : (vAt vs i).fDims.length ≤ 8 := by
  by_cases h : i < vs.length
  · rw [vAt_get h]
    rcases hs _ (List.getElem_mem h) with hd | hd
    · rw [hd.2]; simp
    · exact hd.1
  · unfold vAt; rw [List.getD_eq_getElem?_getD, List.getElem?_eq_none (by omega)]; simp [zeroVal]
theorem Node_eq : infer_Node (fu + 3) 74 s vs 1 = (infer_ask_complete (fu + 3) ⟨74, s, vs, 1⟩).bind fun x5 => if x5 = true then ((infer_ask_wrong (fu + 3) ⟨74, s, vs, 1⟩).bind fun x6 => if x6 = 0 then
    (((infer_ask_dims (fu + 3) ⟨74, s, vs, 1⟩ ((0 : Nat) : Int)).bind fun _ => (infer_ask_gemm (fu + 3) ⟨74, s, vs, 1⟩).bind fun x3 => some (x3.1, x3.2)).bind fun x7 => if x7.2 = 0 then (infer_Node.W1 (fu + 3) s vs 1 x7 ([] : List T_Val) 0) else some ([], x7.2)) else some ([], x6)) else some ([], 1) := rfl
theorem Node_W1 {d : List Int} (hd : d.length ≤ 100) (hf : 200 < fu) : infer_Node.W1 (fu + 3) s vs 1 ([d], 0) [] 0 = if Good d then some ([⟨(vAt vs 0).fType, d, false, ⟨0, [], [], [], []⟩⟩], 0) else some ([], 4) := by
  unfold infer_Node.W1
  rw [cloop_succ']
  show infer_Node.L1 (fu + 3) s vs 1 ([d], 0) _ [] 0 = _
  rw [infer_Node.L1, if_pos (show (0 : Int) < ((([d], 0) : List (List Int) × Int).1.length : Int) by simp)]
  show (some d).bind _ = _
  rw [ob_some, Size_spec (by unfold Short; omega) (by omega), ob_some]
  by_cases hg : Good d
  · have ho : infer_ask_out (fu + 3) (T_infer_ask.mk 74 s vs 1) = (infer_ask_val (fu + 3) ⟨74, s, vs, 1⟩ ((0 : Nat) : Int)).bind fun x2 => some x2.fType := rfl
    rw [sizeV, if_pos hg, if_pos rfl, ho, val_spec, ob_some, ob_some, CloneI_spec (by omega), ob_some, chk_pos (by simp), cloop_succ', if_pos hg]
    rfl
  · rw [sizeV, if_neg hg, if_neg (errS_ne d), if_neg hg]
theorem outG_ok {a b c e : Int} (h : GemmC s vs a b c e) : outG s vs a b c e = ([[tw s.fTransA a b, tw s.fTransB e c]], 0) := by
  unfold outG
  rw [if_pos h.mid]
  by_cases h2 : (vAt vs 2).fType = 0
  · rw [if_pos h2]
  · rw [if_neg h2, if_pos (h.bias h2)]
theorem Node_fwd {a b c e : Int} (h : NodeG s vs a b c e) (hs : SizedV vs) (hf : 200 < fu) :
    infer_Node (fu + 3) 74 s vs 1 = some ([⟨1, [tw s.fTransA a b, tw s.fTransB e c], false, ⟨0, [], [], [], []⟩⟩], 0) := by
  have hl := h.full.2.1
  have t0 : (vAt vs 0).fType = 1 := (vAt_type h.typed 0).resolve_left h.full.2.2.1
  have c1 : @decide (FullV vs) (Classical.propDecidable _) = true := by simpa using h.full
  rw [Node_eq, complete_spec, ob_some, c1, if_pos rfl, wrong_spec hs (by omega) (by omega), ob_some, if_pos h.typed, if_pos rfl, dims_spec, ob_some, gemm_spec h.gemm.dx h.gemm.dy (dim_len hs 2) (by omega), outG_ok h.gemm, ob_some, ob_some, if_pos rfl, Node_W1 (by simp) hf, if_pos h.good, t0]
theorem Node_tot (hs : SizedV vs) (hl : vs.length ≤ 1048576) (hf : vs.length + 200 < fu) :
    (∃ e, e ≠ 0 ∧ infer_Node (fu + 3) 74 s vs 1 = some ([], e)) ∨ ∃ a b c e, NodeG s vs a b c e := by
  by_cases c1 : FullV vs
  · have d1 : @decide (FullV vs) (Classical.propDecidable _) = true := by simpa using c1
    have hw := wrong_spec (fu := fu) (s := s) hs hl (by omega)
    by_cases c2 : TypedV vs
    · rw [if_pos c2] at hw
      by_cases c3 : (vAt vs 0).fDims.length = 2 ∧ (vAt vs 1).fDims.length = 2
      · obtain ⟨a, b, hx⟩ := two_of c3.1
        obtain ⟨c, e, hy⟩ := two_of c3.2
        have hg := gemm_spec (fu := fu) (s := s) hx hy (dim_len hs 2) (by omega)
        by_cases h0 : (outG s vs a b c e).2 = 0
        · have hC : GemmC s vs a b c e := by
            unfold outG at h0
            by_cases hm : tw s.fTransA b a = tw s.fTransB c e
            · rw [if_pos hm] at h0
              refine ⟨hx, hy, hm, fun h2 => ?_⟩
              rw [if_neg h2] at h0
              by_cases hw0 : withinV (vAt vs 2).fDims [tw s.fTransA a b, tw s.fTransB e c] = 0
              · exact hw0
              · rw [if_neg hw0] at h0; exact absurd h0 hw0
            · rw [if_neg hm] at h0; exact absurd h0 (by decide)
          by_cases hgd : Good [tw s.fTransA a b, tw s.fTransB e c]
          · exact .inr ⟨a, b, c, e, c1, c2, hC, hgd⟩
          · left
            refine ⟨4, by decide, ?_⟩
            rw [Node_eq, complete_spec, ob_some, d1, if_pos rfl, hw, ob_some, if_pos rfl, dims_spec, ob_some, hg, outG_ok hC, ob_some, ob_some, if_pos rfl, Node_W1 (by simp) (by omega), if_neg hgd]
        · left
          refine ⟨(outG s vs a b c e).2, h0, ?_⟩
          rw [Node_eq, complete_spec, ob_some, d1, if_pos rfl, hw, ob_some, if_pos rfl, dims_spec, ob_some, hg, ob_some, ob_some, if_neg h0]
      · left
        refine ⟨3, by decide, ?_⟩
        rw [Node_eq, complete_spec, ob_some, d1, if_pos rfl, hw, ob_some, if_pos rfl, dims_spec, ob_some, gemm_not (dim_len hs 0) (dim_len hs 1) c3, ob_some, ob_some, if_neg (by decide)]
    · rw [if_neg c2] at hw
      left
      refine ⟨5, by decide, ?_⟩
      rw [Node_eq, complete_spec, ob_some, d1, if_pos rfl, hw, ob_some, if_neg (by decide)]
  · have d1 : ¬ @decide (FullV vs) (Classical.propDecidable _) = true := by simpa using c1
    left
    refine ⟨1, by decide, ?_⟩
    rw [Node_eq, complete_spec, ob_some, if_neg d1]
end
end Go.Av
set_option linter.unusedVariables false
namespace Go.Av
theorem fromS_lt : ∀ {s l xs : List Int}, s.length = l.length → l.length = xs.length → dimsFit s l → okIx l xs = true → 0 ≤ fromS s xs ∧ fromS s xs < prod s
  | [], [], [], _, _, _, _ => by simp [fromS, prod]
  | d :: s, x :: l, y :: xs, h1, h2, hf, ho => by
    simp only [okIx, Bool.and_eq_true, decide_eq_true_eq] at ho
    obtain ⟨f1, f2⟩ := fromS_lt (s := s) (l := l) (xs := xs) (by simpa using h1) (by simpa using h2) hf.2 ho.2
    simp only [fromS, prod]
    by_cases hd : d = 1
    · rw [if_pos hd, hd, Int.one_mul]; omega
    · rw [if_neg hd]
      have := hf.1.resolve_left hd
      have m1 : (y + 1) * prod s ≤ d * prod s := Int.mul_le_mul_of_nonneg_right (by omega) (by omega)
      rw [Int.add_mul, Int.one_mul] at m1
      have m2 : 0 ≤ y * prod s := Int.mul_nonneg ho.1.1 (by omega)
      omega
theorem from_in {A B : List Int} (h : (broadcastV A B).2 = 0) {k : Nat} (hk : (k : Int) < prod (broadcastV A B).1) :
    Good (broadcastV A B).1 ∧ (∃ i : Nat, fromV A (broadcastV A B).1 k = ((i : Int), 0) ∧ (i : Int) < prod A) ∧ ∃ j : Nat, fromV B (broadcastV A B).1 k = ((j : Int), 0) ∧ (j : Int) < prod B := by
  unfold broadcastV at h
  by_cases hA : Good A
  · by_cases hB : Good B
    · simp only [if_pos hA, if_pos hB] at h
      cases hb : bc A B with
      | none => rw [hb] at h; simp at h
      | some l =>
        rw [hb] at h
        simp only at h
        by_cases hl : Good l
        · have e : broadcastV A B = (l, 0) := by unfold broadcastV; rw [if_pos hA, if_pos hB, hb]; simp only [if_pos hl]
          rw [e] at hk ⊢
          simp only at hk ⊢
          have hn : prod l ≠ 0 := by omega
          have hp := pos_of_good hl hn
          have key : ∀ S : List Int, Good S → bc S l = some l → ∃ i : Nat, fromV S l k = ((i : Int), 0) ∧ (i : Int) < prod S := fun S hS hb2 => by
            have e2 : broadcastV S l = (l, 0) := by unfold broadcastV; rw [if_pos hS, if_pos hl, hb2]; simp only [if_pos hl]
            obtain ⟨f1, _, f3⟩ := bcast_fit hS hl e2
            unfold fromV
            rw [if_pos hS, if_pos hl, if_pos e2, if_pos ⟨by omega, hk⟩]
            have hi := okIx_idx hp (a := (k : Int)) (by omega) hk
            have h3 := fromS_lt (s := S) (l := l.drop (l.length - S.length)) (xs := (idxV l k).drop (l.length - S.length)) (by simp; omega) (by simp [idxV_length]) f3 (okIx_drop _ hi)
            exact ⟨(fromS S ((idxV l k).drop (l.length - S.length))).toNat, by rw [Int.toNat_of_nonneg h3.1], by omega⟩
          obtain ⟨b1, b2, _⟩ := bc_left hb
          exact ⟨hl, key A hA (by rw [bc_comm]; exact b1), key B hB b2⟩
        · rw [if_neg hl] at h; exact absurd h (errS_ne _)
    · simp only [if_pos hA, if_neg hB] at h; exact absurd h (errS_ne _)
  · simp only [if_neg hA] at h; exact absurd h (errS_ne _)
def lineV (l : List Int) (first stride n : Nat) : List Int := (List.range n).map fun i => l.getD (first + i * stride) 0
theorem lineV_length {l : List Int} {a b n : Nat} : (lineV l a b n).length = n := by simp [lineV]
theorem app_loop {α β : Type} {N fu : Nat} (f : Nat → α) {B : (List α × Int → Option β) → List α × Int → Option β} {c : List α → Option β} (l0 : List α) (hf : N < fu)
    (hB : ∀ next k, k < N → B next (l0 ++ (List.range k).map f, (k : Int)) = next (l0 ++ (List.range k).map f ++ [f k], ((k + 1 : Nat) : Int)))
    (hE : ∀ next, B next (l0 ++ (List.range N).map f, (N : Int)) = c (l0 ++ (List.range N).map f)) : cloop B fu (l0, 0) = c (l0 ++ (List.range N).map f) := by
  have := cloop_up (body := B) (n := fu) N (fun k => l0 ++ (List.range k).map f) (c (l0 ++ (List.range N).map f)) ?_ hE hf
  · simpa using this
  · intro k hk next hn
    rw [hB next k hk]
    simp only [List.range_succ, List.map_append, List.map_cons, List.map_nil, ← List.append_assoc] at hn
    exact hn
theorem flat_loop {α β : Type} {N fu : Nat} (f : Nat → List α) {B : (List α × Int → Option β) → List α × Int → Option β} {c : List α → Option β} (l0 : List α) (hf : N < fu)
    (hB : ∀ next k, k < N → B next (l0 ++ (List.range k).flatMap f, (k : Int)) = next (l0 ++ (List.range k).flatMap f ++ f k, ((k + 1 : Nat) : Int)))
    (hE : ∀ next, B next (l0 ++ (List.range N).flatMap f, (N : Int)) = c (l0 ++ (List.range N).flatMap f)) : cloop B fu (l0, 0) = c (l0 ++ (List.range N).flatMap f) := by
  have := cloop_up (body := B) (n := fu) N (fun k => l0 ++ (List.range k).flatMap f) (c (l0 ++ (List.range N).flatMap f)) ?_ hE hf
  · simpa using this
  · intro k hk next hn
    rw [hB next k hk]
    simp only [List.range_succ, List.flatMap_append, List.flatMap_cons, List.flatMap_nil, List.append_nil, ← List.append_assoc] at hn
    exact hn
theorem at_getD {l : List Int} {i : Nat} (h : i < l.length) : at? l (i : Int) = some (l.getD i 0) := by
  rw [at?_get h, List.getD_eq_getElem?_getD, List.getElem?_eq_getElem h]; rfl
theorem list_spec {fu : Nat} {l : List Int} {a b n : Nat} (hn : n ≤ 4096) (ha : a ≤ 1000000000) (hb : b ≤ 4096) (h : ∀ i, i < n → a + i * b < l.length) (hf : 5000 < fu) : mat_line_uint32_list fu ⟨l, a, b, n⟩ = some (lineV l a b n) := by
  unfold mat_line_uint32_list mat_line_uint32_list.W1
  refine (app_loop (N := n) (fun i => l.getD (a + i * b) 0) (c := fun m => some m) [] (by omega) ?_ ?_).trans (by simp [lineV])
  · intro next k hk
    have hkb : k * b ≤ 4096 * 4096 := Nat.mul_le_mul (by omega) hb
    show mat_line_uint32_list.L1 fu ⟨l, a, b, n⟩ _ _ _ = _
    unfold mat_line_uint32_list.L1
    have e1 : wk .i64 ((k : Int) * (b : Int)) = ((k * b : Nat) : Int) := by rw [← Int.natCast_mul]; exact wk_eq (by omega) (by omega)
    have e2 : wk .i64 ((a : Int) + ((k * b : Nat) : Int)) = ((a + k * b : Nat) : Int) := by rw [← Int.natCast_add]; exact wk_eq (by omega) (by omega)
    simp only
    rw [if_pos (by omega), e1, e2, at_getD (h k hk), ob_some, chk_pos (by simp; omega), wk_succ (by omega)]
  · intro next
    show mat_line_uint32_list.L1 fu ⟨l, a, b, n⟩ _ _ _ = _
    unfold mat_line_uint32_list.L1
    simp only
    rw [if_neg (by omega)]
end Go.Av
set_option linter.unusedVariables false
namespace Go.Av
def gridM (F : List Int) (r c : Nat) (tr : Bool) : T_mat_grid := if tr = true then ⟨F, 0, 1, c, c, r⟩ else ⟨F, 0, c, 1, r, c⟩
def rowL (F : List Int) (r c : Nat) (tr : Bool) (i : Nat) : List Int := if tr = true then lineV F (i * 1) c r else lineV F (i * c) 1 c
def colL (F : List Int) (r c : Nat) (tr : Bool) (i : Nat) : List Int := rowL F r c (!tr) i
def twN (tr : Bool) (a b : Nat) : Nat := if tr = true then b else a
theorem twN_cast {tr : Bool} {a b : Nat} : tw tr (a : Int) (b : Int) = ((twN tr a b : Nat) : Int) := by cases tr <;> rfl
section
variable {fu : Nat} {F : List Int} {r c : Nat} {tr : Bool} {t : T_Tensor}
theorem matrix_spec (h : t.fDims = [(r : Int), (c : Int)]) : mat_matrix fu t tr = some (gridM t.fF r c tr) := by
  unfold mat_matrix
  rw [h]
  show (some (r : Int)).bind _ = _
  rw [ob_some]
  show (some (c : Int)).bind _ = _
  rw [ob_some]
  unfold gridM
  split <;> rfl
theorem mul_nat {a b : Nat} (ha : a ≤ 4096) (hb : b ≤ 4096) : wk .i64 ((a : Int) * (b : Int)) = ((a * b : Nat) : Int) := by
  have hkb : a * b ≤ 4096 * 4096 := Nat.mul_le_mul ha hb
  rw [← Int.natCast_mul]; exact wk_eq (by omega) (by omega)
theorem zero_add_nat {a : Nat} (ha : a ≤ 100000000) : wk .i64 ((0 : Int) + (a : Int)) = ((a : Nat) : Int) := by rw [wk_eq (by omega) (by omega)]; omega
theorem ix_lt {i j r c : Nat} (hi : i < r) (hj : j < c) : i * c + j < r * c := by
  have h : (i + 1) * c ≤ r * c := Nat.mul_le_mul_right _ (by omega)
  rw [Nat.succ_mul] at h; omega
theorem line_m {a b n : Nat} {w : Int} {i : Nat} (hn : n ≤ 4096) (hi : i ≤ 4096) (hb : b ≤ 4096) (ha : a ≤ 4096) (hw : w = (a : Int)) (h : ∀ j, j < n → i * a + j * b < F.length) (hf : 5000 < fu) :
    (mat_line_uint32_list fu ⟨F, wk .i64 (0 + wk .i64 ((i : Int) * w)), (b : Int), (n : Int)⟩).bind (fun x => some x) = some (lineV F (i * a) b n) := by
  have hm : i * a ≤ 4096 * 4096 := Nat.mul_le_mul hi ha
  rw [hw, mul_nat hi ha, zero_add_nat (by omega), list_spec hn (by omega) hb h hf, ob_some]
theorem across_m (hr : r ≤ 4096) (hc : c ≤ 4096) (hF : F.length = r * c) {i : Nat} (hi : i < twN tr r c) (hf : 5000 < fu) : mat_grid_across fu (gridM F r c tr) (i : Int) = some (rowL F r c tr i) := by
  unfold mat_grid_across gridM rowL
  unfold twN at hi
  cases tr with
  | false =>
    simp only [Bool.false_eq_true, if_false] at hi ⊢
    exact line_m (b := 1) hc (by omega) (by decide) hc rfl (fun j hj => by rw [hF, Nat.mul_one]; exact ix_lt hi hj) hf
  | true =>
    simp only [if_true] at hi ⊢
    exact line_m (a := 1) hr (by omega) hc (by decide) rfl (fun j hj => by rw [hF, Nat.mul_one, Nat.add_comm]; exact ix_lt hj hi) hf
theorem down_m (hr : r ≤ 4096) (hc : c ≤ 4096) (hF : F.length = r * c) {i : Nat} (hi : i < twN tr c r) (hf : 5000 < fu) : mat_grid_down fu (gridM F r c tr) (i : Int) = some (colL F r c tr i) := by
  unfold mat_grid_down gridM colL rowL
  unfold twN at hi
  cases tr with
  | false =>
    simp only [Bool.false_eq_true, if_false, Bool.not_false, if_true] at hi ⊢
    exact line_m (a := 1) hr (by omega) hc (by decide) rfl (fun j hj => by rw [hF, Nat.mul_one, Nat.add_comm]; exact ix_lt hj hi) hf
  | true =>
    simp only [Bool.not_true, Bool.false_eq_true, if_false, if_true] at hi ⊢
    exact line_m (b := 1) hc (by omega) (by decide) hc rfl (fun j hj => by rw [hF, Nat.mul_one]; exact ix_lt hi hj) hf
theorem rowL_len {i : Nat} : (rowL F r c tr i).length = twN tr c r := by
  unfold rowL twN; split <;> exact lineV_length
end
def oAt (own : List T_Tensor) : T_Tensor := own.getD 2 noT
def cellG (s : T_Setting) (own : List T_Tensor) (d : List Int) (k : Nat) (x : Int) : Int :=
  if 2 < own.length then (if (oAt own).fType = 0 then mulV s.fAlpha x else addV (mulV s.fAlpha x) (mulV s.fBeta ((oAt own).fF.getD (fromV (oAt own).fDims d (k : Int)).1.toNat 0))) else mulV s.fAlpha x
structure BiasOK (own : List T_Tensor) (d : List Int) (N : Nat) : Prop where
  ln : 2 < own.length → (oAt own).fType ≠ 0 → (oAt own).fDims.length ≤ 8
  ix : 2 < own.length → (oAt own).fType ≠ 0 → ∀ k : Nat, k < N → ∃ i : Nat, fromV (oAt own).fDims d (k : Int) = ((i : Int), 0) ∧ i < (oAt own).fF.length
section
variable {fu : Nat} {s : T_Setting} {own : List T_Tensor} {d : List Int}
theorem cell_step {β : Type} {N k : Nat} {x : Int} {l : List Int} {nx : List Int → Option β} (hb : BiasOK own d N) (hd : d.length ≤ 8) (hk : k < N) (hN : N ≤ 4096) (hl : l.length = k) (hf : 100 < fu) :
    ((soft_Mul fu s.fAlpha x).bind fun x86 => if 2 < (own.length : Int) then ((at? own 2).bind fun x87 => if x87.fType = 0 then (chk ((l.length + 1 : Int) * 4 ≤ 140737488355328) <| nx (l ++ ([x86]))) else (shape_From fu x87.fDims d (l.length : Int)).bind fun x88 => (at? x87.fF x88.1).bind fun x89 => (soft_Mul fu s.fBeta x89).bind fun x90 => (soft_Add fu x86 x90).bind fun x91 => chk ((l.length + 1 : Int) * 4 ≤ 140737488355328) <| nx (l ++ ([x91]))) else chk ((l.length + 1 : Int) * 4 ≤ 140737488355328) <| nx (l ++ ([x86]))) = nx (l ++ [cellG s own d k x]) := by
  rw [Mul_spec, ob_some]
  unfold cellG
  by_cases h2 : 2 < own.length
  · have ho : at? own 2 = some (oAt own) := by
      have h3 : at? own ((2 : Nat) : Int) = some own[2] := at?_get h2
      rw [show (2 : Int) = ((2 : Nat) : Int) from rfl, h3]
      unfold oAt
      rw [List.getD_eq_getElem?_getD, List.getElem?_eq_getElem h2]; rfl
    rw [if_pos (by omega), if_pos h2, ho, ob_some]
    by_cases h0 : (oAt own).fType = 0
    · rw [if_pos h0, if_pos h0, chk_pos (by omega)]
    · rw [if_neg h0, if_neg h0]
      obtain ⟨i, hi1, hi2⟩ := hb.ix h2 h0 k hk
      have hln := hb.ln h2 h0
      rw [From_spec (by unfold Short; omega) (by unfold Short; omega) (by omega) (by omega) (by omega), ob_some, hl, hi1, at_getD hi2, ob_some, Mul_spec, ob_some, Add_spec, ob_some, chk_pos (by omega), Int.toNat_natCast]
  · rw [if_neg (by omega), if_neg h2, chk_pos (by omega)]
def gemmV (s : T_Setting) (own : List T_Tensor) (d : List Int) (p w : Nat) (A B : Nat → List Int) : List Int :=
  (List.range p).flatMap fun r => (List.range w).map fun c => cellG s own d (r * w + c) (dotV 0 (A r) (B c))
theorem flatMap_len {p w : Nat} {f : Nat → Nat → Int} : ((List.range p).flatMap fun r => (List.range w).map (f r)).length = p * w := by
  induction p with
  | zero => simp
  | succ p ih =>
    rw [List.range_succ, List.flatMap_append, List.length_append, ih]
    simp [Nat.succ_mul]
theorem W2_gemm {p w r : Nat} {A : List Int} {B : Nat → List Int} {l0 : List Int} {nx1 : List Int → Int → Option (List Int)} (hb : BiasOK own d (p * w)) (hd : d.length ≤ 8) (hN : p * w ≤ 4096) (hr : r < p) (hp : p ≤ 4096) (hw : w ≤ 4096) (hA : A.length ≤ 4096) (hl : l0.length = r * w) (hf : 5000 < fu) :
    mat_gemm.W2 fu nx1 s own d ((List.range w).map B) (r : Int) A l0 0 = nx1 (l0 ++ (List.range w).map fun c => cellG s own d (r * w + c) (dotV 0 A (B c))) ((r + 1 : Nat) : Int) := by
  have hcl : ((List.range w).map B).length = w := by simp
  unfold mat_gemm.W2
  refine app_loop (N := w) (fun c => cellG s own d (r * w + c) (dotV 0 A (B c))) (c := fun l => nx1 l ((r + 1 : Nat) : Int)) l0 (by omega) ?_ ?_
  · intro next k hk
    show mat_gemm.L2 fu nx1 s own d ((List.range w).map B) (r : Int) A (fun a b => next (a, b)) (l0 ++ (List.range k).map fun c => cellG s own d (r * w + c) (dotV 0 A (B c))) (k : Int) = _
    have hat : at? ((List.range w).map B) (k : Int) = some (B k) := by rw [at?_get (by rw [hcl]; exact hk)]; simp
    have hlt := ix_lt hr hk
    rw [mat_gemm.L2, if_pos (by rw [hcl]; omega), hat, ob_some, Dot_spec (by omega) (by omega), ob_some, wk_succ (by omega)]
    exact cell_step (nx := fun l => next (l, ((k + 1 : Nat) : Int))) hb hd hlt hN (by simp [hl]) (by omega)
  · intro next
    show mat_gemm.L2 fu nx1 s own d ((List.range w).map B) (r : Int) A (fun a b => next (a, b)) (l0 ++ (List.range w).map fun c => cellG s own d (r * w + c) (dotV 0 A (B c))) (w : Int) = _
    rw [mat_gemm.L2, if_neg (by rw [hcl]; omega), wk_succ (by omega)]
theorem gemm_val {x y : T_Tensor} {r c q v : Nat} (hx : at? own 0 = some x) (hy : at? own 1 = some y) (dx : x.fDims = [(r : Int), (c : Int)]) (dy : y.fDims = [(q : Int), (v : Int)]) (lx : x.fF.length = r * c) (ly : y.fF.length = q * v)
    (hr : r ≤ 4096) (hc : c ≤ 4096) (hq : q ≤ 4096) (hv : v ≤ 4096) (hb : BiasOK own d (twN s.fTransA r c * twN s.fTransB v q)) (hd : d.length ≤ 8) (hN : twN s.fTransA r c * twN s.fTransB v q ≤ 4096) (hf : 6000 < fu) :
    mat_gemm fu s own d = some (gemmV s own d (twN s.fTransA r c) (twN s.fTransB v q) (rowL x.fF r c s.fTransA) (colL y.fF q v s.fTransB)) := by
  have hp : twN s.fTransA r c ≤ 4096 := by unfold twN; split <;> omega
  have hw : twN s.fTransB v q ≤ 4096 := by unfold twN; split <;> omega
  have hcols : (gridM y.fF q v s.fTransB).fcolumns = ((twN s.fTransB v q : Nat) : Int) := by unfold gridM twN; split <;> rfl
  have hrows : (gridM x.fF r c s.fTransA).frows = ((twN s.fTransA r c : Nat) : Int) := by unfold gridM twN; split <;> rfl
  unfold mat_gemm jn
  rw [hx, ob_some, matrix_spec dx, ob_some, hy, ob_some, matrix_spec dy, ob_some]
  unfold mat_gemm.W3
  refine (app_loop (N := twN s.fTransB v q) (colL y.fF q v s.fTransB) (c := fun l => mat_gemm.k1 fu s own d (gridM x.fF r c s.fTransA) l) [] (by omega) ?_ ?_).trans ?_
  · intro next k hk
    show mat_gemm.L3 fu s own d (gridM x.fF r c s.fTransA) (gridM y.fF q v s.fTransB) (fun a b => next (a, b)) ([] ++ (List.range k).map (colL y.fF q v s.fTransB)) (k : Int) = _
    rw [mat_gemm.L3, hcols, if_pos (by omega), down_m hq hv ly hk (by omega), ob_some, chk_pos (by simp; omega), wk_succ (by omega)]
  · intro next
    show mat_gemm.L3 fu s own d (gridM x.fF r c s.fTransA) (gridM y.fF q v s.fTransB) (fun a b => next (a, b)) ([] ++ (List.range (twN s.fTransB v q)).map (colL y.fF q v s.fTransB)) ((twN s.fTransB v q : Nat) : Int) = _
    rw [mat_gemm.L3, hcols, if_neg (by omega)]
  · rw [List.nil_append]
    unfold mat_gemm.k1 mat_gemm.W1
    refine (flat_loop (N := twN s.fTransA r c) (fun i => (List.range (twN s.fTransB v q)).map fun k => cellG s own d (i * twN s.fTransB v q + k) (dotV 0 (rowL x.fF r c s.fTransA i) (colL y.fF q v s.fTransB k))) (c := fun l => some l) [] (by omega) ?_ ?_).trans ?_
    · intro next i hi
      show mat_gemm.L1 fu s own d (gridM x.fF r c s.fTransA) ((List.range (twN s.fTransB v q)).map (colL y.fF q v s.fTransB)) (fun a b => next (a, b)) ([] ++ (List.range i).flatMap fun i => (List.range (twN s.fTransB v q)).map fun k => cellG s own d (i * twN s.fTransB v q + k) (dotV 0 (rowL x.fF r c s.fTransA i) (colL y.fF q v s.fTransB k))) (i : Int) = _
      rw [mat_gemm.L1, hrows, if_pos (by omega), across_m hr hc lx hi (by omega), ob_some, W2_gemm (p := twN s.fTransA r c) hb hd hN hi hp hw (by rw [rowL_len]; unfold twN; split <;> omega) (by rw [List.nil_append, flatMap_len]) (by omega)]
    · intro next
      show mat_gemm.L1 fu s own d (gridM x.fF r c s.fTransA) ((List.range (twN s.fTransB v q)).map (colL y.fF q v s.fTransB)) (fun a b => next (a, b)) ([] ++ (List.range (twN s.fTransA r c)).flatMap fun i => (List.range (twN s.fTransB v q)).map fun k => cellG s own d (i * twN s.fTransB v q + k) (dotV 0 (rowL x.fF r c s.fTransA i) (colL y.fF q v s.fTransB k))) ((twN s.fTransA r c : Nat) : Int) = _
      rw [mat_gemm.L1, hrows, if_neg (by omega)]
    · rw [List.nil_append]; rfl
end
end Go.Av
set_option linter.unusedVariables false
namespace Go.Av
def gT (l : List T_Tensor) (i : Nat) : T_Tensor := l.getD i noT
theorem gT_get {l : List T_Tensor} {i : Nat} (h : i < l.length) : gT l i = l[i] := by
  unfold gT; rw [List.getD_eq_getElem?_getD, List.getElem?_eq_getElem h]; rfl
theorem gT_none {l : List T_Tensor} {i : Nat} (h : ¬ i < l.length) : gT l i = noT := by
  unfold gT; rw [List.getD_eq_getElem?_getD, List.getElem?_eq_none (by omega)]; rfl
theorem vAt_map {l : List T_Tensor} {i : Nat} : vAt (l.map valOf) i = valOf (gT l i) := by
  by_cases h : i < l.length
  · rw [vAt_get (by simpa using h), gT_get h]; simp
  · rw [gT_none h]
    unfold vAt
    rw [List.getD_eq_getElem?_getD, List.getElem?_eq_none (by simpa using h)]; rfl
theorem val_ty {t : T_Tensor} : (valOf t).fType = t.fType := by
  unfold valOf
  by_cases h : t.fType = 0
  · rw [if_pos h, h]; rfl
  · rw [if_neg h]
theorem val_dims {t : T_Tensor} (h : t.fType ≠ 0) : (valOf t).fDims = t.fDims := by
  unfold valOf; rw [if_neg h]
theorem gT_can {l : List T_Tensor} {i : Nat} (h : i < l.length) : gT (l.map canonT) i = canonT (gT l i) := by
  rw [gT_get (by simpa using h), gT_get h]; simp
theorem sized_of {l : List T_Tensor} (hb : badV l = none) : SizedV (l.map valOf) := fun v hv => by
  obtain ⟨t, ht, rfl⟩ := List.mem_map.1 hv
  rcases badV_none hb t ht with h | h
  · left; unfold valOf; rw [if_pos h]; exact ⟨rfl, rfl⟩
  · by_cases h0 : t.fType = 0
    · left; unfold valOf; rw [if_pos h0]; exact ⟨rfl, rfl⟩
    · right; rw [val_dims h0]; exact (checkV_zero.1 h).2.1
structure MatT (t : T_Tensor) (r c : Nat) : Prop where
  ty : t.fType = 1
  dm : t.fDims = [(r : Int), (c : Int)]
  ln : t.fF.length = r * c
  r1 : r ≤ 4096
  c1 : c ≤ 4096
  gd : Good t.fDims
  fi : t.fI = []
  fb : t.fB = []
theorem mat_of {t : T_Tensor} {a b : Int} (h1 : t.fType = 1) (hc : checkV t = 0) (hd : t.fDims = [a, b]) : ∃ r c : Nat, a = r ∧ b = c ∧ MatT t r c := by
  obtain ⟨_, hg, l1, l2, l3⟩ := checkV_zero.1 hc
  have ha := hg.2.1 a (by rw [hd]; simp)
  have hb := hg.2.1 b (by rw [hd]; simp)
  obtain ⟨r, rfl⟩ := Int.eq_ofNat_of_zero_le ha.1
  obtain ⟨c, rfl⟩ := Int.eq_ofNat_of_zero_le hb.1
  refine ⟨r, c, rfl, rfl, h1, hd, ?_, by omega, by omega, hg, ?_, ?_⟩
  · rw [if_pos h1, hd] at l1
    simp only [prod, Int.mul_one] at l1
    rw [← Int.natCast_mul] at l1
    omega
  · rw [if_neg (by omega)] at l2; exact List.eq_nil_of_length_eq_zero (by omega)
  · rw [if_neg (by omega)] at l3; exact List.eq_nil_of_length_eq_zero (by omega)
theorem MatT.can {t : T_Tensor} {r c : Nat} (h : MatT t r c) : MatT (canonT t) r c := ⟨h.ty, h.dm, by show (t.fF.map canonF).length = _; rw [List.length_map]; exact h.ln, h.r1, h.c1, h.gd, h.fi, h.fb⟩
theorem MatT.chk {t : T_Tensor} {r c : Nat} (h : MatT t r c) : checkV t = 0 := by
  refine checkV_zero.2 ⟨.inl h.ty, h.gd, ?_, ?_, ?_⟩
  · rw [if_pos h.ty, h.dm, h.ln]; simp [prod]
  · rw [if_neg (by have := h.ty; omega), h.fi]; rfl
  · rw [if_neg (by have := h.ty; omega), h.fb]; rfl
structure OkG (s : T_Setting) (l : List T_Tensor) (r c q v : Nat) : Prop where
  bad : badV l = none
  node : NodeG s (l.map valOf) r c q v
  mx : MatT (gT l 0) r c
  my : MatT (gT l 1) q v
def outD (s : T_Setting) (r c q v : Nat) : List Int := [((twN s.fTransA r c : Nat) : Int), ((twN s.fTransB v q : Nat) : Int)]
def ansG (s : T_Setting) (l : List T_Tensor) (r c q v : Nat) : T_Tensor :=
  ⟨1, outD s r c q v, if twN s.fTransA r c * twN s.fTransB v q = 0 then [] else gemmV s (l.map canonT) (outD s r c q v) (twN s.fTransA r c) (twN s.fTransB v q) (rowL ((gT l 0).fF.map canonF) r c s.fTransA) (colL ((gT l 1).fF.map canonF) q v s.fTransB), [], []⟩
section
variable {fu : Nat} {s : T_Setting} {l : List T_Tensor} {r c q v : Nat}
theorem OkG.len (h : OkG s l r c q v) : 2 ≤ l.length ∧ l.length ≤ 3 := by
  have := h.node.full
  unfold FullV at this
  simp only [List.length_map] at this
  exact ⟨this.1, this.2.1⟩
theorem OkG.good (h : OkG s l r c q v) : Good (outD s r c q v) := by
  have := h.node.good
  rw [twN_cast, twN_cast] at this
  exact this
theorem OkG.size (h : OkG s l r c q v) : prod (outD s r c q v) = ((twN s.fTransA r c * twN s.fTransB v q : Nat) : Int) ∧ twN s.fTransA r c * twN s.fTransB v q ≤ 4096 := by
  have := h.good.2.2
  have e : prod (outD s r c q v) = ((twN s.fTransA r c * twN s.fTransB v q : Nat) : Int) := by
    unfold outD
    simp only [prod, Int.mul_one]
    rw [Int.natCast_mul]
  refine ⟨e, ?_⟩
  rw [e] at this
  omega
theorem OkG.bias (h : OkG s l r c q v) : BiasOK (l.map canonT) (outD s r c q v) (twN s.fTransA r c * twN s.fTransB v q) := by
  have key : 2 < (l.map canonT).length → (oAt (l.map canonT)).fType ≠ 0 → (gT l 2).fType = 1 ∧ checkV (gT l 2) = 0 ∧ broadcastV (gT l 2).fDims (outD s r c q v) = (outD s r c q v, 0) ∧ oAt (l.map canonT) = canonT (gT l 2) := fun h2 h0 => by
    have h2' : 2 < l.length := by simpa using h2
    have e : oAt (l.map canonT) = canonT (gT l 2) := gT_can h2'
    rw [e] at h0
    have h0' : (gT l 2).fType ≠ 0 := h0
    have ht := vAt_type h.node.typed 2
    rw [vAt_map, val_ty] at ht
    have h1 := ht.resolve_left h0'
    have hc : checkV (gT l 2) = 0 := by
      rw [gT_get h2'] at h0' ⊢
      exact (badV_none h.bad _ (List.getElem_mem h2')).resolve_left h0'
    have hw := h.node.gemm.bias (by rw [vAt_map, val_ty]; exact h0')
    rw [vAt_map, val_dims h0', twN_cast, twN_cast] at hw
    refine ⟨h1, hc, ?_, e⟩
    unfold withinV at hw
    by_cases h4 : (broadcastV (gT l 2).fDims (outD s r c q v)).2 = 4
    · unfold outD at h4; rw [if_pos h4] at hw; exact absurd hw (by decide)
    · unfold outD at h4 ⊢
      rw [if_neg h4] at hw
      by_cases h5 : (broadcastV (gT l 2).fDims [((twN s.fTransA r c : Nat) : Int), ((twN s.fTransB v q : Nat) : Int)]).2 = 0
      · rw [if_pos h5] at hw
        by_cases h6 : (broadcastV (gT l 2).fDims [((twN s.fTransA r c : Nat) : Int), ((twN s.fTransB v q : Nat) : Int)]).1 = [((twN s.fTransA r c : Nat) : Int), ((twN s.fTransB v q : Nat) : Int)]
        · exact Prod.ext h6 h5
        · rw [if_neg h6] at hw; exact absurd hw (by decide)
      · rw [if_neg h5] at hw; exact absurd hw (by decide)
  refine ⟨fun h2 h0 => ?_, fun h2 h0 k hk => ?_⟩
  · obtain ⟨a, b, _, e⟩ := key h2 h0
    rw [e]
    exact (checkV_zero.1 b).2.1.1
  · obtain ⟨a, b, hbr, e⟩ := key h2 h0
    have hbr2 : (broadcastV (gT l 2).fDims (outD s r c q v)).2 = 0 := by rw [hbr]
    obtain ⟨_, ⟨i, hi1, hi2⟩, _⟩ := from_in hbr2 (k := k) (by rw [hbr, h.size.1]; exact Int.ofNat_lt.2 hk)
    rw [hbr] at hi1
    obtain ⟨_, _, l1, _, _⟩ := checkV_zero.1 b
    rw [if_pos a] at l1
    refine ⟨i, ?_, ?_⟩
    · rw [e]; exact hi1
    · rw [e]
      show i < ((gT l 2).fF.map canonF).length
      rw [List.length_map]; omega
theorem Do_eq (hT : Tens (fu + 3) l) : mat_Do (fu + 3) 74 s l = match badV l with | some e => some (noT, e) | none => mat_Do.k1 (fu + 3) s l (l.map canonT) := by
  have e : mat_Do (fu + 3) 74 s l = mat_Do.W1 (fu + 3) s l [] 0 := rfl
  rw [e]; unfold mat_Do.W1
  exact head_loop hT (L := mat_Do.L1 (fu + 3) s l) (k1 := mat_Do.k1 (fu + 3) s l) (er := fun e => some (noT, e)) (fun nx acc i => rfl)
theorem Do_ok (hT : Tens (fu + 3) l) (h : OkG s l r c q v) (hf : 7000 < fu) : mat_Do (fu + 3) 74 s l = some (ansG s l r c q v, 0) := by
  obtain ⟨g1, g2⟩ := h.len
  rw [Do_eq hT, h.bad]
  show mat_Do.k1 (fu + 3) s l (l.map canonT) = _
  unfold mat_Do.k1
  have hgd := h.good
  have hsz := h.size
  rw [Vals_all hT, ob_some, Node_fwd h.node (sized_of h.bad) (by omega), ob_some, if_pos rfl, twN_cast, twN_cast]
  show (some (⟨1, outD s r c q v, false, ⟨0, [], [], [], []⟩⟩ : T_Val)).bind _ = _
  rw [ob_some]
  show (shape_Size (fu + 3) (outD s r c q v)).bind _ = _
  rw [Size_spec (by unfold Short outD; simp) (by unfold outD; simp), ob_some, sizeV, if_pos hgd, hsz.1]
  unfold ansG
  by_cases hz : twN s.fTransA r c * twN s.fTransB v q = 0
  · rw [if_pos (by rw [hz]; rfl), if_pos hz]
  · rw [if_neg (show ¬ ((twN s.fTransA r c * twN s.fTransB v q : Nat) : Int) = 0 by omega), if_neg hz]
    have hx : at? (l.map canonT) 0 = some (canonT (gT l 0)) := by
      have hl0 : 0 < (l.map canonT).length := by simp; omega
      have h3 : at? (l.map canonT) ((0 : Nat) : Int) = some (l.map canonT)[0] := at?_get hl0
      rw [show (0 : Int) = ((0 : Nat) : Int) from rfl, h3, ← gT_get, gT_can (by omega)]
    have hy : at? (l.map canonT) 1 = some (canonT (gT l 1)) := by
      have hl1 : 1 < (l.map canonT).length := by simp; omega
      have h3 : at? (l.map canonT) ((1 : Nat) : Int) = some (l.map canonT)[1] := at?_get hl1
      rw [show (1 : Int) = ((1 : Nat) : Int) from rfl, h3, ← gT_get, gT_can (by omega)]
    have hmx := h.mx.can
    have hmy := h.my.can
    have hg := gemm_val (fu := fu + 3) (s := s) (own := l.map canonT) (d := outD s r c q v) hx hy hmx.dm hmy.dm hmx.ln hmy.ln hmx.r1 hmx.c1 hmy.r1 hmy.c1 h.bias (by unfold outD; simp) hsz.2 (by omega)
    show (mat_gemm (fu + 3) s (l.map canonT) (outD s r c q v)).bind _ = _
    rw [hg, ob_some]
    rfl
theorem Do_tot (hT : Tens (fu + 3) l) (hf : l.length + 7000 < fu) : (∃ e, e ≠ 0 ∧ mat_Do (fu + 3) 74 s l = some (noT, e)) ∨ ∃ r c q v, OkG s l r c q v := by
  have hl := hT.1
  cases hb : badV l with
  | some e =>
    left
    refine ⟨e, badV_some hb, ?_⟩
    rw [Do_eq hT, hb]
  | none =>
    rcases Node_tot (fu := fu) (s := s) (vs := l.map valOf) (sized_of hb) (by simpa using hl) (by simp; omega) with ⟨e, he, hn⟩ | ⟨a, b, c, e, hN⟩
    · left
      refine ⟨e, he, ?_⟩
      rw [Do_eq hT, hb]
      show mat_Do.k1 (fu + 3) s l (l.map canonT) = _
      unfold mat_Do.k1
      rw [Vals_all hT, ob_some, hn, ob_some, if_neg he]
      rfl
    · right
      have hfl := hN.full
      unfold FullV at hfl
      simp only [List.length_map, vAt_map, val_ty] at hfl
      have t0 := vAt_type hN.typed 0
      have t1 := vAt_type hN.typed 1
      rw [vAt_map, val_ty] at t0 t1
      have dx := hN.gemm.dx
      have dy := hN.gemm.dy
      rw [vAt_map, val_dims hfl.2.2.1] at dx
      rw [vAt_map, val_dims hfl.2.2.2] at dy
      have c0 : checkV (gT l 0) = 0 := by
        have h0 := hfl.2.2.1
        rw [gT_get (show 0 < l.length by omega)] at h0 ⊢
        exact (badV_none hb _ (List.getElem_mem _)).resolve_left h0
      have c1 : checkV (gT l 1) = 0 := by
        have h0 := hfl.2.2.2
        rw [gT_get (show 1 < l.length by omega)] at h0 ⊢
        exact (badV_none hb _ (List.getElem_mem _)).resolve_left h0
      obtain ⟨r', c', rfl, rfl, mx⟩ := mat_of (t0.resolve_left hfl.2.2.1) c0 dx
      obtain ⟨q', v', rfl, rfl, my⟩ := mat_of (t1.resolve_left hfl.2.2.2) c1 dy
      exact ⟨r', c', q', v', hb, hN, mx, my⟩
end
end Go.Av
set_option linter.unusedVariables false
namespace Go.Av
def S0 : T_Setting := T_Setting.mk 0 ([]) false false false false false ([]) false 0 0 0 false false false 0 0 false false 0 ([]) ([]) ([]) ([]) 0 false false 0 0 0 false (T_Tensor.mk 0 ([]) ([]) ([]) ([]))
theorem cloop_to {τ β : Type} {body : (τ → Option β) → τ → Option β} (N : Nat) (st : Nat → τ) (r : Option β) (h : ∀ k, k < N → ∀ next, next (st (k + 1)) = r → body next (st k) = r)
    (he : ∀ next, body next (st N) = r) {n : Nat} (hn : N < n) : cloop body n (st 0) = r := by
  have : ∀ m k, k ≤ N → N - k < m → cloop body m (st k) = r := by
    intro m
    induction m with
    | zero => intro k _ h; omega
    | succ m ih =>
      intro k hk hm
      by_cases hkN : k = N
      · subst hkN; exact he _
      · exact h k (by omega) _ (ih (k + 1) (by omega) (by omega))
  exact this n 0 (by omega) (by omega)
section
variable {fu : Nat} {x : T_Tensor} {v : T_Val} {r c : Nat} {k : Int}
theorem wz1 : wk .i64 (0 + 1) = 1 := rfl
theorem wz2 : wk .i64 (1 + 1) = 2 := rfl
theorem refCanonF_spec {fu : Nat} {x : Int} (h0 : 0 ≤ x) : ref01_Canon fu x = some (canonF x) := by
  unfold ref01_Canon ref01_IsNone ref01_Abs canonF
  rw [Int.tmod_eq_emod_of_nonneg h0, ob_some, ob_some]
  by_cases h : 2139095040 < x % 2147483648 <;> simp [h]
theorem copy_ten {fu : Nat} {t : T_Tensor} (h : Ten t) : ref05_Copy fu t = some t := by
  obtain ⟨h1, h2, h3, h4, _⟩ := h
  unfold ref05_Copy
  rw [chk_pos (by omega), chk_pos (by omega), chk_pos (by omega), chk_pos (by omega)]
theorem canon_one {fu : Nat} {t : T_Tensor} (h : Ten t) (hf : t.fF.length < fu) : ref05_Canon fu t = some (canonT t) := by
  have hu := h.2.2.2.2
  have hl := h.2.1
  unfold ref05_Canon
  rw [copy_ten h, ob_some]
  unfold ref05_Canon.W1
  refine map_loop (f := canonF) (c := fun m => some (T_Tensor.mk t.fType t.fDims m t.fI t.fB)) hf ?_ ?_
  · intro next k m hk hm hg
    unfold ref05_Canon.L1
    simp only []
    obtain ⟨u1, u2⟩ := hu _ (List.getElem_mem hk)
    rw [if_pos (by omega), at?_nat, hg, ob_some, refCanonF_spec u1, ob_some, chk_pos (by omega), wk_succ (by omega)]
    rfl
  · intro next m hm
    unfold ref05_Canon.L1
    rw [if_neg (by simp only []; omega)]
theorem right_one (h1 : x.fType = 1) (hs : Small x) (hft : Fuel (fu + 3) x) (hc : checkV x = 0) : ref11_Right (fu + 3) [x] = some 0 := by
  unfold ref11_Right ref11_Right.W1
  have g0 : at? [x] 0 = some x := rfl
  rw [cloop_succ', ref11_Right.L1, if_pos (by simp), g0, ob_some, if_neg (by omega), refCheck_spec hs hft, ob_some, if_pos hc, wz1, cloop_succ', ref11_Right.L1, if_neg (by simp)]
theorem vals_one (h1 : x.fType = 1) (ht : Ten x) : ref11_Vals (fu + 3) [x] = some [⟨x.fType, x.fDims, true, x⟩] := by
  unfold ref11_Vals ref11_Vals.W1
  have g0 : at? [x] 0 = some x := rfl
  have := ht.1
  rw [cloop_succ']
  show ref11_Vals.L1 (fu + 3) [x] _ [] 0 = _
  rw [ref11_Vals.L1, if_pos (by simp), g0, ob_some, if_neg (by omega), copy_ten ht, ob_some, chk_pos (by omega), chk_pos (by simp), wz1, cloop_succ']
  show ref11_Vals.L1 (fu + 3) [x] _ [_] 1 = _
  rw [ref11_Vals.L1, if_neg (by simp)]
theorem canons_one (ht : Ten x) (hf : x.fF.length < fu + 3) : ref11_Canons (fu + 3) [x] = some [canonT x] := by
  unfold ref11_Canons ref11_Canons.W1
  have g0 : at? [x] 0 = some x := rfl
  rw [cloop_succ']
  show ref11_Canons.L1 (fu + 3) [x] _ [] 0 = _
  rw [ref11_Canons.L1, if_pos (by simp), g0, ob_some, canon_one ht hf, ob_some, chk_pos (by simp), wz1, cloop_succ']
  show ref11_Canons.L1 (fu + 3) [x] _ [_] 1 = _
  rw [ref11_Canons.L1, if_neg (by simp)]
theorem axis_any {a n : Int} : ∃ q, ref04_Axis fu a n = some q := by
  unfold ref04_Axis jn
  split
  · exact ⟨_, rfl⟩
  · split
    · split
      · exact ⟨_, rfl⟩
      · unfold ref04_Axis.k1; split
        · split <;> exact ⟨_, rfl⟩
        · exact ⟨_, rfl⟩
    · unfold ref04_Axis.k1; split
      · split <;> exact ⟨_, rfl⟩
      · exact ⟨_, rfl⟩
theorem there_one (h1 : v.fType = 1) : ref10_there fu [v] 0 = some true := by
  have h : ref10_there fu [v] 0 = some (!(decide (v.fType = 0))) := rfl
  rw [h, h1]; rfl
theorem given_one (h1 : v.fType = 1) : ref10_given (fu + 3) 45 [v] 1 = some true := by
  have h : ref10_given (fu + 3) 45 [v] 1 = ref10_given.W1 (fu + 3) [v] (1, 1, 1, 1) 0 := rfl
  rw [h]
  unfold ref10_given.W1
  rw [cloop_succ', ref10_given.L1, if_pos (by simp), there_one h1, ob_some, if_pos rfl, wz1, cloop_succ', ref10_given.L1, if_neg (by simp)]
theorem sized_one (h1 : v.fType = 1) (hg : Good v.fDims) (hf : 20 < fu) : ref10_sized (fu + 3) [v] = some true := by
  have h8 := hg.1
  have g0 : at? [v] 0 = some v := rfl
  unfold ref10_sized ref10_sized.W1
  rw [cloop_succ', ref10_sized.L1, if_pos (by simp), g0, ob_some, refSize_spec (by unfold Short; omega) (by omega), ob_some, there_one h1, ob_some, if_pos rfl, sizeV, if_pos hg, if_pos rfl, wz1, cloop_succ', ref10_sized.L1, if_neg (by simp)]
theorem types_one (h1 : v.fType = 1) : ref10_types (fu + 3) 45 S0 [v] = some true := by
  have g0 : at? [v] 0 = some v := rfl
  have hty : ref10_typed (fu + 3) 45 [v] = some true := by
    have h : ref10_typed (fu + 3) 45 [v] = ref10_typed.W1 (fu + 3) [v] (0, 0) 0 := rfl
    rw [h]
    unfold ref10_typed.W1
    have hk : ref10_known (fu + 3) v.fType = some true := by unfold ref10_known; rw [if_pos h1]
    rw [cloop_succ', ref10_typed.L1, if_pos (by simp), there_one h1, ob_some, if_pos rfl, g0, ob_some, hk, ob_some, if_pos rfl, if_pos (by simp), if_neg (by simp), wz1, cloop_succ', ref10_typed.L1, if_neg (by simp)]
  have h : ref10_types (fu + 3) 45 S0 [v] = (ref10_typed (fu + 3) 45 [v]).bind fun x4 => if x4 = true then some true else some false := rfl
  rw [h, hty, ob_some, if_pos rfl]
theorem trans_one : ref10_transposed (fu + 3) S0 [(r : Int), (c : Int)] = some ([[(c : Int), (r : Int)]], 0) := by
  have hp : S0.fHasPerm = false := rfl
  rw [ref10_transposed, jn_at, hp]
  unfold ref10_transposed.W1
  have g0 : at? [(r : Int), (c : Int)] 0 = some (r : Int) := rfl
  have g1 : at? [(r : Int), (c : Int)] 1 = some (c : Int) := rfl
  have a0 : wk .i64 (wk .i64 ((([(r : Int), (c : Int)]).length : Int) - 1) - 0) = 1 := rfl
  have a1 : wk .i64 (wk .i64 ((([(r : Int), (c : Int)]).length : Int) - 1) - 1) = 0 := rfl
  rw [cloop_succ']
  show ref10_transposed.L1 (fu + 3) S0 [(r : Int), (c : Int)] _ false [] 0 = _
  rw [ref10_transposed.L1, if_pos (by simp), if_neg (by simp), a0]
  unfold jn ref10_transposed.k2
  rw [g1, ob_some, chk_pos (by simp), wz1]
  show cloop _ _ (false, [(c : Int)], (1 : Int)) = _
  rw [cloop_succ']
  show ref10_transposed.L1 (fu + 3) S0 [(r : Int), (c : Int)] _ false [(c : Int)] 1 = _
  rw [ref10_transposed.L1, if_pos (by simp), if_neg (by simp), a1]
  unfold jn ref10_transposed.k2
  rw [g0, ob_some, chk_pos (by simp), wz2]
  show cloop _ _ (false, [(c : Int), (r : Int)], (2 : Int)) = _
  rw [cloop_succ']
  show ref10_transposed.L1 (fu + 3) S0 [(r : Int), (c : Int)] _ false [(c : Int), (r : Int)] 2 = _
  rw [ref10_transposed.L1, if_neg (by simp)]
  unfold ref10_transposed.k1 ref10_one
  rw [chk_pos (by simp)]
  rfl
theorem node_one (h1 : v.fType = 1) (hg : Good v.fDims) (hd : v.fDims = [(r : Int), (c : Int)]) (hgt : Good [(c : Int), (r : Int)]) (hf : 20 < fu) :
    ref10_Node (fu + 3) 45 S0 [v] 1 = some ([⟨1, [(c : Int), (r : Int)], false, ⟨0, [], [], [], []⟩⟩], 0) := by
  obtain ⟨q, hq⟩ := axis_any (fu := fu + 3) (a := S0.fAxis) (n := (v.fDims.length : Int))
  have h : ref10_Node (fu + 3) 45 S0 [v] 1 = (ref10_given (fu + 3) 45 [v] 1).bind fun x5 => if x5 = true then ((ref10_sized (fu + 3) [v]).bind fun x6 => if x6 = true then ((ref10_types (fu + 3) 45 S0 [v]).bind fun x7 => if x7 = true then
    (((((ref04_Axis (fu + 3) S0.fAxis (v.fDims.length : Int)).bind fun _ => (ref10_transposed (fu + 3) S0 v.fDims).bind fun x7 => some (x7.1, x7.2)).bind fun x6 => some (x6.1, x6.2))).bind fun x12 => if x12.2 = 0 then (ref10_Node.W1 (fu + 3) S0 [v] x12 ([] : List T_Val) 0) else some ([], x12.2)) else some ([], 5)) else some ([], 4)) else some ([], 1) := rfl
  rw [h, given_one h1, ob_some, if_pos rfl, sized_one h1 hg hf, ob_some, if_pos rfl, types_one h1, ob_some, if_pos rfl, hq, ob_some, hd, trans_one, ob_some, ob_some, ob_some, if_pos rfl]
  unfold ref10_Node.W1
  rw [cloop_succ']
  show ref10_Node.L1 (fu + 3) S0 [v] ([[(c : Int), (r : Int)]], 0) _ [] 0 = _
  have g0 : at? [[(c : Int), (r : Int)]] 0 = some [(c : Int), (r : Int)] := rfl
  have hm : ref10_made (fu + 3) 45 S0 [v] = some v.fType := rfl
  rw [ref10_Node.L1, if_pos (by simp), g0, ob_some, refSize_spec (by unfold Short; simp) (by simp), ob_some, sizeV, if_pos hgt, if_pos rfl, hm, ob_some, chk_pos (by simp), wz1, cloop_succ']
  show ref10_Node.L1 (fu + 3) S0 [v] ([[(c : Int), (r : Int)]], 0) _ [_] 1 = _
  rw [ref10_Node.L1, if_neg (by simp), h1]
def turnF (F : List Int) (r c : Nat) (k : Nat) : Int := F.getD (k % r * c + k / r) 0
def turnT (x : T_Tensor) (r c : Nat) : T_Tensor := ⟨1, [(c : Int), (r : Int)], (List.range (c * r)).map (turnF (x.fF.map canonF) r c), [], []⟩
theorem idx_two {k : Nat} (hr : 0 < r) : idxV [(c : Int), (r : Int)] (k : Int) = [((k / r : Nat) : Int), ((k % r : Nat) : Int)] := by
  simp only [idxV, prod, Int.mul_one, Int.ediv_one]
  rw [← Int.natCast_ediv, ← Int.natCast_emod]
theorem place_one {s : T_Setting} {l : List T_Tensor} {vs : List T_Val} {ax fr : Int} {k : Nat} (hgt : Good [(c : Int), (r : Int)]) (hg : Good [(r : Int), (c : Int)]) (hk : k < c * r) (hf : 20 < fu) (hs : s = S0) :
    ref12_job_place (fu + 3) ⟨45, s, l, vs, [(r : Int), (c : Int)], ax, [(c : Int), (r : Int)], fr⟩ (k : Int) = some ((k % r * c + k / r : Nat) : Int) := by
  subst hs
  have hr : 0 < r := by
    rcases Nat.eq_zero_or_pos r with h | h
    · subst h; simp at hk
    · exact h
  have hp : prod [(c : Int), (r : Int)] = ((c * r : Nat) : Int) := by simp [prod]
  have hm := Nat.mod_lt k hr
  have hdv : k / r < c := Nat.div_lt_of_lt_mul (by rw [Nat.mul_comm]; exact hk)
  have h : ref12_job_place (fu + 3) ⟨45, S0, l, vs, [(r : Int), (c : Int)], ax, [(c : Int), (r : Int)], fr⟩ (k : Int) = (ref04_Index (fu + 3) [(c : Int), (r : Int)] (k : Int)).bind fun x3 => (ref12_job_transpose (fu + 3) ⟨45, S0, l, vs, [(r : Int), (c : Int)], ax, [(c : Int), (r : Int)], fr⟩ x3.1).bind fun x4 => some x4 := rfl
  rw [h, refIndex_spec (by unfold Short; simp) (by simp), ob_some]
  unfold indexV
  rw [if_pos hgt, if_pos ⟨by omega, by rw [hp]; omega⟩, idx_two hr]
  generalize ha : ((k / r : Nat) : Int) = a
  generalize hb : ((k % r : Nat) : Int) = b
  show (ref12_job_transpose (fu + 3) ⟨45, S0, l, vs, [(r : Int), (c : Int)], ax, [(c : Int), (r : Int)], fr⟩ [a, b]).bind _ = _
  have hrep : List.replicate ((([a, b] : List Int).length : Int)).toNat (0 : Int) = [0, 0] := rfl
  have hp : S0.fHasPerm = false := rfl
  rw [ref12_job_transpose, chk_pos rfl, chk_pos (by simp), jn_at, hrep, hp]
  unfold ref12_job_transpose.W1
  have g0 : at? [a, b] 0 = some a := rfl
  have g1 : at? [a, b] 1 = some b := rfl
  have a0 : wk .i64 (wk .i64 ((([a, b]).length : Int) - 1) - 0) = 1 := rfl
  have a1 : wk .i64 (wk .i64 ((([a, b]).length : Int) - 1) - 1) = 0 := rfl
  rw [cloop_succ']
  show (ref12_job_transpose.L1 (fu + 3) ⟨45, S0, l, vs, [(r : Int), (c : Int)], ax, [(c : Int), (r : Int)], fr⟩ [a, b] _ [0, 0] false 0).bind _ = _
  rw [ref12_job_transpose.L1, if_pos (by simp), if_neg (by simp), a0]
  unfold jn ref12_job_transpose.k2
  rw [g0, ob_some, chk_pos (by simp), wz1]
  show (cloop _ _ ([0, a], false, (1 : Int))).bind _ = _
  rw [cloop_succ']
  show (ref12_job_transpose.L1 (fu + 3) ⟨45, S0, l, vs, [(r : Int), (c : Int)], ax, [(c : Int), (r : Int)], fr⟩ [a, b] _ [0, a] false 1).bind _ = _
  rw [ref12_job_transpose.L1, if_pos (by simp), if_neg (by simp), a1]
  unfold jn ref12_job_transpose.k2
  rw [g1, ob_some, chk_pos (by simp), wz2]
  show (cloop _ _ ([b, a], false, (2 : Int))).bind _ = _
  rw [cloop_succ']
  show (ref12_job_transpose.L1 (fu + 3) ⟨45, S0, l, vs, [(r : Int), (c : Int)], ax, [(c : Int), (r : Int)], fr⟩ [a, b] _ [b, a] false 2).bind _ = _
  rw [ref12_job_transpose.L1, if_neg (by simp)]
  unfold ref12_job_transpose.k1 ref12_offset
  rw [refOffset_spec (by unfold Short; simp) (by simp), ob_some, ob_some, ob_some]
  unfold offsetV
  have ha0 : 0 ≤ a := by rw [← ha]; exact Int.natCast_nonneg _
  have ha1 : a < c := by rw [← ha]; exact Int.ofNat_lt.2 hdv
  have hb0 : 0 ≤ b := by rw [← hb]; exact Int.natCast_nonneg _
  have hb1 : b < r := by rw [← hb]; exact Int.ofNat_lt.2 hm
  have hok : okIx [(r : Int), (c : Int)] [b, a] = true := by
    simp only [okIx, Bool.and_true, Bool.and_eq_true, decide_eq_true_eq]
    exact ⟨⟨hb0, hb1⟩, ha0, ha1⟩
  rw [if_pos hg, if_pos (by simp), if_pos hok]
  have ho : offV [(r : Int), (c : Int)] [b, a] = ((k % r * c + k / r : Nat) : Int) := by
    simp only [offV, prod, Int.mul_one, Int.add_zero]
    rw [← ha, ← hb]
    push_cast; rfl
  rw [ho]
theorem one_one {vs : List T_Val} {ax fr : Int} (hx : MatT x r c) (hgt : Good [(c : Int), (r : Int)]) (hn : c * r ≤ 4096) (hf : 5000 < fu) :
    ref12_job_one (fu + 3) ⟨45, S0, [canonT x], vs, x.fDims, ax, [(c : Int), (r : Int)], fr⟩ = some (turnT x r c) := by
  have hp : prod [(c : Int), (r : Int)] = ((c * r : Nat) : Int) := by simp [prod]
  have hg := hx.gd
  have hd := hx.dm
  rw [hd] at hg
  have h : ref12_job_one (fu + 3) ⟨45, S0, [canonT x], vs, x.fDims, ax, [(c : Int), (r : Int)], fr⟩ = (ref05_New (fu + 3) x.fType [(c : Int), (r : Int)]).bind fun x3 => (ref04_Size (fu + 3) [(c : Int), (r : Int)]).bind fun x4 => ref12_job_one.W1 (fu + 3) ⟨45, S0, [canonT x], vs, x.fDims, ax, [(c : Int), (r : Int)], fr⟩ (canonT x) x3 x4 x3.1.fF x3.1.fI x3.1.fB 0 := rfl
  rw [h, hx.ty, refNew_spec (by unfold Short; simp) (by simp), ob_some, refSize_spec (by unfold Short; simp) (by simp), ob_some]
  have hnew : newV 1 [(c : Int), (r : Int)] = (⟨1, [(c : Int), (r : Int)], List.replicate (c * r) 0, [], []⟩, 0) := by
    unfold newV
    rw [if_pos (.inl rfl), if_pos hgt, if_pos rfl, hp, Int.toNat_natCast]
  rw [hnew, sizeV, if_pos hgt, hp, hd]
  unfold ref12_job_one.W1
  have hz : (List.replicate (c * r) (0 : Int), ([] : List Int), ([] : List Bool), (0 : Int)) = (fun j : Nat => ((List.range j).map (turnF (x.fF.map canonF) r c) ++ List.replicate (c * r - j) 0, ([] : List Int), ([] : List Bool), (j : Int))) 0 := by simp
  show cloop _ (fu + 3) (List.replicate (c * r) (0 : Int), ([] : List Int), ([] : List Bool), (0 : Int)) = _
  rw [hz]
  refine cloop_to (c * r) (fun j : Nat => ((List.range j).map (turnF (x.fF.map canonF) r c) ++ List.replicate (c * r - j) 0, ([] : List Int), ([] : List Bool), (j : Int))) _ ?_ ?_ (by omega)
  · intro j hj next hnx
    have hr : 0 < r := by
      rcases Nat.eq_zero_or_pos r with h | h
      · subst h; simp at hj
      · exact h
    have hm := Nat.mod_lt j hr
    have hdv : j / r < c := Nat.div_lt_of_lt_mul (by rw [Nat.mul_comm]; exact hj)
    have hat := ix_lt hm hdv
    have hFl : (x.fF.map canonF).length = r * c := by rw [List.length_map]; exact hx.ln
    have hll : ((List.range j).map (turnF (x.fF.map canonF) r c) ++ List.replicate (c * r - j) (0 : Int)).length = c * r := by simp; omega
    show ref12_job_one.L1 (fu + 3) ⟨45, S0, [canonT x], vs, [(r : Int), (c : Int)], ax, [(c : Int), (r : Int)], fr⟩ (canonT x) (⟨1, [(c : Int), (r : Int)], List.replicate (c * r) 0, [], []⟩, 0) (((c * r : Nat) : Int), 0) (fun a b c d => next (a, b, c, d)) ((List.range j).map (turnF (x.fF.map canonF) r c) ++ List.replicate (c * r - j) 0) [] [] (j : Int) = _
    rw [ref12_job_one.L1, if_pos (show (j : Int) < ((c * r : Nat) : Int) by omega), place_one hgt hg hj (by omega) rfl, ob_some, if_pos (Int.natCast_nonneg _)]
    unfold jc
    rw [if_pos rfl]
    show (at? (x.fF.map canonF) _).bind _ = _
    rw [at_getD (by rw [hFl]; exact hat), ob_some, chk_pos (by rw [hll]; omega), Int.toNat_natCast]
    unfold ref12_job_one.c2
    rw [chk_pos (by rw [List.length_set]), chk_pos rfl, chk_pos rfl, wk_succ (by omega), ← hnx]
    congr 2
    have hlj : ((List.range j).map (turnF (x.fF.map canonF) r c)).length = j := by simp
    rw [List.set_append_right _ _ (by omega), hlj, Nat.sub_self, show c * r - j = (c * r - (j + 1)) + 1 by omega, List.replicate_succ, List.set_cons_zero, List.range_succ, List.map_append, List.append_assoc]
    rfl
  · intro next
    show ref12_job_one.L1 (fu + 3) ⟨45, S0, [canonT x], vs, [(r : Int), (c : Int)], ax, [(c : Int), (r : Int)], fr⟩ (canonT x) (⟨1, [(c : Int), (r : Int)], List.replicate (c * r) 0, [], []⟩, 0) (((c * r : Nat) : Int), 0) (fun a b c d => next (a, b, c, d)) ((List.range (c * r)).map (turnF (x.fF.map canonF) r c) ++ List.replicate (c * r - c * r) 0) [] [] ((c * r : Nat) : Int) = _
    rw [ref12_job_one.L1, if_neg (show ¬ ((c * r : Nat) : Int) < ((c * r : Nat) : Int) by omega), Nat.sub_self, List.replicate_zero, List.append_nil]
    rfl
theorem turned_spec (ht : Ten x) (hft : Fuel (fu + 3) x) (hx : MatT x r c) (hgt : Good [(c : Int), (r : Int)]) (hn : c * r ≤ 4096) (hf : 5000 < fu) : law14_turned (fu + 3) x = some (turnT x r c, true) := by
  obtain ⟨q, hq⟩ := axis_any (fu := fu + 3) (a := S0.fAxis) (n := (x.fDims.length : Int))
  have h : law14_turned (fu + 3) x = (ref12_Do (fu + 3) 45 S0 [x] 1).bind fun x2 => if x2.2 = 0 then ((at? x2.1 0).bind fun x3 => some (x3, true)) else some (T_Tensor.mk 0 ([]) ([]) ([]) ([]), false) := rfl
  have h2 : ref12_Do (fu + 3) 45 S0 [x] 1 = (ref11_Right (fu + 3) [x]).bind fun x6 => if x6 = 0 then ((ref11_Vals (fu + 3) [x]).bind fun x7 => (ref10_Node (fu + 3) 45 S0 x7 1).bind fun x8 => if x8.2 = 0 then ((at? [x] 0).bind fun x9 => (ref04_Axis (fu + 3) S0.fAxis (x9.fDims.length : Int)).bind fun x10 => (ref11_Canons (fu + 3) [x]).bind fun x11 => ref12_Do.W1 (fu + 3) S0 x7 x8 x9 x10 x11 ([]) ([] : List T_Tensor) 0) else some ([], x8.2)) else some ([], x6) := rfl
  have g0 : at? [x] 0 = some x := rfl
  have hdo : ref12_Do (fu + 3) 45 S0 [x] 1 = some ([turnT x r c], 0) := by
    rw [h2, right_one hx.ty ht.small hft hx.chk, ob_some, if_pos rfl, vals_one hx.ty ht, ob_some, node_one hx.ty hx.gd hx.dm hgt (by omega), ob_some, if_pos rfl, g0, ob_some, hq, ob_some, canons_one ht hft.2.1, ob_some]
    unfold ref12_Do.W1
    rw [cloop_succ']
    show ref12_Do.L1 (fu + 3) S0 [⟨x.fType, x.fDims, true, x⟩] ([⟨1, [(c : Int), (r : Int)], false, ⟨0, [], [], [], []⟩⟩], 0) x q [canonT x] _ [] [] 0 = _
    have g1 : at? [(⟨1, [(c : Int), (r : Int)], false, ⟨0, [], [], [], []⟩⟩ : T_Val)] 0 = some ⟨1, [(c : Int), (r : Int)], false, ⟨0, [], [], [], []⟩⟩ := rfl
    rw [ref12_Do.L1, if_pos (by simp), g1, ob_some, one_one hx hgt hn hf, ob_some, chk_pos (by simp), wz1, cloop_succ']
    show ref12_Do.L1 (fu + 3) S0 [⟨x.fType, x.fDims, true, x⟩] ([⟨1, [(c : Int), (r : Int)], false, ⟨0, [], [], [], []⟩⟩], 0) x q [canonT x] _ _ [_] 1 = _
    rw [ref12_Do.L1, if_neg (by simp)]
  rw [h, hdo, ob_some, if_pos rfl]
  rfl
end
end Go.Av
set_option linter.unusedVariables false
namespace Go.Av
theorem canonF_canonF (x : Int) : canonF (canonF x) = canonF x := by
  unfold canonF
  by_cases h : 2139095040 < x % 2147483648
  · rw [if_pos h]; decide
  · rw [if_neg h, if_neg h]
theorem canonF_rng {x : Int} (h : 0 ≤ x ∧ x < 4294967296) : 0 ≤ canonF x ∧ canonF x < 4294967296 := by
  unfold canonF
  split
  · omega
  · exact h
theorem getD_mem {l : List Int} {i : Nat} : l.getD i 0 = 0 ∨ l.getD i 0 ∈ l := by
  rw [List.getD_eq_getElem?_getD]
  by_cases h : i < l.length
  · rw [List.getElem?_eq_getElem h]; exact .inr (List.getElem_mem h)
  · rw [List.getElem?_eq_none (by omega)]; exact .inl rfl
theorem badV_all : ∀ {l : List T_Tensor}, (∀ t ∈ l, t.fType = 0 ∨ checkV t = 0) → badV l = none
  | [], _ => rfl
  | t :: l, h => by
    unfold badV
    rw [if_pos (h t (by simp)), badV_all fun u hu => h u (by simp [hu])]
section
variable {fu : Nat} {x y : T_Tensor} {r c : Nat} {s : T_Setting} {l : List T_Tensor}
theorem good_turn (h : Good [(r : Int), (c : Int)]) : Good [(c : Int), (r : Int)] := by
  obtain ⟨_, h2, h3⟩ := h
  refine ⟨by simp, fun z hz => ?_, ?_⟩
  · simp at hz
    rcases hz with rfl | rfl
    · exact h2 _ (by simp)
    · exact h2 _ (by simp)
  · simp only [prod, Int.mul_one] at h3 ⊢
    rw [Int.mul_comm]; exact h3
theorem MatT.g2 (h : MatT x r c) : Good [(c : Int), (r : Int)] ∧ c * r ≤ 4096 := by
  have hg := h.gd
  rw [h.dm] at hg
  have h2 := good_turn hg
  refine ⟨h2, ?_⟩
  have h3 := h2.2.2
  simp only [prod, Int.mul_one] at h3
  rw [← Int.natCast_mul] at h3
  omega
theorem turn_F {z : Int} (hz : z ∈ (turnT x r c).fF) : z = 0 ∨ z ∈ x.fF.map canonF := by
  obtain ⟨k, _, rfl⟩ := List.mem_map.1 hz
  exact getD_mem
theorem turn_can : (turnT x r c).fF.map canonF = (turnT x r c).fF := by
  conv => rhs; rw [← List.map_id (turnT x r c).fF]
  refine List.map_congr_left fun z hz => ?_
  rcases turn_F hz with rfl | h
  · decide
  · obtain ⟨w, _, rfl⟩ := List.mem_map.1 h
    exact canonF_canonF w
theorem MatT.turn (h : MatT x r c) : MatT (turnT x r c) c r := ⟨rfl, rfl, by simp [turnT], h.c1, h.r1, h.g2.1, rfl, rfl⟩
theorem turn_ten (ht : Ten x) (h : MatT x r c) : Ten (turnT x r c) := by
  have h1 := h.g2.2
  refine ⟨by simp [turnT], ?_, by simp [turnT], by simp [turnT], fun z hz => ?_⟩
  · simp only [turnT, List.length_map, List.length_range]; omega
  · rcases turn_F hz with rfl | hm
    · decide
    · obtain ⟨w, hw, rfl⟩ := List.mem_map.1 hm
      exact canonF_rng (ht.2.2.2.2 w hw)
theorem turn_fuel (h : MatT x r c) (hf : 5000 < fu) : Fuel fu (turnT x r c) := by
  have h1 := h.g2.2
  refine ⟨by simp only [turnT, List.length_cons, List.length_nil]; omega, ?_, by simp only [turnT, List.length_nil]; omega, by simp only [turnT, List.length_nil]; omega⟩
  simp only [turnT, List.length_map, List.length_range]; omega
theorem turn_get {i j : Nat} (hi : i < c) (hj : j < r) : (turnT x r c).fF.getD (i * r + j) 0 = (x.fF.map canonF).getD (j * c + i) 0 := by
  have h1 := ix_lt hi hj
  have e1 : (i * r + j) % r = j := by rw [Nat.add_comm, Nat.add_mul_mod_self_right, Nat.mod_eq_of_lt hj]
  have e2 : (i * r + j) / r = i := by rw [Nat.add_comm, Nat.add_mul_div_right _ _ (by omega), Nat.div_eq_of_lt hj]; omega
  rw [List.getD_eq_getElem?_getD, List.getElem?_eq_getElem (by simp [turnT]; exact h1)]
  simp only [turnT, List.getElem_map, List.getElem_range, Option.getD_some]
  unfold turnF
  rw [e1, e2]
theorem row_turn {i : Nat} (hi : i < c) : rowL ((turnT x r c).fF.map canonF) c r false i = rowL (x.fF.map canonF) r c true i := by
  rw [turn_can]
  unfold rowL lineV
  rw [if_neg (by decide), if_pos rfl]
  refine List.map_congr_left fun j hj => ?_
  have := turn_get (x := x) hi (List.mem_range.1 hj)
  rw [Nat.mul_one, Nat.mul_one, this, Nat.add_comm]
theorem col_turn {i : Nat} (hi : i < r) : rowL ((turnT x r c).fF.map canonF) c r true i = rowL (x.fF.map canonF) r c false i := by
  rw [turn_can]
  unfold rowL lineV
  rw [if_pos rfl, if_neg (by decide)]
  refine List.map_congr_left fun j hj => ?_
  have := turn_get (x := x) (List.mem_range.1 hj) hi
  rw [Nat.mul_one, Nat.mul_one, Nat.add_comm, this]
def pickT (t : Bool) (x : T_Tensor) (r c : Nat) : T_Tensor := if t = true then turnT x r c else x
theorem MatT.pick (h : MatT x r c) (t : Bool) : MatT (pickT t x r c) (twN t r c) (twN t c r) := by
  unfold pickT twN
  cases t
  · exact h
  · exact h.turn
theorem row_pick {t : Bool} {i : Nat} (hi : i < twN t r c) : rowL ((pickT t x r c).fF.map canonF) (twN t r c) (twN t c r) false i = rowL (x.fF.map canonF) r c t i := by
  unfold pickT twN at *
  cases t
  · rfl
  · exact row_turn hi
theorem col_pick {t : Bool} {i : Nat} (hi : i < twN t c r) : colL ((pickT t x r c).fF.map canonF) (twN t r c) (twN t c r) false i = colL (x.fF.map canonF) r c t i := by
  unfold pickT twN colL at *
  cases t
  · rfl
  · exact col_turn hi
def sF (s : T_Setting) : T_Setting := { s with fTransA := false, fTransB := false }
def l1T (s : T_Setting) (l : List T_Tensor) (r c : Nat) : List T_Tensor := if s.fTransA = true then l.set 0 (turnT (gT l 0) r c) else l
def l2T (s : T_Setting) (l : List T_Tensor) (r c q v : Nat) : List T_Tensor := if s.fTransB = true then (l1T s l r c).set 1 (turnT (gT l 1) q v) else l1T s l r c
theorem gT_set {i j : Nat} {z : T_Tensor} (hi : i < l.length) : gT (l.set i z) j = if i = j then z else gT l j := by
  unfold gT
  rw [List.getD_eq_getElem?_getD, List.getElem?_set, List.getD_eq_getElem?_getD]
  by_cases h1 : i = j
  · subst h1; simp [hi]
  · simp [h1]
variable {q v : Nat}
theorem l1_len : (l1T s l r c).length = l.length := by unfold l1T; split <;> simp
theorem l2_len : (l2T s l r c q v).length = l.length := by unfold l2T; split <;> simp [l1_len]
theorem l2_0 (h : 2 ≤ l.length) : gT (l2T s l r c q v) 0 = pickT s.fTransA (gT l 0) r c := by
  have e1 : gT (l1T s l r c) 0 = pickT s.fTransA (gT l 0) r c := by
    unfold l1T pickT
    split
    · rw [gT_set (by omega), if_pos rfl]
    · rfl
  unfold l2T
  split
  · rw [gT_set (by rw [l1_len]; omega), if_neg (by decide), e1]
  · exact e1
theorem l2_1 (h : 2 ≤ l.length) : gT (l2T s l r c q v) 1 = pickT s.fTransB (gT l 1) q v := by
  have e1 : gT (l1T s l r c) 1 = gT l 1 := by
    unfold l1T
    split
    · rw [gT_set (by omega), if_neg (by decide)]
    · rfl
  unfold l2T
  rw [show pickT s.fTransB (gT l 1) q v = if s.fTransB = true then turnT (gT l 1) q v else gT l 1 from rfl]
  split
  · rw [gT_set (by rw [l1_len]; omega), if_pos rfl]
  · exact e1
theorem l2_2 (h : 2 ≤ l.length) : gT (l2T s l r c q v) 2 = gT l 2 := by
  have e1 : gT (l1T s l r c) 2 = gT l 2 := by
    unfold l1T
    split
    · rw [gT_set (by omega), if_neg (by decide)]
    · rfl
  unfold l2T
  split
  · rw [gT_set (by rw [l1_len]; omega), if_neg (by decide), e1]
  · exact e1
theorem l2_mem {t : T_Tensor} (ht : t ∈ l2T s l r c q v) : t ∈ l ∨ t = turnT (gT l 0) r c ∨ t = turnT (gT l 1) q v := by
  have h1 : ∀ t ∈ l1T s l r c, t ∈ l ∨ t = turnT (gT l 0) r c := fun t ht => by
    unfold l1T at ht
    split at ht
    · exact List.mem_or_eq_of_mem_set ht
    · exact .inl ht
  unfold l2T at ht
  split at ht
  · rcases List.mem_or_eq_of_mem_set ht with h | h
    · rcases h1 t h with h | h
      · exact .inl h
      · exact .inr (.inl h)
    · exact .inr (.inr h)
  · rcases h1 t ht with h | h
    · exact .inl h
    · exact .inr (.inl h)
theorem ok_turned (h : OkG s l r c q v) : OkG (sF s) (l2T s l r c q v) (twN s.fTransA r c) (twN s.fTransA c r) (twN s.fTransB q v) (twN s.fTransB v q) := by
  obtain ⟨g1, g2⟩ := h.len
  have px := h.mx.pick s.fTransA
  have py := h.my.pick s.fTransB
  rw [← l2_0 (s := s) (q := q) (v := v) g1] at px
  rw [← l2_1 (s := s) (r := r) (c := c) g1] at py
  have hty : ∀ t ∈ l2T s l r c q v, t.fType = 0 ∨ t.fType = 1 := fun t ht => by
    rcases l2_mem ht with h1 | h1 | h1
    · have := h.node.typed (valOf t) (List.mem_map.2 ⟨t, h1, rfl⟩)
      rwa [val_ty] at this
    · subst h1; exact .inr rfl
    · subst h1; exact .inr rfl
  have hm := h.node.gemm.mid
  rw [twN_cast, twN_cast] at hm
  have hgd := h.good
  refine ⟨badV_all fun t ht => ?_, ⟨⟨by simp [l2_len]; omega, by simp [l2_len]; omega, by rw [vAt_map, val_ty, px.ty]; decide, by rw [vAt_map, val_ty, py.ty]; decide⟩, fun w hw => ?_, ⟨?_, ?_, ?_, fun h2 => ?_⟩, ?_⟩, px, py⟩
  · rcases l2_mem ht with h1 | h1 | h1
    · exact badV_none h.bad t h1
    · subst h1; exact .inr h.mx.turn.chk
    · subst h1; exact .inr h.my.turn.chk
  · obtain ⟨t, ht, rfl⟩ := List.mem_map.1 hw
    rw [val_ty]; exact hty t ht
  · rw [vAt_map, val_dims (by rw [px.ty]; decide), px.dm]
  · rw [vAt_map, val_dims (by rw [py.ty]; decide), py.dm]
  · exact hm
  · rw [vAt_map, l2_2 g1] at h2 ⊢
    have hb := h.node.gemm.bias (by rw [vAt_map]; exact h2)
    rw [vAt_map, twN_cast, twN_cast] at hb
    exact hb
  · exact hgd
theorem ans_turned (h : OkG s l r c q v) : ansG (sF s) (l2T s l r c q v) (twN s.fTransA r c) (twN s.fTransA c r) (twN s.fTransB q v) (twN s.fTransB v q) = ansG s l r c q v := by
  obtain ⟨g1, g2⟩ := h.len
  have ho : oAt ((l2T s l r c q v).map canonT) = oAt (l.map canonT) := by
    show gT ((l2T s l r c q v).map canonT) 2 = gT (l.map canonT) 2
    by_cases h2 : 2 < l.length
    · rw [gT_can (by rw [l2_len]; exact h2), gT_can h2, l2_2 g1]
    · rw [gT_none (by simp [l2_len]; omega), gT_none (by simp; omega)]
  have hl : ((l2T s l r c q v).map canonT).length = (l.map canonT).length := by simp [l2_len]
  have hcell : ∀ d k z, cellG (sF s) ((l2T s l r c q v).map canonT) d k z = cellG s (l.map canonT) d k z := fun d k z => by
    unfold cellG
    rw [ho, hl]
    rfl
  have hd : outD (sF s) (twN s.fTransA r c) (twN s.fTransA c r) (twN s.fTransB q v) (twN s.fTransB v q) = outD s r c q v := rfl
  unfold ansG
  rw [hd]
  show (⟨1, outD s r c q v, if twN s.fTransA r c * twN s.fTransB v q = 0 then [] else gemmV (sF s) ((l2T s l r c q v).map canonT) (outD s r c q v) (twN s.fTransA r c) (twN s.fTransB v q) (rowL ((gT (l2T s l r c q v) 0).fF.map canonF) (twN s.fTransA r c) (twN s.fTransA c r) false) (colL ((gT (l2T s l r c q v) 1).fF.map canonF) (twN s.fTransB q v) (twN s.fTransB v q) false), [], []⟩ : T_Tensor) = _
  have hg : gemmV (sF s) ((l2T s l r c q v).map canonT) (outD s r c q v) (twN s.fTransA r c) (twN s.fTransB v q) (rowL ((gT (l2T s l r c q v) 0).fF.map canonF) (twN s.fTransA r c) (twN s.fTransA c r) false) (colL ((gT (l2T s l r c q v) 1).fF.map canonF) (twN s.fTransB q v) (twN s.fTransB v q) false) = gemmV s (l.map canonT) (outD s r c q v) (twN s.fTransA r c) (twN s.fTransB v q) (rowL ((gT l 0).fF.map canonF) r c s.fTransA) (colL ((gT l 1).fF.map canonF) q v s.fTransB) := by
    unfold gemmV
    rw [l2_0 g1, l2_1 g1, List.flatMap_def, List.flatMap_def]
    refine congrArg List.flatten (List.map_congr_left fun i hi => ?_)
    refine List.map_congr_left fun k hk => ?_
    rw [hcell, row_pick (List.mem_range.1 hi), col_pick (List.mem_range.1 hk)]
  rw [hg]
theorem ans_small (h : OkG s l r c q v) (hf : 5000 < fu) : Small (ansG s l r c q v) ∧ Fuel fu (ansG s l r c q v) := by
  have hsz := h.size.2
  have hl : (ansG s l r c q v).fF.length ≤ 4096 := by
    unfold ansG
    simp only []
    split
    · simp
    · unfold gemmV
      rw [flatMap_len]
      exact hsz
  refine ⟨⟨by simp [ansG, outD], by omega, by simp [ansG], by simp [ansG]⟩, ?_, by omega, ?_, ?_⟩
  · simp only [ansG, outD, List.length_cons, List.length_nil]; omega
  · simp only [ansG, List.length_nil]; omega
  · simp only [ansG, List.length_nil]; omega
end
end Go.Av
