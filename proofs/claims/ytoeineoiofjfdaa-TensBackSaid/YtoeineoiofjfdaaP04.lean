/- Layer 4, shapes: what the plain functions come to. Conditions: those that each names. -/
import Derived.Test.YtoeineoiofjfdaaQS
import Derived.Test.YtoeineoiofjfdaaPl
set_option linter.unusedVariables false
namespace Go.Av

/-- where the first stands that fits; -1 -/
def fstAt (p : Int → Bool) : Nat → List Int → Int
  | _, [] => -1
  | i, x :: l => if p x = true then i else fstAt p (i + 1) l
theorem fstAt_any (p : Int → Bool) : ∀ (l : List Int) (i : Nat), decide (0 ≤ fstAt p i l) = l.any p
  | [], i => rfl
  | x :: l, i => by
    simp only [fstAt, List.any_cons]
    by_cases h : p x = true
    · simp [h]
    · simp [h, ← fstAt_any p l (i + 1)]
def Short (l : List Int) : Prop := l.length ≤ 140737488355328

/-- one round: a counter goes on -/
theorem wk_succ {k : Nat} (h : k ≤ 140737488355328) : wk .i64 ((k : Int) + 1) = ((k + 1 : Nat) : Int) := by rw [wk_eq (by omega) (by omega)]; omega

theorem IndexFunc_spec {fu : Nat} {l : List Int} {p : Int → Option Bool} {q : Int → Bool} (hp : ∀ x, p x = some (q x)) (hl : Short l) (hf : l.length < fu) : slices_IndexFunc_int fu l p = some (fstAt q 0 l) := by
  unfold slices_IndexFunc_int slices_IndexFunc_int_W1
  refine cloop_ind (fun (i : Int) => some (fstAt q i.toNat (l.drop i.toNat))) (fun i => 0 ≤ i ∧ i ≤ l.length) (fun i => l.length - i.toNat) ?_ fu 0 (by omega) (by simp; omega)
  rintro i ⟨h0, h1⟩ next hn
  obtain ⟨k, rfl⟩ := Int.eq_ofNat_of_zero_le h0
  unfold slices_IndexFunc_int_L1
  simp only [Int.toNat_natCast]
  by_cases hk : k < l.length
  · rw [if_pos (by omega), at?_get hk, ob_some, hp, ob_some, List.drop_eq_getElem_cons hk]
    simp only [fstAt]
    by_cases hq : q l[k] = true
    · rw [if_pos hq, if_pos hq]
    · rw [if_neg hq, if_neg hq, wk_succ (by unfold Short at hl; omega), hn _ (by omega) (by simp; omega)]
      simp
  · rw [if_neg (by omega), List.drop_of_length_le (by omega)]; rfl
theorem ContainsFunc_spec {fu : Nat} {l : List Int} {p : Int → Option Bool} {q : Int → Bool} (hp : ∀ x, p x = some (q x)) (hl : Short l) (hf : l.length < fu) : slices_ContainsFunc_int fu l p = some (l.any q) := by
  unfold slices_ContainsFunc_int
  rw [IndexFunc_spec hp hl hf, ob_some, fstAt_any]
theorem IndexI_spec {fu : Nat} {l : List Int} {x : Int} (hl : Short l) (hf : l.length < fu) : slices_Index_int fu l x = some (fstAt (fun y => decide (x = y)) 0 l) := by
  unfold slices_Index_int slices_Index_int_W1
  refine cloop_ind (fun (i : Int) => some (fstAt (fun y => decide (x = y)) i.toNat (l.drop i.toNat))) (fun i => 0 ≤ i ∧ i ≤ l.length) (fun i => l.length - i.toNat) ?_ fu 0 (by omega) (by simp; omega)
  rintro i ⟨h0, h1⟩ next hn
  obtain ⟨k, rfl⟩ := Int.eq_ofNat_of_zero_le h0
  unfold slices_Index_int_L1
  simp only [Int.toNat_natCast]
  by_cases hk : k < l.length
  · rw [if_pos (by omega), at?_get hk, ob_some, List.drop_eq_getElem_cons hk]
    simp only [fstAt]
    by_cases hq : x = l[k]
    · rw [if_pos hq, if_pos (by simpa using hq)]
    · rw [if_neg hq, if_neg (by simpa using hq), wk_succ (by unfold Short at hl; omega), hn _ (by omega) (by simp; omega)]
      simp
  · rw [if_neg (by omega), List.drop_of_length_le (by omega)]; rfl
theorem Contains_spec {fu : Nat} {l : List Int} {x : Int} (hl : Short l) (hf : l.length < fu) : slices_Contains_int fu l x = some (l.any fun y => decide (x = y)) := by
  unfold slices_Contains_int
  rw [IndexI_spec hl hf, ob_some, fstAt_any]

/-- the product -/
def prod : List Int → Int
  | [] => 1
  | x :: l => x * prod l
def Rng (l : List Int) : Prop := ∀ x ∈ l, 0 ≤ x ∧ x ≤ 4096
/-- dims that may be -/
def Good (l : List Int) : Prop := l.length ≤ 8 ∧ Rng l ∧ prod l ≤ 4096
instance (l : List Int) : Decidable (Rng l) := by unfold Rng; infer_instance
instance (l : List Int) : Decidable (Good l) := by unfold Good; infer_instance
def errS (l : List Int) : Int := if l.any (fun x => decide (x < 0)) = true then 1 else 4
def sizeV (l : List Int) : Int × Int := if Good l then (prod l, 0) else (0, errS l)
theorem errS_ne (l : List Int) : errS l ≠ 0 := by unfold errS; split <;> decide
theorem prod_nonneg : ∀ {l : List Int}, Rng l → 0 ≤ prod l
  | [], _ => by decide
  | x :: l, h => Int.mul_nonneg (h x (by simp)).1 (prod_nonneg fun y hy => h y (by simp [hy]))
theorem prod_pos : ∀ {l : List Int}, (∀ x ∈ l, 1 ≤ x) → 1 ≤ prod l
  | [], _ => by decide
  | x :: l, h => by
    have h1 := h x (by simp)
    have h2 := prod_pos (l := l) fun y hy => h y (by simp [hy])
    have := Int.mul_le_mul h1 h2 (by decide) (by omega)
    simpa [prod] using this
theorem prod_zero : ∀ {l : List Int}, 0 ∈ l → prod l = 0
  | x :: l, h => by
    rcases List.mem_cons.1 h with rfl | h
    · simp [prod]
    · simp [prod, prod_zero h]
theorem prod_zero_mem : ∀ {l : List Int}, prod l = 0 → 0 ∈ l
  | [], h => by simp [prod] at h
  | x :: l, h => by
    rcases Int.mul_eq_zero.1 h with rfl | h
    · simp
    · simp [prod_zero_mem h]
theorem div_lt_iff {m d : Int} (hm : 1 ≤ m) (hd : 0 ≤ d) : (Int.tdiv 4096 m < d) ↔ 4096 < m * d := by
  rw [Int.tdiv_eq_ediv_of_nonneg (by decide)]
  constructor
  · intro h
    have := Int.lt_mul_of_ediv_lt (by omega : 0 < m) h
    rwa [Int.mul_comm] at this
  · intro h
    exact Int.ediv_lt_of_lt_mul (by omega) (by rwa [Int.mul_comm])
theorem SizeW_spec {fu : Nat} {l : List Int} (hp : ∀ x ∈ l, 1 ≤ x ∧ x ≤ 4096) (hl : l.length ≤ 8) (hf : l.length < fu) : shape_Size_W1 fu l 1 0 = some (if prod l ≤ 4096 then (prod l, 0) else (0, 4)) := by
  unfold shape_Size_W1
  refine (cloop_ind (fun (s : Int × Int) => some (if s.1 * prod (l.drop s.2.toNat) ≤ 4096 then (s.1 * prod (l.drop s.2.toNat), 0) else (0, 4))) (fun s => 0 ≤ s.2 ∧ s.2 ≤ l.length ∧ 1 ≤ s.1 ∧ s.1 ≤ 4096) (fun s => l.length - s.2.toNat) ?_ fu (1, 0) (by simp) (by simp; omega)).trans (by simp)
  rintro ⟨m, i⟩ ⟨h0, h1, h2, h3⟩ next hn
  simp only at h0 h1 h2 h3 hn ⊢
  obtain ⟨k, rfl⟩ := Int.eq_ofNat_of_zero_le h0
  unfold shape_Size_L1
  simp only [Int.toNat_natCast]
  by_cases hk : k < l.length
  · obtain ⟨q1, q2⟩ := hp _ (List.getElem_mem hk)
    have t0 : 0 ≤ Int.tdiv 4096 m ∧ Int.tdiv 4096 m ≤ 4096 := by
      rw [Int.tdiv_eq_ediv_of_nonneg (by decide)]
      exact ⟨Int.ediv_nonneg (by decide) (by omega), Int.ediv_le_self _ (by decide)⟩
    rw [if_pos (by omega), at?_get hk, ob_some, chk_pos (by omega), wk_eq (by omega) (by omega), List.drop_eq_getElem_cons hk]
    have hpos : 1 ≤ prod (l.drop (k + 1)) := prod_pos fun x hx => (hp x (List.mem_of_mem_drop hx)).1
    have hge : 1 ≤ m * l[k] := by have := Int.mul_le_mul h2 q1 (by decide) (by omega); simpa using this
    simp only [prod, ← Int.mul_assoc]
    by_cases hd : Int.tdiv 4096 m < l[k]
    · rw [if_pos hd]
      rw [div_lt_iff h2 (by omega)] at hd
      have : m * l[k] * 1 ≤ m * l[k] * prod (l.drop (k + 1)) := Int.mul_le_mul_of_nonneg_left hpos (by omega)
      rw [if_neg (by omega)]
    · rw [if_neg hd]
      rw [div_lt_iff h2 (by omega)] at hd
      rw [wk_eq (by omega) (by omega), wk_succ (by omega), hn (m * l[k], ((k + 1 : Nat) : Int)) ⟨by simp only []; omega, by simp only []; omega, hge, by simp only []; omega⟩ (by simp; omega)]
      simp
  · rw [if_neg (by omega), List.drop_of_length_le (by omega)]
    simp only [prod, Int.mul_one]
    rw [if_pos h3]
theorem Size_spec {fu : Nat} {l : List Int} (hl : Short l) (hf : l.length < fu) : shape_Size fu l = some (sizeV l) := by
  unfold shape_Size
  rw [ContainsFunc_spec (p := fun y0 => shape_Size_1 fu y0) (q := fun x => decide (x < 0)) (fun x => rfl) hl hf, ob_some]
  by_cases h1 : l.any (fun x => decide (x < 0)) = true
  · rw [if_pos h1]
    have hg : ¬ Good l := fun hg => by
      obtain ⟨x, hx, hx2⟩ := List.any_eq_true.1 h1
      have := (hg.2.1 x hx).1
      simp at hx2; omega
    simp only [sizeV, if_neg hg, errS, if_pos h1]
  rw [if_neg h1]
  have he : errS l = 4 := by simp only [errS, if_neg h1]
  by_cases h2 : 8 < (l.length : Int)
  · rw [if_pos h2]
    have hg : ¬ Good l := fun hg => by have := hg.1; omega
    simp only [sizeV, if_neg hg, he]
  rw [if_neg h2, ContainsFunc_spec (p := fun y0 => shape_Size_2 fu y0) (q := fun x => decide (4096 < x)) (fun x => rfl) hl hf, ob_some]
  by_cases h3 : l.any (fun x => decide (4096 < x)) = true
  · rw [if_pos h3]
    have hg : ¬ Good l := fun hg => by
      obtain ⟨x, hx, hx2⟩ := List.any_eq_true.1 h3
      have := (hg.2.1 x hx).2
      simp at hx2; omega
    simp only [sizeV, if_neg hg, he]
  rw [if_neg h3]
  have hr : Rng l := fun x hx => by
    simp only [List.any_eq_true, decide_eq_true_eq, not_exists, not_and] at h1 h3
    have := h1 x hx; have := h3 x hx; omega
  unfold shape_Size_k1
  rw [Contains_spec hl hf, ob_some]
  by_cases h4 : (l.any fun y => decide ((0 : Int) = y)) = true
  · rw [if_pos h4]
    have hz : (0 : Int) ∈ l := by
      obtain ⟨x, hx, hx2⟩ := List.any_eq_true.1 h4
      simp at hx2; subst hx2; exact hx
    have hg : Good l := ⟨by omega, hr, by rw [prod_zero hz]; decide⟩
    simp only [sizeV, if_pos hg, prod_zero hz]
  rw [if_neg h4]
  have hp : ∀ x ∈ l, 1 ≤ x ∧ x ≤ 4096 := fun x hx => by
    have := hr x hx
    simp only [List.any_eq_true, decide_eq_true_eq, not_exists, not_and] at h4
    have := h4 x hx; omega
  rw [SizeW_spec hp (by omega) hf]
  by_cases h5 : prod l ≤ 4096
  · have hg : Good l := ⟨by omega, hr, h5⟩
    simp only [sizeV, if_pos hg, if_pos h5]
  · have hg : ¬ Good l := fun hg => h5 hg.2.2
    simp only [sizeV, if_neg hg, if_neg h5, he]
end Go.Av
