/- Layer 4, shapes: what the plain functions come to. Strides, indices, offsets. Copies. Layer 5: sameness, whether a tensor may be, copies whose no numbers are one. Floats: a product and a sum always come to something. Floats: what is exact comes out as it is. What infer tells of Conv, for two tensors that may be, a kernel of single cells. What a convolution's sum comes to, for kernels of single cells. What conv.Do comes to, for kernels of single cells. Products with what is no number. Conditions: those that each names. -/
import Derived.Test.YtpbegnnholhkdaaGreatQS
import Derived.Test.YtpbegnnholhkdaaGreatPl
set_option linter.unusedVariables false
namespace Go.Av

/-- where the first stands that fits; -1 -/
def fstAt (p : Int → Bool) : Nat → List Int → Int
  | _, [] => -1
  | i, x :: l => if p x = true then i else fstAt p (i + 1) l
theorem fstAt_any (p : Int → Bool) : ∀ (l : List Int) (i : Nat), decide (0 ≤ fstAt p i l) = l.any p
  | [], i => rfl
  | x :: l, i => by
    simp only [fstAt, List.any_cons]
    by_cases h : p x = true
    · simp [h]
    · simp [h, ← fstAt_any p l (i + 1)]
def Short (l : List Int) : Prop := l.length ≤ 140737488355328

/-- one round: a counter goes on -/
theorem wk_succ {k : Nat} (h : k ≤ 140737488355328) : wk .i64 ((k : Int) + 1) = ((k + 1 : Nat) : Int) := by rw [wk_eq (by omega) (by omega)]; omega

theorem IndexFunc_spec {fu : Nat} {l : List Int} {p : Int → Option Bool} {q : Int → Bool} (hp : ∀ x, p x = some (q x)) (hl : Short l) (hf : l.length < fu) : slices_IndexFunc_int fu l p = some (fstAt q 0 l) := by
  unfold slices_IndexFunc_int slices_IndexFunc_int.W1
  refine cloop_ind (fun (i : Int) => some (fstAt q i.toNat (l.drop i.toNat))) (fun i => 0 ≤ i ∧ i ≤ l.length) (fun i => l.length - i.toNat) ?_ fu 0 (by omega) (by simp; omega)
  rintro i ⟨h0, h1⟩ next hn
  obtain ⟨k, rfl⟩ := Int.eq_ofNat_of_zero_le h0
  unfold slices_IndexFunc_int.L1
  simp only [Int.toNat_natCast]
  by_cases hk : k < l.length
  · rw [if_pos (by omega), at?_get hk, ob_some, hp, ob_some, List.drop_eq_getElem_cons hk]
    simp only [fstAt]
    by_cases hq : q l[k] = true
    · rw [if_pos hq, if_pos hq]
    · rw [if_neg hq, if_neg hq, wk_succ (by unfold Short at hl; omega), hn _ (by omega) (by simp; omega)]
      simp
  · rw [if_neg (by omega), List.drop_of_length_le (by omega)]; rfl
theorem ContainsFunc_spec {fu : Nat} {l : List Int} {p : Int → Option Bool} {q : Int → Bool} (hp : ∀ x, p x = some (q x)) (hl : Short l) (hf : l.length < fu) : slices_ContainsFunc_int fu l p = some (l.any q) := by
  unfold slices_ContainsFunc_int
  rw [IndexFunc_spec hp hl hf, ob_some, fstAt_any]
theorem IndexI_spec {fu : Nat} {l : List Int} {x : Int} (hl : Short l) (hf : l.length < fu) : slices_Index_int fu l x = some (fstAt (fun y => decide (x = y)) 0 l) := by
  unfold slices_Index_int slices_Index_int.W1
  refine cloop_ind (fun (i : Int) => some (fstAt (fun y => decide (x = y)) i.toNat (l.drop i.toNat))) (fun i => 0 ≤ i ∧ i ≤ l.length) (fun i => l.length - i.toNat) ?_ fu 0 (by omega) (by simp; omega)
  rintro i ⟨h0, h1⟩ next hn
  obtain ⟨k, rfl⟩ := Int.eq_ofNat_of_zero_le h0
  unfold slices_Index_int.L1
  simp only [Int.toNat_natCast]
  by_cases hk : k < l.length
  · rw [if_pos (by omega), at?_get hk, ob_some, List.drop_eq_getElem_cons hk]
    simp only [fstAt]
    by_cases hq : x = l[k]
    · rw [if_pos hq, if_pos (by simpa using hq)]
    · rw [if_neg hq, if_neg (by simpa using hq), wk_succ (by unfold Short at hl; omega), hn _ (by omega) (by simp; omega)]
      simp
  · rw [if_neg (by omega), List.drop_of_length_le (by omega)]; rfl
theorem Contains_spec {fu : Nat} {l : List Int} {x : Int} (hl : Short l) (hf : l.length < fu) : slices_Contains_int fu l x = some (l.any fun y => decide (x = y)) := by
  unfold slices_Contains_int
  rw [IndexI_spec hl hf, ob_some, fstAt_any]

/-- the product -/
def prod : List Int → Int
  | [] => 1
  | x :: l => x * prod l
def Rng (l : List Int) : Prop := ∀ x ∈ l, 0 ≤ x ∧ x ≤ 4096
/-- dims that may be -/
def Good (l : List Int) : Prop := l.length ≤ 8 ∧ Rng l ∧ prod l ≤ 4096
instance (l : List Int) : Decidable (Rng l) := by unfold Rng; infer_instance
instance (l : List Int) : Decidable (Good l) := by unfold Good; infer_instance
def errS (l : List Int) : Int := if l.any (fun x => decide (x < 0)) = true then 1 else 4
def sizeV (l : List Int) : Int × Int := if Good l then (prod l, 0) else (0, errS l)
theorem errS_ne (l : List Int) : errS l ≠ 0 := by unfold errS; split <;> decide
theorem prod_nonneg : ∀ {l : List Int}, Rng l → 0 ≤ prod l
  | [], _ => by decide
  | x :: l, h => Int.mul_nonneg (h x (by simp)).1 (prod_nonneg fun y hy => h y (by simp [hy]))
theorem prod_pos : ∀ {l : List Int}, (∀ x ∈ l, 1 ≤ x) → 1 ≤ prod l
  | [], _ => by decide
  | x :: l, h => by
    have h1 := h x (by simp)
    have h2 := prod_pos (l := l) fun y hy => h y (by simp [hy])
    have := Int.mul_le_mul h1 h2 (by decide) (by omega)
    simpa [prod] using this
theorem prod_zero : ∀ {l : List Int}, 0 ∈ l → prod l = 0
  | x :: l, h => by
    rcases List.mem_cons.1 h with rfl | h
    · simp [prod]
    · simp [prod, prod_zero h]
theorem prod_zero_mem : ∀ {l : List Int}, prod l = 0 → 0 ∈ l
  | [], h => by simp [prod] at h
  | x :: l, h => by
    rcases Int.mul_eq_zero.1 h with rfl | h
    · simp
    · simp [prod_zero_mem h]
theorem div_lt_iff {m d : Int} (hm : 1 ≤ m) (hd : 0 ≤ d) : (Int.tdiv 4096 m < d) ↔ 4096 < m * d := by
  rw [Int.tdiv_eq_ediv_of_nonneg (by decide)]
  constructor
  · intro h
    have := Int.lt_mul_of_ediv_lt (by omega : 0 < m) h
    rwa [Int.mul_comm] at this
  · intro h
    exact Int.ediv_lt_of_lt_mul (by omega) (by rwa [Int.mul_comm])
theorem SizeW_spec {fu : Nat} {l : List Int} (hp : ∀ x ∈ l, 1 ≤ x ∧ x ≤ 4096) (hl : l.length ≤ 8) (hf : l.length < fu) : shape_Size.W1 fu l 1 0 = some (if prod l ≤ 4096 then (prod l, 0) else (0, 4)) := by
  unfold shape_Size.W1
  refine (cloop_ind (fun (s : Int × Int) => some (if s.1 * prod (l.drop s.2.toNat) ≤ 4096 then (s.1 * prod (l.drop s.2.toNat), 0) else (0, 4))) (fun s => 0 ≤ s.2 ∧ s.2 ≤ l.length ∧ 1 ≤ s.1 ∧ s.1 ≤ 4096) (fun s => l.length - s.2.toNat) ?_ fu (1, 0) (by simp) (by simp; omega)).trans (by simp)
  rintro ⟨m, i⟩ ⟨h0, h1, h2, h3⟩ next hn
  simp only at h0 h1 h2 h3 hn ⊢
  obtain ⟨k, rfl⟩ := Int.eq_ofNat_of_zero_le h0
  unfold shape_Size.L1
  simp only [Int.toNat_natCast]
  by_cases hk : k < l.length
  · obtain ⟨q1, q2⟩ := hp _ (List.getElem_mem hk)
    have t0 : 0 ≤ Int.tdiv 4096 m ∧ Int.tdiv 4096 m ≤ 4096 := by
      rw [Int.tdiv_eq_ediv_of_nonneg (by decide)]
      exact ⟨Int.ediv_nonneg (by decide) (by omega), Int.ediv_le_self _ (by decide)⟩
    rw [if_pos (by omega), at?_get hk, ob_some, chk_pos (by omega), wk_eq (by omega) (by omega), List.drop_eq_getElem_cons hk]
    have hpos : 1 ≤ prod (l.drop (k + 1)) := prod_pos fun x hx => (hp x (List.mem_of_mem_drop hx)).1
    have hge : 1 ≤ m * l[k] := by have := Int.mul_le_mul h2 q1 (by decide) (by omega); simpa using this
    simp only [prod, ← Int.mul_assoc]
    by_cases hd : Int.tdiv 4096 m < l[k]
    · rw [if_pos hd]
      rw [div_lt_iff h2 (by omega)] at hd
      have : m * l[k] * 1 ≤ m * l[k] * prod (l.drop (k + 1)) := Int.mul_le_mul_of_nonneg_left hpos (by omega)
      rw [if_neg (by omega)]
    · rw [if_neg hd]
      rw [div_lt_iff h2 (by omega)] at hd
      rw [wk_eq (by omega) (by omega), wk_succ (by omega), hn (m * l[k], ((k + 1 : Nat) : Int)) ⟨by simp only []; omega, by simp only []; omega, hge, by simp only []; omega⟩ (by simp; omega)]
      simp
  · rw [if_neg (by omega), List.drop_of_length_le (by omega)]
    simp only [prod, Int.mul_one]
    rw [if_pos h3]
theorem Size_spec {fu : Nat} {l : List Int} (hl : Short l) (hf : l.length < fu) : shape_Size fu l = some (sizeV l) := by
  unfold shape_Size; try unfold jn
  rw [ContainsFunc_spec (p := fun y0 => shape_Size_1 fu y0) (q := fun x => decide (x < 0)) (fun x => rfl) hl hf, ob_some]
  by_cases h1 : l.any (fun x => decide (x < 0)) = true
  · rw [if_pos h1]
    have hg : ¬ Good l := fun hg => by
      obtain ⟨x, hx, hx2⟩ := List.any_eq_true.1 h1
      have := (hg.2.1 x hx).1
      simp at hx2; omega
    simp only [sizeV, if_neg hg, errS, if_pos h1]
  rw [if_neg h1]
  have he : errS l = 4 := by simp only [errS, if_neg h1]
  by_cases h2 : 8 < (l.length : Int)
  · rw [if_pos h2]
    have hg : ¬ Good l := fun hg => by have := hg.1; omega
    simp only [sizeV, if_neg hg, he]
  rw [if_neg h2, ContainsFunc_spec (p := fun y0 => shape_Size_2 fu y0) (q := fun x => decide (4096 < x)) (fun x => rfl) hl hf, ob_some]
  by_cases h3 : l.any (fun x => decide (4096 < x)) = true
  · rw [if_pos h3]
    have hg : ¬ Good l := fun hg => by
      obtain ⟨x, hx, hx2⟩ := List.any_eq_true.1 h3
      have := (hg.2.1 x hx).2
      simp at hx2; omega
    simp only [sizeV, if_neg hg, he]
  rw [if_neg h3]
  have hr : Rng l := fun x hx => by
    simp only [List.any_eq_true, decide_eq_true_eq, not_exists, not_and] at h1 h3
    have := h1 x hx; have := h3 x hx; omega
  unfold shape_Size.k1
  rw [Contains_spec hl hf, ob_some]
  by_cases h4 : (l.any fun y => decide ((0 : Int) = y)) = true
  · rw [if_pos h4]
    have hz : (0 : Int) ∈ l := by
      obtain ⟨x, hx, hx2⟩ := List.any_eq_true.1 h4
      simp at hx2; subst hx2; exact hx
    have hg : Good l := ⟨by omega, hr, by rw [prod_zero hz]; decide⟩
    simp only [sizeV, if_pos hg, prod_zero hz]
  rw [if_neg h4]
  have hp : ∀ x ∈ l, 1 ≤ x ∧ x ≤ 4096 := fun x hx => by
    have := hr x hx
    simp only [List.any_eq_true, decide_eq_true_eq, not_exists, not_and] at h4
    have := h4 x hx; omega
  rw [SizeW_spec hp (by omega) hf]
  by_cases h5 : prod l ≤ 4096
  · have hg : Good l := ⟨by omega, hr, h5⟩
    simp only [sizeV, if_pos hg, if_pos h5]
  · have hg : ¬ Good l := fun hg => h5 hg.2.2
    simp only [sizeV, if_neg hg, if_neg h5, he]
end Go.Av
set_option linter.unusedVariables false
namespace Go.Av
def strdW : List Int → List Int
  | [] => []
  | _ :: l => wk .i64 (prod l) :: strdW l
theorem strdW_length : ∀ l, (strdW l).length = l.length
  | [] => rfl
  | _ :: l => by simp [strdW, strdW_length l]
theorem strdW_get : ∀ {l : List Int} {i : Nat} (h : i < l.length), (strdW l)[i]? = some (wk .i64 (prod (l.drop (i + 1))))
  | _ :: l, 0, _ => by simp [strdW]
  | _ :: l, i + 1, h => by
    have := strdW_get (l := l) (i := i) (by simpa using h)
    simpa [strdW] using this
theorem rep_set (i : Nat) (x : Int) (s : List Int) : (List.replicate (i + 1) 0 ++ s).set i x = List.replicate i 0 ++ x :: s := by
  rw [List.replicate_succ', List.append_assoc, List.set_append_right _ _ (by simp)]
  simp
theorem strides_spec {fu : Nat} {l : List Int} (hl : l.length * 8 ≤ 140737488355328) (hf : l.length < fu) : shape_strides fu l = some (strdW l) := by
  unfold shape_strides shape_strides.W1
  rw [chk_pos (by omega)]
  have hw : wk .i64 ((l.length : Int) - 1) = ((l.length : Int) - 1) := wk_eq (by omega) (by omega)
  rw [hw, Int.toNat_natCast]
  refine (cloop_ind (fun _ => some (strdW l)) (fun (s : List Int × Int × Int) => ∃ k : Nat, k ≤ l.length ∧ s = (List.replicate k 0 ++ strdW (l.drop k), wk .i64 (prod (l.drop k)), (k : Int) - 1)) (fun s => (s.2.2 + 1).toNat) ?_ fu _ ⟨l.length, Nat.le_refl _, by simp [strdW, prod]; decide⟩ (by simp; omega))
  rintro _ ⟨k, hk, rfl⟩ next hn
  unfold shape_strides.L1
  simp only
  match k, hk with
  | 0, _ => rw [if_neg (by decide)]; simp
  | k + 1, hk =>
    have e1 : (((k + 1 : Nat) : Int) - 1) = (k : Int) := by omega
    have hlen : (List.replicate (k + 1) (0 : Int) ++ strdW (l.drop (k + 1))).length = l.length := by simp [strdW_length]; omega
    rw [e1, if_pos (by omega), hlen, chk_pos (by omega), at?_get (by omega), ob_some, Int.toNat_natCast, rep_set, wk_mul_l, wk_eq (x := (k : Int) - 1) (by omega) (by omega)]
    refine hn _ ⟨k, by omega, ?_⟩ (by simp)
    rw [List.drop_eq_getElem_cons (by omega : k < l.length)]
    simp only [strdW, prod]
    rw [Int.mul_comm]

/-- all strides and indices of dims without noughts are small -/
theorem prod_drop_le {l : List Int} (hp : ∀ x ∈ l, 1 ≤ x) : ∀ k, 1 ≤ prod (l.drop k) ∧ prod (l.drop k) ≤ prod l := by
  induction l with
  | nil => intro k; simp [prod]
  | cons x l ih =>
    intro k
    have hx := hp x (by simp)
    have ih' := ih fun y hy => hp y (by simp [hy])
    cases k with
    | zero => exact ⟨by simpa using prod_pos hp, by simp⟩
    | succ k =>
      obtain ⟨h1, h2⟩ := ih' k
      have h3 := prod_pos (l := l) fun y hy => hp y (by simp [hy])
      refine ⟨by simpa using h1, ?_⟩
      simp only [List.drop_succ_cons, prod]
      have : 1 * prod l ≤ x * prod l := Int.mul_le_mul_of_nonneg_right hx (by omega)
      omega
theorem pos_of_good {l : List Int} (hg : Good l) (h0 : prod l ≠ 0) : ∀ x ∈ l, 1 ≤ x := fun x hx => by
  have := (hg.2.1 x hx).1
  by_cases h : x = 0
  · subst h; exact absurd (prod_zero hx) h0
  · omega
theorem good_short {l : List Int} (hg : Good l) : l.length * 8 ≤ 140737488355328 := by have := hg.1; omega

def idxV : List Int → Int → List Int
  | [], _ => []
  | _ :: l, a => a / prod l :: idxV l (a % prod l)
theorem idxV_length : ∀ l a, (idxV l a).length = l.length
  | [], _ => rfl
  | _ :: l, a => by simp [idxV, idxV_length l]
theorem IndexW_spec {fu : Nat} {l : List Int} {a : Int} (hg : Good l) (hn0 : 1 ≤ prod l) (ha : 0 ≤ a) (ha2 : a ≤ 4096) (hf : l.length < fu) : shape_Index.W1 fu (strdW l) (List.replicate l.length 0) a 0 = some (idxV l a, 0) := by
  have hp := pos_of_good hg (by omega)
  have hd := prod_drop_le hp
  have hP := hg.2.2
  have hL := hg.1
  unfold shape_Index.W1
  refine (cloop_ind (fun s => some (s.1.take s.2.2.toNat ++ idxV (l.drop s.2.2.toNat) s.2.1, (0 : Int))) (fun (s : List Int × Int × Int) => 0 ≤ s.2.2 ∧ s.2.2 ≤ l.length ∧ s.1.length = l.length ∧ 0 ≤ s.2.1 ∧ s.2.1 ≤ 4096) (fun s => l.length - s.2.2.toNat) ?_ fu _ ⟨by simp, by simp, by simp, ha, ha2⟩ (by simp; omega)).trans (by simp)
  rintro ⟨o, b, i⟩ ⟨h0, h1, h2, h3, h4⟩ next hn
  simp only at h0 h1 h2 h3 h4 hn ⊢
  obtain ⟨k, rfl⟩ := Int.eq_ofNat_of_zero_le h0
  unfold shape_Index.L1
  simp only [Int.toNat_natCast, strdW_length]
  by_cases hk : k < l.length
  · obtain ⟨d1, d2⟩ := hd (k + 1)
    have hw : wk .i64 (prod (l.drop (k + 1))) = prod (l.drop (k + 1)) := wk_eq (by omega) (by omega)
    rw [if_pos (by omega), at?_nat, strdW_get hk, ob_some, hw]
    have q1 : Int.tdiv b (prod (l.drop (k + 1))) = b / prod (l.drop (k + 1)) := Int.tdiv_eq_ediv_of_nonneg h3
    have q2 : Int.tmod b (prod (l.drop (k + 1))) = b % prod (l.drop (k + 1)) := Int.tmod_eq_emod_of_nonneg h3
    have q3 : 0 ≤ b / prod (l.drop (k + 1)) := Int.ediv_nonneg h3 (by omega)
    have q4 : b / prod (l.drop (k + 1)) ≤ b := Int.ediv_le_self _ h3
    have q5 : 0 ≤ b % prod (l.drop (k + 1)) := Int.emod_nonneg _ (by omega)
    have q6 : b % prod (l.drop (k + 1)) < prod (l.drop (k + 1)) := Int.emod_lt_of_pos _ (by omega)
    rw [chk_pos (by omega), chk_pos (by omega), q1, q2, wk_eq (by omega) (by omega), wk_succ (by omega)]
    rw [hn (_, _, ((k + 1 : Nat) : Int)) ⟨by simp only []; omega, by simp only []; omega, by simp [h2], q5, by simp only []; omega⟩ (by simp; omega)]
    simp only [Int.toNat_natCast, Option.some.injEq, Prod.mk.injEq, and_true]
    rw [List.drop_eq_getElem_cons hk]
    simp only [idxV]
    rw [List.take_succ_eq_append_getElem (by simp; omega), List.append_assoc, List.take_set, List.set_eq_of_length_le (by simp; omega)]
    simp
  · rw [if_neg (by omega), List.drop_of_length_le (by omega), List.take_of_length_le (by omega)]
    simp [idxV]
def indexV (l : List Int) (a : Int) : List Int × Int := if Good l then (if 0 ≤ a ∧ a < prod l then (idxV l a, 0) else ([], 2)) else ([], errS l)
theorem Index_spec {fu : Nat} {l : List Int} {a : Int} (hl : Short l) (hf : l.length < fu) : shape_Index fu l a = some (indexV l a) := by
  unfold shape_Index; try unfold jn
  rw [Size_spec hl hf, ob_some]
  simp only [sizeV, indexV]
  by_cases hg : Good l
  · simp only [if_pos hg, if_true]
    by_cases h1 : a < 0
    · rw [if_pos h1, if_neg (by omega)]
    · rw [if_neg h1]
      by_cases h2 : prod l ≤ a
      · rw [if_pos h2, if_neg (by omega)]
      · rw [if_neg h2, if_pos (by omega)]
        unfold shape_Index.k1
        have := hg.1
        have := hg.2.2
        rw [chk_pos (by omega), strides_spec (good_short hg) hf, ob_some, Int.toNat_natCast, IndexW_spec hg (by omega) (by omega) (by omega) hf]
  · simp only [if_neg hg]
    rw [if_neg (errS_ne l)]
/-- do indices stand within dims? -/
def okIx : List Int → List Int → Bool
  | d :: l, x :: xs => decide (0 ≤ x) && decide (x < d) && okIx l xs
  | _, _ => true
def offV : List Int → List Int → Int
  | _ :: l, x :: xs => x * prod l + offV l xs
  | _, _ => 0
/-- from a place to its indices and back -/
theorem okIx_idx : ∀ {l : List Int} {a : Int}, (∀ x ∈ l, 1 ≤ x) → 0 ≤ a → a < prod l → okIx l (idxV l a) = true
  | [], _, _, _, _ => rfl
  | d :: l, a, hp, h0, h1 => by
    have hq : 1 ≤ prod l := prod_pos fun x hx => hp x (by simp [hx])
    have h2 : 0 ≤ a / prod l := Int.ediv_nonneg h0 (by omega)
    have h3 : a / prod l < d := Int.ediv_lt_of_lt_mul (by omega) h1
    have h4 := okIx_idx (l := l) (a := a % prod l) (fun x hx => hp x (by simp [hx])) (Int.emod_nonneg _ (by omega)) (Int.emod_lt_of_pos _ (by omega))
    simp [idxV, okIx, h2, h3, h4]
theorem offV_idx : ∀ {l : List Int} {a : Int}, (∀ x ∈ l, 1 ≤ x) → 0 ≤ a → a < prod l → offV l (idxV l a) = a
  | [], a, _, h0, h1 => by simp [prod] at h1; simp [offV]; omega
  | d :: l, a, hp, h0, h1 => by
    have hq : 1 ≤ prod l := prod_pos fun x hx => hp x (by simp [hx])
    have h4 := offV_idx (l := l) (a := a % prod l) (fun x hx => hp x (by simp [hx])) (Int.emod_nonneg _ (by omega)) (Int.emod_lt_of_pos _ (by omega))
    simp only [idxV, offV, h4]
    rw [Int.mul_comm]
    exact Int.mul_ediv_add_emod a (prod l)
end Go.Av
set_option linter.unusedVariables false
namespace Go.Av
theorem Clone_spec {fu : Nat} {l : List Int} (h : l.length * 8 ≤ 140737488355328) : slices_Clone_int fu l = some l := by
  unfold slices_Clone_int
  rw [chk_pos (by omega)]
end Go.Av
set_option linter.unusedVariables false
namespace Go.Av
def sameT (a b : T_Tensor) : Bool := decide (a.fType = b.fType) && decide (a.fDims = b.fDims) && decide (a.fF = b.fF) && decide (a.fI = b.fI) && decide (a.fB = b.fB)
def Small (t : T_Tensor) : Prop := t.fDims.length * 8 ≤ 140737488351232 ∧ t.fF.length ≤ 140737488351232 ∧ t.fI.length ≤ 140737488351232 ∧ t.fB.length ≤ 140737488351232
def Fuel (fu : Nat) (t : T_Tensor) : Prop := t.fDims.length < fu ∧ t.fF.length < fu ∧ t.fI.length < fu ∧ t.fB.length < fu
theorem sameT_self (a : T_Tensor) : sameT a a = true := by simp [sameT]
def noT : T_Tensor := ⟨0, [], [], [], []⟩
theorem known_spec {fu : Nat} {k : Int} : tens_known fu k = some (decide (k = 1 ∨ k = 7 ∨ k = 9)) := by
  unfold tens_known tens_Width
  by_cases h1 : k = 1
  · simp [h1]
  · by_cases h2 : k = 7
    · simp [h2]
    · by_cases h3 : k = 9 <;> simp [h1, h2, h3]
def Known (k : Int) : Prop := k = 1 ∨ k = 7 ∨ k = 9
instance (k : Int) : Decidable (Known k) := by unfold Known; infer_instance
def LensOK (t : T_Tensor) : Prop := (t.fF.length : Int) = (if t.fType = 1 then prod t.fDims else 0) ∧ (t.fI.length : Int) = (if t.fType = 7 then prod t.fDims else 0) ∧ (t.fB.length : Int) = (if t.fType = 9 then prod t.fDims else 0)
instance (t : T_Tensor) : Decidable (LensOK t) := by unfold LensOK; infer_instance
def checkV (t : T_Tensor) : Int := if Known t.fType then (if Good t.fDims then (if LensOK t then 0 else 3) else errS t.fDims) else 5
theorem Check_spec {fu : Nat} {t : T_Tensor} (hs : Small t) (hf : Fuel fu t) : tens_Check fu t = some (checkV t) := by
  obtain ⟨s1, s2, s3, s4⟩ := hs
  unfold tens_Check checkV; try unfold jn
  rw [known_spec, ob_some, Size_spec (by unfold Short; omega) hf.1]
  by_cases hk : Known t.fType
  · rw [if_pos (by simpa [Known] using hk), ob_some, if_pos hk]
    simp only [sizeV]
    by_cases hg : Good t.fDims
    · simp only [if_pos hg, if_true]
      have hp := prod_nonneg hg.2.1
      have hsum : wk .i64 ((wk .i64 ((t.fF.length : Int) + (t.fI.length : Int))) + (t.fB.length : Int)) = t.fF.length + t.fI.length + t.fB.length := by
        rw [wk_add_l, wk_eq (by omega) (by omega)]
      unfold tens_Check.k1 LensOK
      simp only [hsum]
      rcases hk with e | e | e
      · simp only [e, show ¬ (1 : Int) = 7 by decide, show ¬ (1 : Int) = 9 by decide, if_false, if_true]
        by_cases h1 : (t.fF.length : Int) = prod t.fDims
        · by_cases h2 : (t.fF.length : Int) + t.fI.length + t.fB.length = prod t.fDims
          · rw [if_pos h1, if_pos h2, if_pos ⟨h1, by omega, by omega⟩]
          · rw [if_pos h1, if_neg h2, if_neg (fun h => h2 (by omega))]
        · rw [if_neg h1, if_neg (fun h => h1 h.1)]
      · simp only [e, show ¬ (7 : Int) = 1 by decide, show ¬ (7 : Int) = 9 by decide, if_false, if_true]
        by_cases h1 : (t.fI.length : Int) = prod t.fDims
        · by_cases h2 : (t.fF.length : Int) + t.fI.length + t.fB.length = prod t.fDims
          · rw [if_pos h1, if_pos h2, if_pos ⟨by omega, h1, by omega⟩]
          · rw [if_pos h1, if_neg h2, if_neg (fun h => h2 (by omega))]
        · rw [if_neg h1, if_neg (fun h => h1 h.2.1)]
      · simp only [e, show ¬ (9 : Int) = 1 by decide, show ¬ (9 : Int) = 7 by decide, if_false, if_true]
        by_cases h1 : (t.fB.length : Int) = prod t.fDims
        · by_cases h2 : (t.fF.length : Int) + t.fI.length + t.fB.length = prod t.fDims
          · rw [if_pos h1, if_pos h2, if_pos ⟨by omega, by omega, h1⟩]
          · rw [if_pos h1, if_neg h2, if_neg (fun h => h2 (by omega))]
        · rw [if_neg h1, if_neg (fun h => h1 h.2.2)]
    · simp only [if_neg hg]
      rw [if_neg (errS_ne _)]
  · rw [if_neg (by simpa [Known] using hk), if_neg hk]
theorem checkV_zero {t : T_Tensor} : checkV t = 0 ↔ Known t.fType ∧ Good t.fDims ∧ LensOK t := by
  unfold checkV
  by_cases hk : Known t.fType <;> by_cases hg : Good t.fDims <;> by_cases hl : LensOK t <;> simp [hk, hg, hl, errS_ne]

theorem map_loop {β : Type} {l : List Int} {f : Int → Int} {B : ((List Int × Int) → Option β) → (List Int × Int) → Option β} {c : List Int → Option β} {fu : Nat} (hf : l.length < fu)
    (hB : ∀ (next : List Int × Int → Option β) (k : Nat) (m : List Int) (hk : k < l.length), m.length = l.length → (hm : m[k]? = some l[k]) → B next (m, (k : Int)) = next (m.set k (f l[k]), ((k + 1 : Nat) : Int)))
    (hE : ∀ next (m : List Int), m.length = l.length → B next (m, (l.length : Int)) = c m) : cloop B fu (l, 0) = c (l.map f) := by
  have := cloop_up (body := B) (n := fu) l.length (fun k => (l.take k).map f ++ l.drop k) (c (l.map f)) ?_ ?_ hf
  · simpa using this
  · intro k hk next hn
    have hlk : ((l.take k).map f).length = k := by simp; omega
    rw [hB next k _ hk (by simp; omega) (by rw [List.getElem?_append_right (by omega), hlk, Nat.sub_self, List.getElem?_drop]; simp [hk])]
    have e : ((l.take k).map f ++ l.drop k).set k (f l[k]) = (l.take (k + 1)).map f ++ l.drop (k + 1) := by
      rw [List.set_append_right _ _ (by omega), hlk, Nat.sub_self, List.drop_eq_getElem_cons hk, List.set_cons_zero, List.take_add_one, List.getElem?_eq_getElem hk, List.map_append, List.append_assoc]
      rfl
    rw [e]
    exact hn
  · intro next
    rw [hE _ _ (by simp)]
    simp
def canonF (x : Int) : Int := if 2139095040 < x % 2147483648 then 2143289344 else x
def canonT (t : T_Tensor) : T_Tensor := ⟨t.fType, t.fDims, t.fF.map canonF, t.fI, t.fB⟩
theorem wk_eq32 {x : Int} (h0 : 0 ≤ x) (h1 : x < 4294967296) : wk .u32 x = x := by
  have : wk .u32 x = x % 4294967296 := by simp [wk, IntKind.wrap, IntKind.signed, IntKind.bits]
  rw [this, Int.emod_eq_of_lt h0 h1]
theorem abs_u32 {x : Int} (h0 : 0 ≤ x) (h1 : x < 4294967296) : bandn .u32 x 2147483648 = x % 2147483648 := by
  unfold bandn
  rw [show IntKind.u32.bits = 32 from rfl, show ~~~(BitVec.ofInt 32 2147483648) = BitVec.ofNat 32 (2 ^ 31 - 1) by decide, BitVec.toNat_and, BitVec.toNat_ofNat, BitVec.toNat_ofInt]
  have : (2 ^ 31 - 1) % 2 ^ 32 = 2 ^ 31 - 1 := by decide
  rw [this, Nat.and_two_pow_sub_one_eq_mod]
  have hw := wk_eq32 (x := (((x % ((2 ^ 32 : Nat) : Int)).toNat % 2 ^ 31 : Nat) : Int)) (by omega) (by omega)
  unfold wk at hw
  rw [hw]
  omega
theorem softCanon_spec {fu : Nat} {x : Int} (h0 : 0 ≤ x) (h1 : x < 4294967296) : soft_Canon fu x = some (canonF x) := by
  unfold soft_Canon soft_NaN soft_Abs canonF
  rw [abs_u32 h0 h1, ob_some, ob_some]
  by_cases h : 2139095040 < x % 2147483648 <;> simp [h]
def Ten (t : T_Tensor) : Prop := t.fDims.length * 8 ≤ 140737488351232 ∧ t.fF.length * 4 ≤ 140737488351232 ∧ t.fI.length * 8 ≤ 140737488351232 ∧ t.fB.length ≤ 140737488351232 ∧ ∀ x ∈ t.fF, 0 ≤ x ∧ x < 4294967296
theorem Ten.small {t : T_Tensor} (h : Ten t) : Small t := by obtain ⟨a, b, c, d, _⟩ := h; exact ⟨a, by omega, by omega, by omega⟩
theorem Copy_spec {fu : Nat} {t : T_Tensor} (h : Ten t) : tens_Copy fu t = some t := by
  obtain ⟨h1, h2, h3, h4, _⟩ := h
  unfold tens_Copy tens_own_int tens_own_uint32 tens_own_int64 tens_own_bool
  rw [chk_pos (by omega), ob_some, chk_pos (by omega), ob_some, chk_pos (by omega), ob_some, chk_pos (by omega), ob_some]
theorem Canon_spec {fu : Nat} {t : T_Tensor} (h : Ten t) (hf : t.fF.length < fu) : tens_Canon fu t = some (canonT t) := by
  have hu := h.2.2.2.2
  have hl := h.2.1
  unfold tens_Canon
  rw [Copy_spec h, ob_some]
  unfold tens_Canon.W1
  refine map_loop (f := canonF) (c := fun m => some (T_Tensor.mk t.fType t.fDims m t.fI t.fB)) hf ?_ ?_
  · intro next k m hk hm hg
    unfold tens_Canon.L1
    simp only []
    obtain ⟨u1, u2⟩ := hu _ (List.getElem_mem hk)
    rw [if_pos (by omega), at?_nat, hg, ob_some, softCanon_spec u1 u2, ob_some, chk_pos (by omega), wk_succ (by omega)]
    rfl
  · intro next m hm
    unfold tens_Canon.L1
    rw [if_neg (by simp)]
end Go.Av
set_option linter.unusedVariables false
namespace Go.Av
theorem u64_eq {x : Int} (h0 : 0 ≤ x) (h1 : x < 18446744073709551616) : wk .u64 x = x := by
  have : wk .u64 x = x % 18446744073709551616 := by simp [wk, IntKind.wrap, IntKind.signed, IntKind.bits]
  rw [this, Int.emod_eq_of_lt h0 h1]
theorem u32_eq {x : Int} (h0 : 0 ≤ x) (h1 : x < 4294967296) : wk .u32 x = x := by
  have : wk .u32 x = x % 4294967296 := by simp [wk, IntKind.wrap, IntKind.signed, IntKind.bits]
  rw [this, Int.emod_eq_of_lt h0 h1]
theorem two_mono {i j : Nat} (h : i ≤ j) : (2 : Nat) ^ i ≤ 2 ^ j := Nat.pow_le_pow_right (by decide) h
theorem min64 {k : Nat} (hk : k ≤ 64) : min ((k : Nat) : Int).toNat IntKind.u64.bits = k := by simp [IntKind.bits]; omega
theorem two_cast (k : Nat) : ((2 ^ k : Nat) : Int) = (2 : Int) ^ k := by rw [Int.natCast_pow]; rfl
theorem shr_at {a n : Nat} : (a : Int).fdiv ((2 : Int) ^ n) = ((a / 2 ^ n : Nat) : Int) := by
  rw [← two_cast, Int.fdiv_eq_ediv_of_nonneg _ (Int.natCast_nonneg _)]
  exact (Int.natCast_ediv a (2 ^ n)).symm
theorem pow_big {a k : Nat} {b : Nat} (ha : a < 2 ^ b) (hk : b ≤ k) : a / 2 ^ k = 0 := Nat.div_eq_of_lt (Nat.lt_of_lt_of_le ha (two_mono hk))
theorem shr_nat {a k : Nat} (h : a < 18446744073709551616) : shrk .u64 (a : Int) (k : Int) = ((a / 2 ^ k : Nat) : Int) := by
  unfold shrk
  rw [shr_at]
  by_cases hk : k ≤ 64
  · rw [min64 hk]
  · rw [show min ((k : Nat) : Int).toNat IntKind.u64.bits = 64 by simp [IntKind.bits]; omega, pow_big (b := 64) (by simpa using h) (Nat.le_refl _), pow_big (b := 64) (by simpa using h) (by omega)]
def lenOk (T : ByteArray) : Bool := (List.range 256).all fun i => match sat? T (i : Int) with
  | some n => decide (0 ≤ n) && decide (n ≤ 8) && decide (i < 2 ^ n.toNat) && (decide (n = 0) || decide (2 ^ (n.toNat - 1) ≤ i))
  | none => false
theorem lenOk_spec {T : ByteArray} (h : lenOk T = true) {i : Nat} (hi : i < 256) : ∃ n : Nat, sat? T (i : Int) = some (n : Int) ∧ n ≤ 8 ∧ i < 2 ^ n ∧ (n = 0 ∨ 2 ^ (n - 1) ≤ i) := by
  have := List.all_eq_true.1 h i (List.mem_range.2 hi)
  split at this
  · rename_i n hn
    simp only [Bool.and_eq_true, decide_eq_true_eq, Bool.or_eq_true] at this
    obtain ⟨⟨⟨a, b⟩, c⟩, d⟩ := this
    refine ⟨n.toNat, by rw [hn, Int.toNat_of_nonneg a], by omega, c, ?_⟩
    rcases d with d | d
    · exact .inl (by omega)
    · exact .inr d
  · cases this
/-- n bits are just enough -/
def Bits (x n : Nat) : Prop := x < 2 ^ n ∧ (n = 0 ∨ 2 ^ (n - 1) ≤ x)
theorem Bits.shift {x n k : Nat} (h : Bits (x / 2 ^ k) n) (h0 : 2 ^ k ≤ x) : Bits x (k + n) := by
  have hk : 0 < 2 ^ k := Nat.pos_of_ne_zero (by simp)
  obtain ⟨h1, h2⟩ := h
  have h3 : 1 ≤ x / 2 ^ k := (Nat.le_div_iff_mul_le hk).2 (by omega)
  refine ⟨?_, .inr ?_⟩
  · rw [Nat.pow_add]
    have h := (Nat.div_lt_iff_lt_mul hk).1 h1
    rw [Nat.mul_comm]; exact h
  · rcases h2 with h2 | h2
    · subst h2; simp at h1; omega
    · by_cases hn : n = 0
      · subst hn; simp at h1; omega
      · rw [show k + n - 1 = (n - 1) + k by omega, Nat.pow_add]
        exact (Nat.le_div_iff_mul_le hk).1 h2
theorem Len_k2 {fu x c : Nat} (hx : x < 65536) (hc : c ≤ 1000) : ∃ n : Nat, math_bits_Len64.k2 fu (x : Int) (c : Int) = some ((c + n : Nat) : Int) ∧ Bits x n ∧ n ≤ 16 := by
  unfold math_bits_Len64.k2
  generalize hT : (ByteArray.mk _ : ByteArray) = T
  have hok : lenOk T = true := by subst hT; kernel_rfl
  clear hT
  by_cases h : 256 ≤ x
  · rw [if_pos (by omega), show ((8 : Int)) = ((8 : Nat) : Int) from rfl, shr_nat (by omega)]
    have h8 : x / 2 ^ 8 < 256 := by omega
    obtain ⟨n, e1, e2, e3, e4⟩ := lenOk_spec hok h8
    have hw : wk .u8 ((x / 2 ^ 8 : Nat) : Int) = ((x / 2 ^ 8 : Nat) : Int) := by
      have : ∀ z : Int, wk .u8 z = z % 256 := fun z => by simp [wk, IntKind.wrap, IntKind.signed, IntKind.bits]
      rw [this, Int.emod_eq_of_lt (by omega) (by omega)]
    rw [hw, e1, ob_some]
    refine ⟨8 + n, ?_, Bits.shift ⟨e3, e4⟩ (by omega), by omega⟩
    rw [wk_eq (x := ((c : Nat) : Int) + ((8 : Nat) : Int)) (by omega) (by omega), wk_eq (x := ((n : Nat) : Int)) (by omega) (by omega), wk_eq (by omega) (by omega)]
    congr 1
    omega
  · rw [if_neg (by omega)]
    have hw : wk .u8 ((x : Nat) : Int) = ((x : Nat) : Int) := by
      have : ∀ z : Int, wk .u8 z = z % 256 := fun z => by simp [wk, IntKind.wrap, IntKind.signed, IntKind.bits]
      rw [this, Int.emod_eq_of_lt (by omega) (by omega)]
    obtain ⟨n, e1, e2, e3, e4⟩ := lenOk_spec hok (i := x) (by omega)
    refine ⟨n, ?_, ⟨e3, e4⟩, by omega⟩
    rw [hw, e1, ob_some, wk_eq (x := ((n : Nat) : Int)) (by omega) (by omega), wk_eq (by omega) (by omega)]
    congr 1
theorem Len_k1 {fu x c : Nat} (hx : x < 4294967296) (hc : c ≤ 100) : ∃ n : Nat, math_bits_Len64.k1 fu (x : Int) (c : Int) = some ((c + n : Nat) : Int) ∧ Bits x n ∧ n ≤ 32 := by
  unfold math_bits_Len64.k1; try unfold jn
  by_cases h : 65536 ≤ x
  · rw [if_pos (by omega), show ((16 : Int)) = ((16 : Nat) : Int) from rfl, shr_nat (by omega)]
    obtain ⟨n, e1, e2, e3⟩ := Len_k2 (fu := fu) (x := x / 2 ^ 16) (c := c + 16) (by omega) (by omega)
    refine ⟨16 + n, ?_, e2.shift (by omega), by omega⟩
    rw [wk_eq (x := ((c : Nat) : Int) + ((16 : Nat) : Int)) (by omega) (by omega), show ((c : Nat) : Int) + ((16 : Nat) : Int) = ((c + 16 : Nat) : Int) by omega, e1]
    congr 1; omega
  · rw [if_neg (by omega)]
    obtain ⟨n, e1, e2, e3⟩ := Len_k2 (fu := fu) (x := x) (c := c) (by omega) (by omega)
    exact ⟨n, e1, e2, by omega⟩
theorem Len64_spec {fu x : Nat} (hx : x < 18446744073709551616) : ∃ n : Nat, math_bits_Len64 fu (x : Int) = some (n : Int) ∧ Bits x n ∧ n ≤ 64 := by
  unfold math_bits_Len64; try unfold jn
  by_cases h : 4294967296 ≤ x
  · rw [if_pos (by omega), show ((32 : Int)) = ((32 : Nat) : Int) from rfl, shr_nat (by omega)]
    obtain ⟨n, e1, e2, e3⟩ := Len_k1 (fu := fu) (x := x / 2 ^ 32) (c := 32) (by omega) (by omega)
    exact ⟨32 + n, e1, e2.shift (by omega), by omega⟩
  · rw [if_neg (by omega), show ((0 : Int)) = ((0 : Nat) : Int) from rfl]
    obtain ⟨n, e1, e2, e3⟩ := Len_k1 (fu := fu) (x := x) (c := 0) (by omega) (by omega)
    exact ⟨n, by rw [e1]; congr 1; omega, e2, by omega⟩

theorem sign_tot {fu : Nat} {b : Bool} : ∃ r, soft_sign fu b = some r := by unfold soft_sign; split <;> exact ⟨_, rfl⟩
theorem tiny_tot {fu : Nat} {b : Bool} : ∃ r, soft_tiny fu 0 b = some r := by
  obtain ⟨s, hs⟩ := sign_tot (fu := fu) (b := b)
  unfold soft_tiny soft_outwards
  rw [chk_pos rfl, chk_pos rfl, ob_some, hs, ob_some]
  exact ⟨_, rfl⟩
theorem huge_tot {fu : Nat} {b : Bool} : ∃ r, soft_huge fu 0 b = some r := by
  obtain ⟨s, hs⟩ := sign_tot (fu := fu) (b := b)
  unfold soft_huge soft_huge.k1; try unfold jn
  rw [chk_pos rfl, hs, ob_some]
  exact ⟨_, rfl⟩
theorem k3_tot {fu : Nat} {a : Bool} {b c d : Int} : ∃ r, soft_Round.k3 fu a b c d = some r := by
  obtain ⟨s, hs⟩ := sign_tot (fu := fu) (b := a)
  obtain ⟨u, hu⟩ := huge_tot (fu := fu) (b := a)
  unfold soft_Round.k3
  rw [hs, hu]
  simp only [ob_some]
  repeat' split
  all_goals exact ⟨_, rfl⟩
theorem k2_tot {fu : Nat} {a e f g : Bool} {b c d : Int} : ∃ r, soft_Round.k2 fu a b c d e f g = some r := by
  unfold soft_Round.k2; try unfold jn
  repeat' split
  all_goals exact k3_tot
theorem k4_tot {fu : Nat} {a e f : Bool} {b c d : Int} : ∃ r, soft_Round.k4 fu a b c e d f = some r := by
  unfold soft_Round.k4
  repeat' split
  all_goals exact k2_tot
theorem k1_tot {fu : Nat} {a e : Bool} {b c : Int} {n : Nat} (hn : n ≤ 64) (hb : -300 ≤ b) (hb2 : b ≤ 200) : ∃ r, soft_Round.k1 fu a b c e (n : Int) = some r := by
  unfold soft_Round.k1; try unfold jn
  have e1 : wk .i64 ((n : Int) - 24) = (n : Int) - 24 := wk_eq (by omega) (by omega)
  have e2 : wk .i64 (-149 - b) = -149 - b := wk_eq (by omega) (by omega)
  rw [e1, e2]
  have h1 : (n : Int) - 24 ≤ imax ((n : Int) - 24) (-149 - b) := by unfold imax; split <;> omega
  have h2 : imax ((n : Int) - 24) (-149 - b) ≤ 151 := by unfold imax; split <;> omega
  generalize imax ((n : Int) - 24) (-149 - b) = m at h1 h2
  split
  · rw [chk_pos (by rw [wk_eq (by omega) (by omega)]; omega)]
    exact k2_tot
  · split
    · exact k2_tot
    · rw [chk_pos (by omega), chk_pos (by rw [wk_eq (by omega) (by omega)]; omega)]
      repeat' split
      all_goals exact k4_tot
theorem Round_tot {fu : Nat} {a e : Bool} {b c : Int} (h0 : 0 ≤ c) (h1 : c < 18446744073709551616) : ∃ r, soft_Round fu 0 a b c e = some r := by
  obtain ⟨k, rfl⟩ := Int.eq_ofNat_of_zero_le h0
  obtain ⟨n, hn, _, hn2⟩ := Len64_spec (fu := fu) (x := k) (by omega)
  obtain ⟨s, hs⟩ := sign_tot (fu := fu) (b := a)
  obtain ⟨u, hu⟩ := huge_tot (fu := fu) (b := a)
  obtain ⟨v, hv⟩ := tiny_tot (fu := fu) (b := a)
  unfold soft_Round; try unfold jn
  rw [chk_pos rfl, hn, ob_some, hs, hu, hv]
  simp only [ob_some]
  split
  · split <;> exact ⟨_, rfl⟩
  · split
    · exact ⟨_, rfl⟩
    · split
      · exact ⟨_, rfl⟩
      · exact k1_tot hn2 (by omega) (by omega)
theorem wk_u64 (x : Int) : 0 ≤ wk .u64 x ∧ wk .u64 x < 18446744073709551616 := by
  have : wk .u64 x = x % 18446744073709551616 := by simp [wk, IntKind.wrap, IntKind.signed, IntKind.bits]
  rw [this]; omega
theorem open_tot {fu : Nat} {x : Int} : ∃ r, soft_open fu x = some r ∧ -150 ≤ r.fexp ∧ r.fexp ≤ 200 := by
  have hb : 0 ≤ band .u32 (shrk .u32 x 23) 255 ∧ band .u32 (shrk .u32 x 23) 255 ≤ 255 := by
    unfold band
    rw [show IntKind.u32.bits = 32 from rfl, BitVec.toNat_and]
    have h : (BitVec.ofInt 32 (shrk .u32 x 23)).toNat &&& (BitVec.ofInt 32 255).toNat ≤ 255 := Nat.le_trans Nat.and_le_right (by decide)
    have hw := u32_eq (x := (((BitVec.ofInt 32 (shrk .u32 x 23)).toNat &&& (BitVec.ofInt 32 255).toNat : Nat) : Int)) (by omega) (by omega)
    unfold wk at hw
    rw [hw]
    omega
  unfold soft_open
  rw [wk_eq (x := band .u32 (shrk .u32 x 23) 255) (by omega) (by omega)]
  generalize band .u32 (shrk .u32 x 23) 255 = q at hb
  split
  · exact ⟨_, rfl, by show (-150 : Int) ≤ 0; omega, by show (0 : Int) ≤ 200; omega⟩
  · split
    · exact ⟨_, rfl, by show (-150 : Int) ≤ -149; omega, by show (-149 : Int) ≤ 200; omega⟩
    · refine ⟨_, rfl, ?_, ?_⟩
      · show -150 ≤ wk .i64 (q - 150)
        rw [wk_eq (by omega) (by omega)]; omega
      · show wk .i64 (q - 150) ≤ 200
        rw [wk_eq (by omega) (by omega)]; omega
theorem Mul_tot {fu : Nat} {x y : Int} : ∃ r, soft_Mul fu x y = some r := by
  obtain ⟨a, ha, _, _⟩ := open_tot (fu := fu) (x := x)
  obtain ⟨b, hb, _, _⟩ := open_tot (fu := fu) (x := y)
  obtain ⟨s, hs⟩ := sign_tot (fu := fu) (b := !(a.fneg == b.fneg))
  obtain ⟨r, hr⟩ := Round_tot (fu := fu) (a := !(a.fneg == b.fneg)) (e := false) (b := wk .i64 (a.fexp + b.fexp)) (wk_u64 (a.fsig * b.fsig)).1 (wk_u64 _).2
  unfold soft_Mul soft_MulBy soft_MulBy.k1; try unfold jn
  rw [chk_pos rfl, ha, ob_some, hb, ob_some, hs, hr]
  simp only [ob_some]
  repeat' split
  all_goals exact ⟨_, rfl⟩
theorem nought_tot {fu : Nat} : ∃ r, soft_nought fu 0 = some r := by
  obtain ⟨s, hs⟩ := sign_tot (fu := fu) (b := decide ((0 : Int) = 2))
  unfold soft_nought
  rw [chk_pos rfl, hs, ob_some]
  exact ⟨_, rfl⟩
theorem a3_tot {fu : Nat} {a b c : Bool} {x y z : Int} : ∃ r, soft_AddBy.k3 fu a b x y z c = some r := by
  obtain ⟨s, hs⟩ := nought_tot (fu := fu)
  obtain ⟨r1, h1⟩ := Round_tot (fu := fu) (a := a) (e := c) (b := x) (wk_u64 (y + z)).1 (wk_u64 _).2
  obtain ⟨r2, h2⟩ := Round_tot (fu := fu) (a := a) (e := true) (b := x) (wk_u64 (wk .u64 (y - z) - 1)).1 (wk_u64 _).2
  obtain ⟨r3, h3⟩ := Round_tot (fu := fu) (a := a) (e := false) (b := x) (wk_u64 (y - z)).1 (wk_u64 _).2
  obtain ⟨r4, h4⟩ := Round_tot (fu := fu) (a := b) (e := false) (b := x) (wk_u64 (z - y)).1 (wk_u64 _).2
  unfold soft_AddBy.k3
  rw [hs, h1, h2, h3, h4]
  simp only [ob_some]
  repeat' split
  all_goals exact ⟨_, rfl⟩
theorem a2_tot {fu : Nat} {a b : Bool} {x y z w : Int} (h : z ≤ x) (h1 : -1000 ≤ z) (h2 : x ≤ 1000) : ∃ r, soft_AddBy.k2 fu a x y b z w = some r := by
  unfold soft_AddBy.k2; try unfold jn
  rw [wk_eq (x := x - z) (by omega) (by omega)]
  split
  · rw [chk_pos (by omega)]; exact a3_tot
  · rw [chk_pos (by rw [wk_eq (by omega) (by omega)]; omega)]; exact a3_tot
theorem a1_tot {fu : Nat} {p q : T_soft_number} (h1 : -150 ≤ p.fexp) (h2 : p.fexp ≤ 200) (h3 : -150 ≤ q.fexp) (h4 : q.fexp ≤ 200) : ∃ r, soft_AddBy.k1 fu p q = some r := by
  unfold soft_AddBy.k1; try unfold jn
  split
  · exact a2_tot (by omega) (by omega) (by omega)
  · exact a2_tot (by omega) (by omega) (by omega)
theorem Add_tot {fu : Nat} {x y : Int} : ∃ r, soft_Add fu x y = some r := by
  obtain ⟨a, ha, a1, a2⟩ := open_tot (fu := fu) (x := x)
  obtain ⟨b, hb, b1, b2⟩ := open_tot (fu := fu) (x := y)
  obtain ⟨s, hs⟩ := nought_tot (fu := fu)
  obtain ⟨r, hr⟩ := a1_tot (fu := fu) a1 a2 b1 b2
  unfold soft_Add soft_AddBy; try unfold jn
  rw [chk_pos rfl, ha, ob_some, hb, ob_some, hs, hr]
  simp only [ob_some]
  repeat' split
  all_goals exact ⟨_, rfl⟩
theorem Mul_fu {fu : Nat} {x y : Int} : soft_Mul fu x y = soft_Mul 0 x y := rfl
theorem Add_fu {fu : Nat} {x y : Int} : soft_Add fu x y = soft_Add 0 x y := rfl
def mulV (x y : Int) : Int := (soft_Mul 0 x y).getD 0
def addV (x y : Int) : Int := (soft_Add 0 x y).getD 0
theorem Mul_spec {fu : Nat} {x y : Int} : soft_Mul fu x y = some (mulV x y) := by
  rw [Mul_fu]; unfold mulV
  obtain ⟨r, hr⟩ := Mul_tot (fu := 0) (x := x) (y := y)
  rw [hr]; rfl
theorem Add_spec {fu : Nat} {x y : Int} : soft_Add fu x y = some (addV x y) := by
  rw [Add_fu]; unfold addV
  obtain ⟨r, hr⟩ := Add_tot (fu := 0) (x := x) (y := y)
  rw [hr]; rfl
/-- a sum of products, in order -/
def dotV (s : Int) (a b : List Int) : Int := (a.zip b).foldl (fun s p => addV s (mulV p.1 p.2)) s
theorem imin_cast {a b : Nat} : imin (a : Int) (b : Int) = ((min a b : Nat) : Int) := by unfold imin; split <;> omega
end Go.Av
set_option linter.unusedVariables false
namespace Go.Av
theorem shl_nat {a k : Nat} (hk : k ≤ 64) (h : a * 2 ^ k < 18446744073709551616) : shlk .u64 (a : Int) (k : Int) = ((a * 2 ^ k : Nat) : Int) := by
  unfold shlk
  rw [min64 hk, ← two_cast, ← Int.natCast_mul]
  exact u64_eq (by omega) (by omega)
theorem shr_nat32 {a k : Nat} (h : a < 4294967296) : shrk .u32 (a : Int) (k : Int) = ((a / 2 ^ k : Nat) : Int) := by
  unfold shrk
  rw [shr_at]
  by_cases hk : k ≤ 32
  · rw [show min ((k : Nat) : Int).toNat IntKind.u32.bits = k by simp [IntKind.bits]; omega]
  · rw [show min ((k : Nat) : Int).toNat IntKind.u32.bits = 32 by simp [IntKind.bits]; omega, pow_big (b := 32) (by simpa using h) (Nat.le_refl _), pow_big (b := 32) (by simpa using h) (by omega)]
theorem bv_nat {n a : Nat} (h : a < 2 ^ n) : (BitVec.ofInt n (a : Int)).toNat = a := by
  rw [BitVec.toNat_ofInt]
  have : ((a : Int) % ((2 ^ n : Nat) : Int)) = a := Int.emod_eq_of_lt (by omega) (by omega)
  rw [this]; rfl
theorem and_nat {a b : Nat} (ha : a < 18446744073709551616) (hb : b < 18446744073709551616) : band .u64 (a : Int) (b : Int) = ((a &&& b : Nat) : Int) := by
  unfold band
  rw [show IntKind.u64.bits = 64 from rfl, BitVec.toNat_and, bv_nat (by simpa using ha), bv_nat (by simpa using hb)]
  have : a &&& b ≤ a := Nat.and_le_left
  exact u64_eq (by omega) (by omega)
theorem and_nat32 {a b : Nat} (ha : a < 4294967296) (hb : b < 4294967296) : band .u32 (a : Int) (b : Int) = ((a &&& b : Nat) : Int) := by
  unfold band
  rw [show IntKind.u32.bits = 32 from rfl, BitVec.toNat_and, bv_nat (by simpa using ha), bv_nat (by simpa using hb)]
  have : a &&& b ≤ a := Nat.and_le_left
  exact u32_eq (by omega) (by omega)
theorem mask_nat {a j : Nat} (hj : j ≤ 64) (ha : a < 18446744073709551616) : band .u64 (a : Int) ((2 ^ j - 1 : Nat) : Int) = ((a % 2 ^ j : Nat) : Int) := by
  have : (2 : Nat) ^ j ≤ 2 ^ 64 := two_mono hj
  rw [and_nat ha (by omega), Nat.and_two_pow_sub_one_eq_mod]
theorem mask_nat32 {a j : Nat} (hj : j ≤ 32) (ha : a < 4294967296) : band .u32 (a : Int) ((2 ^ j - 1 : Nat) : Int) = ((a % 2 ^ j : Nat) : Int) := by
  have : (2 : Nat) ^ j ≤ 2 ^ 32 := two_mono hj
  rw [and_nat32 ha (by omega), Nat.and_two_pow_sub_one_eq_mod]
theorem or_low {f j : Nat} (c : Nat) (hf : f < 2 ^ j) : f ||| 2 ^ j * c = f + 2 ^ j * c := by
  rw [Nat.or_comm, ← Nat.two_pow_add_eq_or_of_lt hf, Nat.add_comm]
theorem or_nat {a b : Nat} (ha : a < 18446744073709551616) (hb : b < 18446744073709551616) (hs : a ||| b < 18446744073709551616) : bor .u64 (a : Int) (b : Int) = ((a ||| b : Nat) : Int) := by
  unfold bor
  rw [show IntKind.u64.bits = 64 from rfl, BitVec.toNat_or, bv_nat (by simpa using ha), bv_nat (by simpa using hb)]
  exact u64_eq (by omega) (by omega)
theorem or_nat32 {a b : Nat} (ha : a < 4294967296) (hb : b < 4294967296) (hs : a ||| b < 4294967296) : bor .u32 (a : Int) (b : Int) = ((a ||| b : Nat) : Int) := by
  unfold bor
  rw [show IntKind.u32.bits = 32 from rfl, BitVec.toNat_or, bv_nat (by simpa using ha), bv_nat (by simpa using hb)]
  exact u32_eq (by omega) (by omega)
/-- a sign -/
def sgN (neg : Bool) : Nat := if neg then 2147483648 else 0
theorem sign_spec {fu : Nat} {neg : Bool} : soft_sign fu neg = some ((sgN neg : Nat) : Int) := by
  unfold soft_sign sgN
  cases neg <;> rfl
theorem sign_or {neg : Bool} {m : Nat} (hm : m < 2147483648) : bor .u32 ((sgN neg : Nat) : Int) (m : Int) = ((sgN neg + m : Nat) : Int) := by
  have h : sgN neg ||| m = sgN neg + m := by
    unfold sgN
    cases neg with
    | false => simp
    | true =>
      have := or_low (f := m) (j := 31) 1 (by simpa using hm)
      rw [Nat.or_comm]
      simpa [Nat.add_comm] using this
  have hs : sgN neg ≤ 2147483648 := by unfold sgN; split <;> omega
  rw [or_nat32 (by omega) (by omega) (by omega), h]
theorem sgN_le (neg : Bool) : sgN neg ≤ 2147483648 := by unfold sgN; split <;> omega
/-- a finite float, taken apart -/
structure Opn (a : Nat) (x : T_soft_number) (s e : Nat) : Prop where
  neg : x.fneg = decide (2147483648 ≤ a)
  nan : x.fnan = false
  inf : x.finf = false
  sig : x.fsig = (s : Int)
  exp : x.fexp = (e : Int) - 149
  s24 : s < 16777216
  e253 : e ≤ 253
  norm : e = 0 ∨ 8388608 ≤ s
  val : a % 2147483648 = e * 8388608 + s
theorem open_fin {fu a : Nat} (ha : a < 4294967296) (hf : a % 2147483648 < 2139095040) : ∃ x s e, soft_open fu (a : Int) = some x ∧ Opn a x s e := by
  have g1 : shrk .u32 (a : Int) 23 = ((a / 8388608 : Nat) : Int) := shr_nat32 (k := 23) ha
  have g2 : band .u32 ((a / 8388608 : Nat) : Int) 255 = ((a / 8388608 % 256 : Nat) : Int) := mask_nat32 (j := 8) (by decide) (by omega)
  have g3 : shrk .u32 (a : Int) 31 = ((a / 2147483648 : Nat) : Int) := shr_nat32 (k := 31) ha
  have g4 : band .u32 (a : Int) 8388607 = ((a % 8388608 : Nat) : Int) := mask_nat32 (j := 23) (by decide) ha
  have g5 : wk .u64 ((a % 8388608 : Nat) : Int) = ((a % 8388608 : Nat) : Int) := u64_eq (by omega) (by omega)
  have g6 : wk .i64 ((a / 8388608 % 256 : Nat) : Int) = ((a / 8388608 % 256 : Nat) : Int) := wk_eq (by omega) (by omega)
  have g7 : bor .u64 ((a % 8388608 : Nat) : Int) 8388608 = ((a % 8388608 + 8388608 : Nat) : Int) := by
    have h := or_low (f := a % 8388608) (j := 23) 1 (by omega)
    have h2 := or_nat (a := a % 8388608) (b := 8388608) (by omega) (by decide) (by
      rw [show (8388608 : Nat) = 2 ^ 23 * 1 from rfl] at *
      rw [h]; omega)
    rw [show ((8388608 : Int)) = ((8388608 : Nat) : Int) from rfl, h2]
    congr 1
  have gneg : decide (((a / 2147483648 : Nat) : Int) = 1) = decide (2147483648 ≤ a) := decide_eq_decide.2 ⟨fun h => by omega, fun h => by omega⟩
  unfold soft_open
  rw [g1, g2, g3, g4, g5, g6, gneg, if_neg (by omega)]
  by_cases h2 : ((a / 8388608 % 256 : Nat) : Int) = 0
  · rw [if_pos h2]
    exact ⟨_, a % 8388608, 0, rfl, rfl, rfl, rfl, rfl, rfl, by omega, by omega, .inl rfl, by omega⟩
  · rw [if_neg h2, g7]
    refine ⟨_, a % 8388608 + 8388608, a / 8388608 % 256 - 1, rfl, rfl, rfl, rfl, rfl, ?_, by omega, by omega, .inr (by omega), by omega⟩
    show wk .i64 _ = _
    rw [wk_eq (by omega) (by omega)]
    omega
theorem pow_lt {a b : Nat} (h : 2 ^ a < 2 ^ b) : a < b := by
  rcases Nat.lt_or_ge a b with h1 | h1
  · exact h1
  · have := two_mono h1; omega
theorem Round_exact {fu s e k : Nat} {neg : Bool} (h0 : 0 < s) (hs : s < 16777216) (hn : e = 0 ∨ 8388608 ≤ s) (he : e ≤ 253) (hk : k ≤ 38) (ho : e * 8388608 + s < 2139095040) {E S : Int} (hE : E = (e : Int) - 149 - k) (hS : S = ((s * 2 ^ k : Nat) : Int)) :
    soft_Round fu 0 neg E S false = some ((sgN neg + (e * 8388608 + s) : Nat) : Int) := by
  subst hE hS
  have h38 : (2 : Nat) ^ k ≤ 2 ^ 38 := two_mono hk
  have hp : 1 ≤ (2 : Nat) ^ k := Nat.one_le_two_pow
  have hx : s * 2 ^ k < 16777216 * 2 ^ k := Nat.mul_lt_mul_of_pos_right hs (by omega)
  have hx1 : 2 ^ k ≤ s * 2 ^ k := Nat.le_mul_of_pos_left _ h0
  obtain ⟨n, hn1, ⟨hb1, hb2⟩, hn64⟩ := Len64_spec (fu := fu) (x := s * 2 ^ k) (by omega)
  have hn0 : n ≠ 0 := by rintro rfl; simp at hb1; omega
  have hkn : k < n := pow_lt (by omega)
  have hb3 := hb2.resolve_left hn0
  have hn24 : n ≤ 24 + k := by
    have : n - 1 < 24 + k := pow_lt (by rw [Nat.pow_add]; omega)
    omega
  have hn25 : e ≠ 0 → n = 24 + k := fun h => by
    have h8 := hn.resolve_left h
    have : 8388608 * 2 ^ k ≤ s * 2 ^ k := Nat.mul_le_mul_right _ h8
    have : 23 + k < n := pow_lt (by rw [Nat.pow_add]; omega)
    omega
  have eD : imax (wk .i64 ((n : Int) - 24)) (wk .i64 (-149 - ((e : Int) - 149 - k))) = (k : Int) := by
    rw [wk_eq (by omega) (by omega), wk_eq (by omega) (by omega)]
    unfold imax
    by_cases h : e = 0
    · split <;> omega
    · have := hn25 h; split <;> omega
  have e23 : shlk .u64 (e : Int) 23 = ((e * 8388608 : Nat) : Int) := by
    have h := shl_nat (a := e) (k := 23) (by decide) (Nat.lt_of_le_of_lt (Nat.mul_le_mul_right _ he) (by decide))
    rw [show (2 : Nat) ^ 23 = 8388608 from rfl] at h; exact h
  have k3 : soft_Round.k3 fu neg ((e : Int) - 149 - k) (n : Int) (s : Int) = some ((sgN neg + (e * 8388608 + s) : Nat) : Int) := by
    unfold soft_Round.k3
    rw [eD, if_neg (by omega)]
    rw [show (e : Int) - 149 - k + k = (e : Int) - 149 by omega, wk_eq (x := (e : Int) - 149) (by omega) (by omega), if_neg (by omega), show (e : Int) - 149 + 149 = (e : Int) by omega, wk_eq (x := (e : Int)) (by omega) (by omega), u64_eq (x := (e : Int)) (by omega) (by omega),
      e23, show ((e * 8388608 : Nat) : Int) + (s : Int) = ((e * 8388608 + s : Nat) : Int) by omega, u64_eq (x := ((e * 8388608 + s : Nat) : Int)) (by omega) (by omega), if_neg (by omega), sign_spec, ob_some, u32_eq (x := ((e * 8388608 + s : Nat) : Int)) (by omega) (by omega), sign_or (by omega)]
  have k2 : ∀ c : Bool, soft_Round.k2 fu neg ((e : Int) - 149 - k) (n : Int) (s : Int) false false c = some ((sgN neg + (e * 8388608 + s) : Nat) : Int) := fun c => by
    unfold soft_Round.k2; try unfold jn
    rw [if_neg (by decide), if_neg (by decide), k3]
  unfold soft_Round; try unfold jn
  rw [chk_pos rfl, hn1, ob_some, if_neg (by omega), if_neg (by omega), if_neg (by omega)]
  unfold soft_Round.k1; try unfold jn
  rw [eD]
  by_cases hk0 : k = 0
  · subst hk0
    rw [if_pos (by decide), show wk .i64 (0 - ((0 : Nat) : Int)) = ((0 : Nat) : Int) from rfl, chk_pos (by decide), shl_nat (by decide) (by omega)]
    simpa using k2 false
  · have hk1 : (2 : Nat) ^ (k - 1) < 2 ^ k := Nat.pow_lt_pow_right (by decide) (by omega)
    have hk2 : 1 ≤ (2 : Nat) ^ (k - 1) := Nat.one_le_two_pow
    have e1 : wk .i64 ((k : Int) - 1) = ((k - 1 : Nat) : Int) := by rw [wk_eq (by omega) (by omega)]; omega
    have e2 : shlk .u64 1 ((k - 1 : Nat) : Int) = ((2 ^ (k - 1) : Nat) : Int) := by
      have := shl_nat (a := 1) (k := k - 1) (by omega) (by omega)
      simpa using this
    have e3 : shlk .u64 1 (k : Int) = ((2 ^ k : Nat) : Int) := by
      have := shl_nat (a := 1) (k := k) (by omega) (by omega)
      simpa using this
    have e4 : wk .u64 (((2 ^ k : Nat) : Int) - 1) = ((2 ^ k - 1 : Nat) : Int) := by rw [u64_eq (by omega) (by omega)]; omega
    have e5 : band .u64 ((s * 2 ^ k : Nat) : Int) ((2 ^ k - 1 : Nat) : Int) = 0 := by rw [mask_nat (by omega) (by omega)]; simp
    have e6 : shrk .u64 ((s * 2 ^ k : Nat) : Int) (k : Int) = (s : Int) := by rw [shr_nat (by omega), Nat.mul_div_cancel _ (by omega)]
    rw [if_neg (by omega), if_neg (by omega), chk_pos (by omega), e1, chk_pos (by omega), e2, e3, e4, e5, if_neg (by omega), if_neg (by omega)]
    unfold soft_Round.k4
    rw [eD, e1, e2, e3, e4, e5, e6, if_neg (by omega), if_pos rfl, k2]
theorem Round_nought {fu : Nat} {neg : Bool} {E : Int} : soft_Round fu 0 neg E 0 false = some ((sgN neg : Nat) : Int) := by
  obtain ⟨n, hn1, ⟨hb1, hb2⟩, hn64⟩ := Len64_spec (fu := fu) (x := 0) (by decide)
  have hn0 : n = 0 := by
    rcases hb2 with h | h
    · exact h
    · have : 1 ≤ (2 : Nat) ^ (n - 1) := Nat.one_le_two_pow
      omega
  subst hn0
  unfold soft_Round; try unfold jn
  rw [chk_pos rfl, show ((0 : Int)) = ((0 : Nat) : Int) from rfl, hn1, ob_some, if_pos (by decide), if_neg (by decide), sign_spec, ob_some]
theorem sgn_split {a : Nat} (ha : a < 4294967296) : sgN (decide (2147483648 ≤ a)) + a % 2147483648 = a := by
  unfold sgN
  by_cases h : 2147483648 ≤ a
  · rw [decide_eq_true h, if_pos rfl]; omega
  · rw [decide_eq_false h, if_neg (by decide)]; omega
theorem mul_fin {fu a b : Nat} (ha : a < 4294967296) (hb : b < 4294967296) (fa : a % 2147483648 < 2139095040) (fb : b % 2147483648 < 2139095040) :
    ∃ s e s2 e2 x y, Opn a x s e ∧ Opn b y s2 e2 ∧ soft_Mul fu (a : Int) (b : Int) = soft_Round fu 0 (!(decide (2147483648 ≤ a) == decide (2147483648 ≤ b))) ((e : Int) - 149 + ((e2 : Int) - 149)) ((s * s2 : Nat) : Int) false := by
  obtain ⟨x, s, e, hx, ox⟩ := open_fin (fu := fu) ha fa
  obtain ⟨y, s2, e2, hy, oy⟩ := open_fin (fu := fu) hb fb
  refine ⟨s, e, s2, e2, x, y, ox, oy, ?_⟩
  have h1 := ox.s24
  have h2 := oy.s24
  have h3 := ox.e253
  have h4 := oy.e253
  have hm : s * s2 ≤ 16777216 * 16777216 := Nat.mul_le_mul (by omega) (by omega)
  unfold soft_Mul soft_MulBy soft_MulBy.k1; try unfold jn
  rw [chk_pos rfl, hx, ob_some, hy, ob_some, ox.nan, oy.nan, ox.inf, oy.inf, if_neg (by decide), if_neg (by decide), if_neg (by decide), if_neg (by decide), ox.neg, oy.neg, ox.exp, oy.exp, ox.sig, oy.sig, wk_eq (by omega) (by omega), ← Int.natCast_mul, u64_eq (by omega) (by omega)]
  cases soft_Round fu 0 (!(decide (2147483648 ≤ a) == decide (2147483648 ≤ b))) ((e : Int) - 149 + ((e2 : Int) - 149)) ((s * s2 : Nat) : Int) false <;> rfl
theorem mul_nought {fu b : Nat} (hb : b < 4294967296) (fb : b % 2147483648 < 2139095040) : ∃ z : Nat, soft_Mul fu 0 (b : Int) = some (z : Int) ∧ z % 2147483648 = 0 ∧ z < 4294967296 := by
  obtain ⟨s, e, s2, e2, x, y, ox, oy, h⟩ := mul_fin (fu := fu) (a := 0) (b := b) (by decide) hb (by decide) fb
  have hv := ox.val
  have : s = 0 := by omega
  subst this
  rw [show ((0 : Nat) : Int) = 0 from rfl, show ((0 * s2 : Nat) : Int) = 0 by simp, Round_nought] at h
  refine ⟨_, h, ?_, ?_⟩ <;> (unfold sgN; split <;> decide)
theorem mul_one {fu b : Nat} (hb : b < 4294967296) (fb : b % 2147483648 < 2139095040) : soft_Mul fu 1065353216 (b : Int) = some (b : Int) := by
  obtain ⟨s, e, s2, e2, x, y, ox, oy, h⟩ := mul_fin (fu := fu) (a := 1065353216) (b := b) (by decide) hb (by decide) fb
  have hv := ox.val
  have h1 := ox.s24
  have h2 := ox.norm
  have he : e = 126 ∧ s = 8388608 := by omega
  obtain ⟨rfl, rfl⟩ := he
  have hneg : (!(decide (2147483648 ≤ 1065353216) == decide (2147483648 ≤ b))) = decide (2147483648 ≤ b) := by
    rw [decide_eq_false (p := 2147483648 ≤ 1065353216) (by decide)]
    cases decide (2147483648 ≤ b) <;> rfl
  rw [show ((1065353216 : Nat) : Int) = 1065353216 from rfl, hneg] at h
  have hv2 := oy.val
  have hs := sgn_split hb
  by_cases h0 : s2 = 0
  · subst h0
    have : e2 = 0 := by have := oy.norm; omega
    subst this
    rw [show ((8388608 * 0 : Nat) : Int) = 0 from rfl, Round_nought] at h
    rw [h]; congr 2; omega
  · rw [Round_exact (s := s2) (e := e2) (k := 23) (by omega) oy.s24 oy.norm oy.e253 (by decide) (by omega) (by omega) (by rw [show (2 : Nat) ^ 23 = 8388608 from rfl, Nat.mul_comm])] at h
    rw [h]; congr 2; omega
theorem nought_spec {fu : Nat} : soft_nought fu 0 = some 0 := by
  unfold soft_nought
  rw [chk_pos rfl, sign_spec, ob_some]; rfl
theorem beq_dec {p q : Prop} [Decidable p] [Decidable q] : (decide p == decide q) = true ↔ (p ↔ q) := by
  by_cases hp : p <;> by_cases hq : q <;> simp [hp, hq]
/-- a finite float that is no nought, and a nought -/
theorem add_k2 {fu a s e : Nat} {neg neg2 : Bool} (ha : a < 4294967296) (hneg : neg = decide (2147483648 ≤ a)) (h0 : 0 < s) (hs : s < 16777216) (he : e ≤ 253) (hn : e = 0 ∨ 8388608 ≤ s) (hv : a % 2147483648 = e * 8388608 + s) (hf : a % 2147483648 < 2139095040) :
    soft_AddBy.k2 fu neg ((e : Int) - 149) (s : Int) neg2 (-149) 0 = some (a : Int) := by
  have hsg := sgn_split ha
  have hr : ∀ {k : Nat} {E S : Int}, k ≤ 38 → E = (e : Int) - 149 - k → S = ((s * 2 ^ k : Nat) : Int) → soft_Round fu 0 neg E S false = some (a : Int) := fun hk hE hS => by
    rw [Round_exact h0 hs hn he hk (by omega) hE hS, hneg]; congr 2; omega
  have k3 : ∀ {k : Nat} {E S : Int}, k ≤ 38 → E = (e : Int) - 149 - k → S = ((s * 2 ^ k : Nat) : Int) → soft_AddBy.k3 fu neg neg2 E S 0 false = some (a : Int) := fun {k} {E} {S} hk hE hS => by
    have hp : 1 ≤ (2 : Nat) ^ k := Nat.one_le_two_pow
    have h38 : (2 : Nat) ^ k ≤ 2 ^ 38 := two_mono hk
    have hx : s * 2 ^ k < 16777216 * 2 ^ k := Nat.mul_lt_mul_of_pos_right hs (by omega)
    have hx1 : 2 ^ k ≤ s * 2 ^ k := Nat.le_mul_of_pos_left _ h0
    have h := hr hk hE hS
    unfold soft_AddBy.k3
    have e1 : wk .u64 (S + 0) = S := by rw [Int.add_zero, hS]; exact u64_eq (by omega) (by omega)
    have e2 : wk .u64 (S - 0) = S := by rw [Int.sub_zero, hS]; exact u64_eq (by omega) (by omega)
    rw [e1, e2, h]
    by_cases hc : (neg == neg2) = true
    · rw [if_pos hc, ob_some]
    · rw [if_neg hc, if_neg (by decide), if_neg (by omega), if_pos (by omega), ob_some]
  unfold soft_AddBy.k2; try unfold jn
  rw [show (e : Int) - 149 - (-149) = (e : Int) by omega, wk_eq (x := (e : Int)) (by omega) (by omega)]
  by_cases h38 : (e : Int) ≤ 38
  · rw [if_pos h38, chk_pos (by omega), shl_nat (by omega) (by
      have h38' : (2 : Nat) ^ e ≤ 2 ^ 38 := two_mono (by omega)
      have hx : s * 2 ^ e ≤ 16777216 * 2 ^ 38 := Nat.mul_le_mul (by omega) h38'
      omega)]
    exact k3 (by omega) (by omega) rfl
  · have e1 : wk .i64 ((e : Int) - 38) = ((e - 38 : Nat) : Int) := by rw [wk_eq (by omega) (by omega)]; omega
    have e2 : shrk .u64 0 ((e - 38 : Nat) : Int) = 0 := by
      have := shr_nat (a := 0) (k := e - 38) (by decide)
      simpa using this
    have e3 : shlk .u64 0 ((e - 38 : Nat) : Int) = 0 := by
      unfold shlk; rw [Int.zero_mul]; rfl
    rw [if_neg h38, e1, chk_pos (by omega), e2, e3, show (!(decide ((0 : Int) = 0))) = false from rfl, wk_eq (x := (e : Int) - 149 - 38) (by omega) (by omega), show ((38 : Int)) = ((38 : Nat) : Int) from rfl, shl_nat (by decide) (by rw [show (2 : Nat) ^ 38 = 274877906944 from rfl]; omega)]
    exact k3 (k := 38) (by decide) (by omega) rfl
theorem add_noughts {fu z : Nat} (hz : z % 2147483648 = 0) (h : z < 4294967296) : soft_Add fu 0 (z : Int) = some 0 := by
  obtain ⟨x, s, e, hx, ox⟩ := open_fin (fu := fu) (a := 0) (by decide) (by decide)
  obtain ⟨y, s2, e2, hy, oy⟩ := open_fin (fu := fu) (a := z) h (by omega)
  have h1 := ox.val
  have h2 := oy.val
  have hs : s = 0 := by omega
  have hs2 : s2 = 0 := by omega
  unfold soft_Add soft_AddBy; try unfold jn
  rw [show ((0 : Int)) = ((0 : Nat) : Int) from rfl, chk_pos rfl, hx, ob_some, hy, ob_some, ox.nan, oy.nan, ox.inf, oy.inf, if_neg (by decide), if_neg (by decide), if_neg (by decide), if_neg (by decide), ox.sig, oy.sig, hs, hs2, if_pos rfl, if_pos rfl, show soft_nought fu ((0 : Nat) : Int) = some 0 from nought_spec]
  split <;> rfl
theorem add_l {fu a : Nat} (ha : a < 4294967296) (fa : a % 2147483648 < 2139095040) (h0 : a % 2147483648 ≠ 0) : soft_Add fu 0 (a : Int) = some (a : Int) := by
  obtain ⟨x, s, e, hx, ox⟩ := open_fin (fu := fu) (a := 0) (by decide) (by decide)
  obtain ⟨y, s2, e2, hy, oy⟩ := open_fin (fu := fu) (a := a) ha fa
  have h1 := ox.val
  have h2 := oy.val
  have hn := oy.norm
  have hs : s = 0 := by omega
  have he : e = 0 := by omega
  have hs2 : 0 < s2 := by omega
  unfold soft_Add soft_AddBy; try unfold jn
  rw [show ((0 : Int)) = ((0 : Nat) : Int) from rfl, chk_pos rfl, hx, ob_some, hy, ob_some, ox.nan, oy.nan, ox.inf, oy.inf, if_neg (by decide), if_neg (by decide), if_neg (by decide), if_neg (by decide), ox.sig, oy.sig, hs, if_pos rfl, if_neg (by omega)]
  unfold soft_AddBy.k1; try unfold jn
  rw [ox.exp, oy.exp, ox.sig, oy.sig, ox.neg, oy.neg, hs, he]
  by_cases h : e2 = 0
  · subst h
    rw [if_neg (by omega)]
    unfold soft_AddBy.k2 soft_AddBy.k3; try unfold jn
    have e1 : wk .i64 (((0 : Nat) : Int) - 149 - (((0 : Nat) : Int) - 149)) = 0 := rfl
    have e2 : shlk .u64 ((0 : Nat) : Int) 0 = 0 := rfl
    have hs24 := oy.s24
    have hsg := sgn_split ha
    have hr := Round_exact (fu := fu) (s := s2) (e := 0) (k := 0) (neg := decide (2147483648 ≤ a)) hs2 oy.s24 (.inl rfl) (by decide) (by decide) (by omega) (E := ((0 : Nat) : Int) - 149) (S := (s2 : Int)) (by omega) (by simp)
    rw [e1, if_pos (by decide), chk_pos (by decide), e2, Int.zero_add, Int.sub_zero, u64_eq (x := (s2 : Int)) (by omega) (by omega), hr]
    by_cases hc : (decide (2147483648 ≤ 0) == decide (2147483648 ≤ a)) = true
    · have hd : decide (2147483648 ≤ 0) = decide (2147483648 ≤ a) := eq_of_beq hc
      rw [if_pos hc, hd, hr, ob_some, ob_some]
      congr 2; omega
    · rw [if_neg hc, if_neg (by decide), if_neg (by omega), if_neg (by omega), ob_some, ob_some]
      congr 2; omega
  · rw [if_pos (by omega), show (((0 : Nat) : Int) - 149) = -149 from rfl, show ((0 : Nat) : Int) = 0 from rfl, add_k2 ha rfl hs2 oy.s24 oy.e253 hn h2 fa, ob_some]
theorem add_r {fu a z : Nat} (ha : a < 4294967296) (fa : a % 2147483648 < 2139095040) (h0 : a % 2147483648 ≠ 0) (hz : z % 2147483648 = 0) (h : z < 4294967296) : soft_Add fu (a : Int) (z : Int) = some (a : Int) := by
  obtain ⟨x, s, e, hx, ox⟩ := open_fin (fu := fu) (a := z) h (by omega)
  obtain ⟨y, s2, e2, hy, oy⟩ := open_fin (fu := fu) (a := a) ha fa
  have h1 := ox.val
  have h2 := oy.val
  have hn := oy.norm
  have hs : s = 0 := by omega
  have he : e = 0 := by omega
  have hs2 : 0 < s2 := by omega
  unfold soft_Add soft_AddBy; try unfold jn
  rw [chk_pos rfl, hy, ob_some, hx, ob_some, oy.nan, ox.nan, oy.inf, ox.inf, if_neg (by decide), if_neg (by decide), if_neg (by decide), if_neg (by decide), oy.sig, if_neg (by omega)]
  unfold soft_AddBy.k1; try unfold jn
  rw [ox.exp, oy.exp, ox.sig, oy.sig, ox.neg, oy.neg, hs, he, if_neg (by omega), show (((0 : Nat) : Int) - 149) = -149 from rfl, show ((0 : Nat) : Int) = 0 from rfl, add_k2 ha rfl hs2 oy.s24 oy.e253 hn h2 fa, ob_some]
end Go.Av
set_option linter.unusedVariables false
namespace Go.Av
def oneS : T_Setting := T_Setting.mk 0 [] false false false false false [] false 0 0 0 false false false 0 0 false false 1 [] [] [] [] 0 false false 0 0 0 false (T_Tensor.mk 0 [] [] [] [])
theorem cloop_succ {σ β : Type} {body : (σ → Option β) → σ → Option β} {n : Nat} {s : σ} : cloop body (n + 1) s = body (cloop body n) s := rfl
def valOf (t : T_Tensor) : T_Val := if t.fType = 0 then ⟨0, [], false, ⟨0, [], [], [], []⟩⟩ else ⟨t.fType, t.fDims, true, t⟩
theorem CloneI_spec {fu : Nat} {l : List Int} (h : l.length * 8 ≤ 140737488351232) : slices_Clone_int fu l = some l := by
  unfold slices_Clone_int; rw [chk_pos (by omega)]
theorem Vals_step {fu : Nat} {x y t : T_Tensor} {nx : List T_Val → Int → Option (List T_Val)} {l : List T_Val} {i : Int} (hi : at? [x, y] i = some t) (h2 : i < 2) (ht : Ten t) (hl : l.length ≤ 100) :
    ewise_Vals.L1 fu [x, y] nx l i = nx (l ++ [valOf t]) (wk .i64 (i + 1)) := by
  unfold ewise_Vals.L1 valOf
  rw [if_pos (show i < (([x, y] : List T_Tensor).length : Int) from h2), hi, ob_some]
  by_cases h : t.fType = 0
  · rw [if_pos h, chk_pos (by omega), if_pos h]
  · rw [if_neg h, if_neg h, CloneI_spec ht.1, ob_some, Copy_spec ht, ob_some, chk_pos (by omega)]
theorem Vals_spec {n : Nat} {x y : T_Tensor} (hx : Ten x) (hy : Ten y) : ewise_Vals (n + 3) [x, y] = some [valOf x, valOf y] := by
  unfold ewise_Vals ewise_Vals.W1
  rw [cloop_succ]
  show ewise_Vals.L1 (n + 3) [x, y] _ [] 0 = _
  rw [Vals_step (t := x) rfl (by decide) hx (by simp), cloop_succ]
  show ewise_Vals.L1 (n + 3) [x, y] _ [valOf x] 1 = _
  rw [Vals_step (t := y) rfl (by decide) hy (by simp), cloop_succ]
  rfl
section
variable {fu : Nat} {s : T_Setting} {a b : T_Val}
theorem val_0 : infer_ask_val fu ⟨75, s, [a, b], 1⟩ 0 = some a := rfl
theorem val_1 : infer_ask_val fu ⟨75, s, [a, b], 1⟩ 1 = some b := rfl
theorem has_0 : infer_ask_has fu ⟨75, s, [a, b], 1⟩ 0 = some (!(decide (a.fType = 0))) := rfl
theorem has_1 : infer_ask_has fu ⟨75, s, [a, b], 1⟩ 1 = some (!(decide (b.fType = 0))) := rfl
theorem dims_0 : infer_ask_dims fu ⟨75, s, [a, b], 1⟩ 0 = some a.fDims := rfl
theorem dims_1 : infer_ask_dims fu ⟨75, s, [a, b], 1⟩ 1 = some b.fDims := rfl
theorem complete_spec : infer_ask_complete (fu + 3) ⟨75, s, [a, b], 1⟩ = some (!(decide (a.fType = 0)) && !(decide (b.fType = 0))) := by
  have h : infer_ask_complete (fu + 3) ⟨75, s, [a, b], 1⟩ = infer_ask_complete.W1 (fu + 3) ⟨75, s, [a, b], 1⟩ (2, 3, 1, 1) 0 := rfl
  rw [h]
  unfold infer_ask_complete.W1
  rw [cloop_succ]
  rw [infer_ask_complete.L1, if_pos (by decide), has_0, ob_some]
  by_cases h0 : a.fType = 0
  · simp [h0]
  · rw [if_pos (by simp [h0]), cloop_succ, show wk .i64 (0 + 1) = 1 from rfl]
    rw [infer_ask_complete.L1, if_pos (by decide), has_1, ob_some]
    by_cases h1 : b.fType = 0
    · simp [h1]
    · rw [if_pos (by simp [h1]), cloop_succ]
      simp [h0, h1]
      rfl
theorem fits_0 : infer_ask_fits fu ⟨75, s, [a, b], 1⟩ 0 102 = some (decide (a.fType = 1)) := rfl
theorem fits_1 : infer_ask_fits fu ⟨75, s, [a, b], 1⟩ 1 102 = some (decide (b.fType = 1)) := rfl
theorem width_one {k : Int} : tens_Width fu k = some (if k = 1 then 4 else if k = 7 then 8 else if k = 9 then 1 else 0) := by
  unfold tens_Width; repeat' split
  all_goals rfl
theorem sort_0 : sat? (⟨#[102]⟩ : ByteArray) (imin 0 (wk .i64 (((⟨#[102]⟩ : ByteArray).size : Int) - 1))) = some 102 := rfl
theorem sort_1 : sat? (⟨#[102]⟩ : ByteArray) (imin 1 (wk .i64 (((⟨#[102]⟩ : ByteArray).size : Int) - 1))) = some 102 := rfl
theorem typed_spec (h0 : a.fType ≠ 0) (h1 : b.fType ≠ 0) : infer_ask_typed (fu + 3) ⟨75, s, [a, b], 1⟩ = some (decide (a.fType = 1) && decide (b.fType = 1)) := by
  have h : infer_ask_typed (fu + 3) ⟨75, s, [a, b], 1⟩ = infer_ask_typed.W1 (fu + 3) ⟨75, s, [a, b], 1⟩ ⟨#[102]⟩ 0 := rfl
  rw [h]
  unfold infer_ask_typed.W1
  rw [cloop_succ]
  rw [infer_ask_typed.L1, if_pos (show (0 : Int) < (([a, b] : List T_Val).length : Int) by simp), has_0, ob_some, if_pos (by simp [h0]), val_0, ob_some, width_one, ob_some]
  by_cases e0 : a.fType = 1
  · rw [if_pos e0, if_neg (by decide)]
    rw [sort_0, ob_some, fits_0, ob_some, if_pos (by simp [e0]), cloop_succ, show wk .i64 (0 + 1) = 1 from rfl]
    rw [infer_ask_typed.L1, if_pos (show (1 : Int) < (([a, b] : List T_Val).length : Int) by simp), has_1, ob_some, if_pos (by simp [h1]), val_1, ob_some, width_one, ob_some]
    by_cases e1 : b.fType = 1
    · rw [if_pos e1, if_neg (by decide)]
      rw [sort_1, ob_some, fits_1, ob_some, if_pos (by simp [e1]), cloop_succ]
      simp [e0, e1]
      rfl
    · by_cases hz : (if b.fType = 1 then (4 : Int) else if b.fType = 7 then 8 else if b.fType = 9 then 1 else 0) = 0
      · rw [if_pos hz]; simp [e1]
      · rw [if_neg hz]
        rw [sort_1, ob_some, fits_1, ob_some, if_neg (by simp [e1])]; simp [e1]
  · by_cases hz : (if a.fType = 1 then (4 : Int) else if a.fType = 7 then 8 else if a.fType = 9 then 1 else 0) = 0
    · rw [if_pos hz]; simp [e0]
    · rw [if_neg hz]
      rw [sort_0, ob_some, fits_0, ob_some, if_neg (by simp [e0])]; simp [e0]
theorem has_2 : infer_ask_has fu ⟨75, s, [a, b], 1⟩ 2 = some false := rfl
theorem attr_spec : infer_ask_attributes fu ⟨75, oneS, [a, b], 1⟩ = some true := rfl
theorem told_spec : infer_ask_told (fu + 3) ⟨75, oneS, [a, b], 1⟩ = some 0 := rfl
theorem wrong_spec (h0 : a.fType ≠ 0) (h1 : b.fType ≠ 0) (g0 : Good a.fDims) (g1 : Good b.fDims) (hf : 20 ≤ fu) :
    infer_ask_wrong (fu + 3) ⟨75, oneS, [a, b], 1⟩ = some (if a.fType = 1 ∧ b.fType = 1 then 0 else 5) := by
  have h : infer_ask_wrong (fu + 3) ⟨75, oneS, [a, b], 1⟩ = infer_ask_wrong.W1 (fu + 3) ⟨75, oneS, [a, b], 1⟩ 0 := rfl
  rw [h]
  unfold infer_ask_wrong.W1
  have l0 := g0.1
  have l1 := g1.1
  rw [cloop_succ]
  show (shape_Size (fu + 3) a.fDims).bind _ = _
  rw [Size_spec (by unfold Short; omega) (by omega), ob_some, sizeV, if_pos g0]
  show (infer_ask_has (fu + 3) ⟨75, oneS, [a, b], 1⟩ 0).bind _ = _
  rw [has_0, ob_some, if_pos (by simp [h0]), if_pos rfl, cloop_succ]
  show (shape_Size (fu + 3) b.fDims).bind _ = _
  rw [Size_spec (by unfold Short; omega) (by omega), ob_some, sizeV, if_pos g1]
  show (infer_ask_has (fu + 3) ⟨75, oneS, [a, b], 1⟩ 1).bind _ = _
  rw [has_1, ob_some, if_pos (by simp [h1]), if_pos rfl, cloop_succ]
  show (infer_ask_typed (fu + 3) ⟨75, oneS, [a, b], 1⟩).bind _ = _
  rw [typed_spec h0 h1, ob_some]
  by_cases e0 : a.fType = 1 <;> by_cases e1 : b.fType = 1
  · simp only [e0, e1, decide_true, Bool.and_self, if_true]
    show (infer_ask_attributes (fu + 3) ⟨75, oneS, [a, b], 1⟩).bind _ = _
    rw [attr_spec, ob_some, if_pos rfl]
    show (infer_ask_told (fu + 3) ⟨75, oneS, [a, b], 1⟩).bind _ = _
    rw [told_spec]; rfl
  · simp [e0, e1]
  · simp [e0, e1]
  · simp [e0, e1]
end

theorem ranged_spec {fu : Nat} {lo : Int} {l : List Int} (hl : l.length ≤ 10) (hf : 20 < fu) (h : ∀ x ∈ l, lo ≤ x ∧ x ≤ 4096) : infer_ranged fu lo l = some true := by
  unfold infer_ranged
  rw [ContainsFunc_spec (q := fun x => decide (x < lo ∨ 4096 < x)) (fun x => by
    unfold infer_ranged_1
    by_cases hx : x < lo
    · rw [if_pos hx]; simp [hx]
    · rw [if_neg hx]; simp [hx]) (by unfold Short; omega) (by omega), ob_some]
  have : (l.any fun x => decide (x < lo ∨ 4096 < x)) = false := by
    rw [List.any_eq_false]
    intro x hx
    have := h x hx
    simp; omega
  rw [this]; rfl
theorem Window_spec {fu : Nat} {sz : Int} (h0 : 0 ≤ sz) (h1 : sz ≤ 4096) (hf : 20 < fu) : infer_Window fu sz 1 1 1 0 0 0 false = some (if 1 ≤ sz then (sz, 0, 0) else (0, 0, 3)) := by
  unfold infer_Window; try unfold jn
  rw [ranged_spec (by simp) hf (fun x hx => by simp at hx; omega), ob_some, if_pos rfl, ranged_spec (by simp) hf (fun x hx => by simp at hx; omega), ob_some, if_pos rfl]
  unfold infer_Window.k1; try unfold jn
  rw [if_neg (by decide), if_neg (by decide), if_neg (by decide)]
  unfold infer_Window.k2
  have e1 : wk .i64 (wk .i64 (wk .i64 (sz + 0) + 0) - wk .i64 (wk .i64 (wk .i64 (1 - 1) * 1) + 1)) = sz - 1 := by
    rw [show wk .i64 (wk .i64 (wk .i64 (1 - 1) * 1) + 1) = 1 from rfl, show sz + 0 = sz by omega, wk_eq (x := sz) (by omega) (by omega), show sz + 0 = sz by omega, wk_eq (x := sz) (by omega) (by omega), wk_eq (by omega) (by omega)]
  rw [e1]
  by_cases h : 1 ≤ sz
  · rw [if_pos h, if_neg (by omega), chk_pos (by decide), if_neg (by decide), Int.tdiv_one, wk_eq (x := sz - 1) (by omega) (by omega), show sz - 1 + 1 = sz by omega, wk_eq (x := sz) (by omega) (by omega)]
  · rw [if_neg h, if_pos (by omega)]
section
variable {fu : Nat} {a b : T_Val}
theorem win_step {nx : List Int → Int → Option (List Int × Bool)} {d : List Int} {l : List Int} {i : Nat} {sz : Int} (hd : a.fDims = d) (hi : i < 2) (hsz : d[2 + i]? = some sz) (h0 : 0 ≤ sz) (h1 : sz ≤ 4096) (hl : l.length ≤ 100) (hf : 20 < fu) :
    infer_ask_windows.L1 fu ⟨75, oneS, [a, b], 1⟩ [1, 1] nx l (i : Int) = if 1 ≤ sz then nx (l ++ [sz]) ((i + 1 : Nat) : Int) else some ([], false) := by
  unfold infer_ask_windows.L1
  have e1 : wk .i64 (2 + (i : Int)) = ((2 + i : Nat) : Int) := by rw [wk_eq (by omega) (by omega)]; omega
  have e2 : at? ([1, 1] : List Int) (i : Int) = some 1 := by
    rw [at?_nat]
    match i, hi with
    | 0, _ => rfl
    | 1, _ => rfl
  rw [if_pos (by omega), dims_0, ob_some, e1, at?_nat, hd, hsz, ob_some, e2, ob_some]
  show ((some (1 : Int)).bind fun x24 => _) = _
  rw [ob_some]
  show ((some (1 : Int)).bind fun x24 => _) = _
  rw [ob_some]
  show ((some (0 : Int)).bind fun x24 => _) = _
  rw [ob_some]
  show ((some (0 : Int)).bind fun x24 => _) = _
  rw [ob_some]
  show (infer_Window fu sz 1 1 1 0 0 0 false).bind _ = _
  rw [Window_spec h0 h1 hf, ob_some]
  by_cases h : 1 ≤ sz
  · rw [if_pos h, if_pos h]
    show (if (0 : Int) = 0 then _ else _) = _
    rw [if_pos rfl, chk_pos (by omega), wk_succ (by omega)]
  · rw [if_neg h, if_neg h]
    show (if (3 : Int) = 0 then _ else _) = _
    rw [if_neg (by decide)]
theorem windows_spec {x0 x1 x2 x3 : Int} (hd : a.fDims = [x0, x1, x2, x3]) (g : Good a.fDims) (hf : 20 < fu) :
    infer_ask_windows (fu + 3) ⟨75, oneS, [a, b], 1⟩ [1, 1] = some (if 1 ≤ x2 ∧ 1 ≤ x3 then ([x2, x3], true) else ([], false)) := by
  rw [hd] at g
  have h2 := g.2.1 x2 (by simp)
  have h3 := g.2.1 x3 (by simp)
  unfold infer_ask_windows
  rw [chk_pos rfl]
  unfold infer_ask_windows.W1
  rw [cloop_succ]
  show infer_ask_windows.L1 (fu + 3) ⟨75, oneS, [a, b], 1⟩ [1, 1] _ [] ((0 : Nat) : Int) = _
  rw [win_step (sz := x2) hd (by decide) rfl h2.1 h2.2 (by simp) (by omega)]
  by_cases e2 : 1 ≤ x2
  · rw [if_pos e2]
    show cloop _ (fu + 2) _ = _
    rw [cloop_succ]
    show infer_ask_windows.L1 (fu + 3) ⟨75, oneS, [a, b], 1⟩ [1, 1] _ [x2] ((1 : Nat) : Int) = _
    rw [win_step (sz := x3) hd (by decide) rfl h3.1 h3.2 (by simp) (by omega)]
    by_cases e3 : 1 ≤ x3
    · rw [if_pos e3, if_pos ⟨e2, e3⟩]
      show cloop _ (fu + 1) _ = _
      rw [cloop_succ]; rfl
    · rw [if_neg e3, if_neg (fun h => e3 h.2)]
  · rw [if_neg e2, if_neg (fun h => e2 h.1)]
theorem conv_spec {x0 x1 x2 x3 y1 : Int} (hd : a.fDims = [x0, x1, x2, x3]) (hb : b.fDims = [1, y1, 1, 1]) (g : Good a.fDims) (hf : 20 < fu) :
    infer_ask_conv (fu + 3) ⟨75, oneS, [a, b], 1⟩ = some (if (x1 ≠ 0 ∧ y1 = x1) ∧ 1 ≤ x2 ∧ 1 ≤ x3 then ([[x0, 1, x2, x3]], 0) else ([], 3)) := by
  have g1 := g
  rw [hd] at g1
  have h1 := g1.2.1 x1 (by simp)
  unfold infer_ask_conv; try unfold jn
  rw [chk_pos rfl, dims_0, ob_some, dims_1, ob_some, hd, hb, if_pos (by simp), if_pos (by simp)]
  show (some x1).bind _ = _
  rw [ob_some]
  by_cases e1 : x1 = 0
  · rw [if_pos e1, if_neg (fun h => h.1.1 e1)]; rfl
  · rw [if_neg e1]
    show (some (1 : Int)).bind _ = _
    rw [ob_some, if_neg (by decide)]
    refine (chk_pos (show (T_infer_ask.mk 75 oneS [a, b] 1).fs.fGroup ≠ 0 from fun h => absurd (show (1 : Int) = 0 from h) (by decide))).trans ?_
    show (if Int.tmod x1 1 = 0 then _ else _) = _
    rw [if_pos (by simp)]
    show (if Int.tmod 1 1 = 0 then _ else _) = _
    rw [if_pos (by decide)]
    show (some y1).bind _ = _
    rw [ob_some]
    show (if y1 = wk .i64 (Int.tdiv x1 1) then _ else _) = _
    rw [Int.tdiv_one, wk_eq (x := x1) (by omega) (by omega)]
    by_cases e2 : y1 = x1
    · rw [if_pos e2]
      unfold infer_ask_conv.k1; try unfold jn
      rw [has_2, ob_some, if_neg (by decide)]
      show (if (0 : Int) < 0 then _ else _) = _
      rw [if_neg (by decide)]
      unfold infer_ask_conv.k2
      rw [chk_pos (by simp), show subN [(1 : Int), y1, 1, 1] (2 : Int).toNat [(1 : Int), y1, 1, 1].length = [1, 1] from rfl, windows_spec hd g hf, ob_some]
      by_cases e3 : 1 ≤ x2 ∧ 1 ≤ x3
      · rw [if_pos e3, if_pos rfl, if_pos ⟨⟨e1, e2⟩, e3⟩]; rfl
      · rw [if_neg e3, if_neg (by decide), if_neg (fun h => e3 h.2)]; rfl
    · rw [if_neg e2, if_neg (fun h => e2 h.1.2)]; rfl
theorem conv_short {y1 : Int} (hd : a.fDims.length ≠ 4) : infer_ask_conv fu ⟨75, oneS, [a, b], 1⟩ = some ([], 3) := by
  unfold infer_ask_conv; try unfold jn
  rw [chk_pos rfl, dims_0, ob_some, dims_1, ob_some, if_neg (by omega)]; rfl
/-- what infer tells of an operation whose shapes are told -/
def nodeV (t : Int) (d : List (List Int) × Int) : List T_Val × Int := match d with
  | ([d], 0) => if Good d then ([⟨t, d, false, ⟨0, [], [], [], []⟩⟩], 0) else ([], 4)
  | (_, e) => ([], e)
theorem out_spec : infer_ask_out fu ⟨75, oneS, [a, b], 1⟩ = some a.fType := rfl
theorem Node_loop {d : List Int} (hd : d.length ≤ 100) (hf : 110 ≤ fu) : infer_Node.W1 (fu + 3) oneS [a, b] 1 ([d], 0) [] 0 = some (nodeV a.fType ([d], 0)) := by
  unfold infer_Node.W1 nodeV
  rw [cloop_succ]
  show (shape_Size (fu + 3) d).bind _ = _
  rw [Size_spec (by unfold Short; omega) (by omega), ob_some]
  by_cases hg : Good d
  · rw [sizeV, if_pos hg, if_pos rfl, out_spec, ob_some, CloneI_spec (by omega), ob_some, chk_pos (by decide)]
    show cloop _ (fu + 2) _ = _
    rw [cloop_succ]
    simp only [if_pos hg]
    rfl
  · rw [sizeV, if_neg hg, if_neg (errS_ne _)]
    simp only [if_neg hg]
theorem Node_none (h : a.fType = 0 ∨ b.fType = 0) : infer_Node (fu + 3) 75 oneS [a, b] 1 = some ([], 1) := by
  unfold infer_Node
  rw [chk_pos rfl, complete_spec, ob_some, if_neg (by rcases h with h | h <;> simp [h])]
theorem Node_type (h0 : a.fType ≠ 0) (h1 : b.fType ≠ 0) (g0 : Good a.fDims) (g1 : Good b.fDims) (hf : 110 ≤ fu) (h : ¬ (a.fType = 1 ∧ b.fType = 1)) : infer_Node (fu + 3) 75 oneS [a, b] 1 = some ([], 5) := by
  unfold infer_Node
  rw [chk_pos rfl, complete_spec, ob_some, if_pos (by simp [h0, h1]), wrong_spec h0 h1 g0 g1 (by omega), ob_some, if_neg h, if_neg (by decide)]
theorem Node_bad {e : Int} (he : e ≠ 0) (h0 : a.fType = 1) (h1 : b.fType = 1) (g0 : Good a.fDims) (g1 : Good b.fDims) (hf : 110 ≤ fu) (hs : infer_ask_conv (fu + 3) ⟨75, oneS, [a, b], 1⟩ = some ([], e)) : infer_Node (fu + 3) 75 oneS [a, b] 1 = some ([], e) := by
  unfold infer_Node
  rw [chk_pos rfl, complete_spec, ob_some, if_pos (by simp [h0, h1]), wrong_spec (by omega) (by omega) g0 g1 (by omega), ob_some, show (if a.fType = 1 ∧ b.fType = 1 then (0 : Int) else 5) = 0 from if_pos ⟨h0, h1⟩, if_pos rfl]
  have : infer_ask_shapes (fu + 3) ⟨75, oneS, [a, b], 1⟩ = some ([], e) := by
    show (infer_ask_conv (fu + 3) ⟨75, oneS, [a, b], 1⟩).bind _ = _
    rw [hs]; rfl
  rw [this, ob_some, if_neg he]
theorem Node_good {d : List Int} (h0 : a.fType = 1) (h1 : b.fType = 1) (g0 : Good a.fDims) (g1 : Good b.fDims) (hf : 110 ≤ fu) (hd : d.length ≤ 100) (hg : Good d) (hs : infer_ask_conv (fu + 3) ⟨75, oneS, [a, b], 1⟩ = some ([d], 0)) :
    infer_Node (fu + 3) 75 oneS [a, b] 1 = some ([⟨1, d, false, ⟨0, [], [], [], []⟩⟩], 0) := by
  unfold infer_Node
  rw [chk_pos rfl, complete_spec, ob_some, if_pos (by simp [h0, h1]), wrong_spec (by omega) (by omega) g0 g1 (by omega), ob_some, show (if a.fType = 1 ∧ b.fType = 1 then (0 : Int) else 5) = 0 from if_pos ⟨h0, h1⟩, if_pos rfl]
  have : infer_ask_shapes (fu + 3) ⟨75, oneS, [a, b], 1⟩ = some ([d], 0) := by
    show (infer_ask_conv (fu + 3) ⟨75, oneS, [a, b], 1⟩).bind _ = _
    rw [hs]; rfl
  rw [this, ob_some, if_pos rfl, Node_loop hd hf]
  unfold nodeV
  simp only [if_pos hg, h0]
end
end Go.Av
set_option linter.unusedVariables false
namespace Go.Av
theorem two_lt {a b n m : Nat} (ha : a < n) (hb : b < m) : a * m + b < n * m := by
  have : (a + 1) * m ≤ n * m := Nat.mul_le_mul_right _ ha
  rw [Nat.add_mul] at this; omega
theorem wkn_mul {a b : Nat} (h : a * b ≤ 1000000000000) : wk .i64 ((a : Int) * (b : Int)) = ((a * b : Nat) : Int) := by
  rw [wk_eq (by rw [← Int.natCast_mul]; omega) (by rw [← Int.natCast_mul]; omega)]; exact (Int.natCast_mul _ _).symm
theorem wkn_add {a b : Nat} (h : a + b ≤ 1000000000000) : wk .i64 ((a : Int) + (b : Int)) = ((a + b : Nat) : Int) := by
  rw [wk_eq (by omega) (by omega)]; omega
theorem at_D {l : List Int} {i : Nat} (h : i < l.length) : at? l (i : Int) = some (l.getD i 0) := by
  rw [at?_get h, List.getD_eq_getElem?_getD, List.getElem?_eq_getElem h]; rfl
/-- a dim over which windows of single cells go -/
def axS (H : Nat) : T_conv_axis := ⟨(H : Int), 1, 1, 1, 0, (H : Int)⟩
theorem axis_at {fu H i : Nat} (hi : i < H) (hH : H ≤ 4096) : conv_axis_at fu (axS H) (i : Int) 0 = some ((i : Int), true) := by
  unfold conv_axis_at axS
  have e : wk .i64 (wk .i64 (wk .i64 ((i : Int) * 1) + wk .i64 (0 * 1)) - 0) = (i : Int) := by
    rw [show wk .i64 (0 * 1) = 0 from rfl, show (i : Int) * 1 = (i : Int) by omega, wk_eq (x := (i : Int)) (by omega) (by omega), show (i : Int) + 0 = (i : Int) by omega, wk_eq (x := (i : Int)) (by omega) (by omega), show (i : Int) - 0 = (i : Int) by omega, wk_eq (x := (i : Int)) (by omega) (by omega)]
  simp only [e]
  rw [if_pos (by omega), decide_eq_true (by omega)]
theorem axisOf_spec {fu H : Nat} {a : Int} (ha : a = 0 ∨ a = 1) (h0 : 1 ≤ H) (h1 : H ≤ 4096) (hf : 20 < fu) : conv_axisOf fu oneS a (H : Int) 1 = some (axS H, 0) := by
  have hw : infer_Window fu (H : Int) 1 1 1 0 0 0 false = some ((H : Int), 0, 0) := by rw [Window_spec (by omega) (by omega) hf, if_pos (by omega)]
  have : conv_axisOf fu oneS a (H : Int) 1 = (infer_Window fu (H : Int) 1 1 1 0 0 0 false).bind fun x9 => some (T_conv_axis.mk (H : Int) 1 1 1 x9.2.1 x9.1, x9.2.2) := by
    rcases ha with rfl | rfl <;> rfl
  rw [this, hw]; rfl
def wkS (X Y : T_Tensor) (d : List Int) (H W : Nat) : T_conv_work := ⟨oneS, [X, Y], d, axS H, axS W⟩
def ixS (n H W i0 i2 i3 g : Nat) : Nat := ((i0 * n + g) * H + i2) * W + i3
/-- the sum: the channels in order -/
def sumS (F G : List Int) (n H W i0 i2 i3 m : Nat) : Int := (List.range m).foldl (fun s g => addV s (mulV (F.getD (ixS n H W i0 i2 i3 g) 0) (G.getD g 0))) 0
section
variable {fu n H W x0 i0 i2 i3 : Nat} {X Y : T_Tensor} {d : List Int}
theorem ix_lt {g : Nat} (h0 : i0 < x0) (h2 : i2 < H) (h3 : i3 < W) (hg : g < n) : ixS n H W i0 i2 i3 g < x0 * n * H * W := two_lt (two_lt (two_lt h0 hg) h2) h3
theorem le_mul_one {a b : Nat} (h : 1 ≤ b) : a ≤ a * b := Nat.le_mul_of_pos_right _ h
theorem cloop_two {σ β : Type} {f : (σ → Option β) → σ → Option β} {m : Nat} {s0 s1 : σ} {r : Option β} (h0 : ∀ next, f next s0 = next s1) (h1 : ∀ next, f next s1 = r) : cloop f (m + 3) s0 = r := by
  rw [cloop_succ, h0, cloop_succ, h1]
theorem W3_one {nx2 : Int → Int → Option Int} {s : Int} {g : Nat} (h0 : i0 < x0) (h2 : i2 < H) (h3 : i3 < W) (hg : g < n) (hF : X.fF.length = x0 * n * H * W) (hF2 : X.fF.length ≤ 4096) (hG : Y.fF.length = n) (hn : n ≤ 4096) (hH : H ≤ 4096) (hW : W ≤ 4096) :
    conv_work_sum.W3 (fu + 3) nx2 (wkS X Y d H W) (i0 : Int) 0 (i3 : Int) X Y (n : Int) (n : Int) 1 (g : Int) 0 ((i2 : Int), true) s 0 = nx2 (addV s (mulV (X.fF.getD (ixS n H W i0 i2 i3 g) 0) (Y.fF.getD g 0))) 1 := by
  have hlt := ix_lt h0 h2 h3 hg
  have hix : ixS n H W i0 i2 i3 g ≤ 4096 := by omega
  have b1 : (i0 * n + g) * H + i2 ≤ 4096 := by
    have := le_mul_one (a := (i0 * n + g) * H + i2) (b := W) (by omega)
    unfold ixS at hix; omega
  have b2 : i0 * n + g ≤ 4096 := by
    have := le_mul_one (a := i0 * n + g) (b := H) (by omega)
    omega
  have b3 : ((i0 * n + g) * H + i2) * W ≤ 4096 := by unfold ixS at hix; omega
  have e0 : wk .i64 (wk .i64 (Int.tdiv 0 (wk .i64 (Int.tdiv 1 (wkS X Y d H W).fs.fGroup))) * (n : Int)) = 0 := by
    show wk .i64 (wk .i64 (Int.tdiv 0 (wk .i64 (Int.tdiv 1 1))) * (n : Int)) = 0
    rw [show wk .i64 (Int.tdiv 0 (wk .i64 (Int.tdiv 1 1))) = 0 from rfl, Int.zero_mul]; rfl
  have e1 : wk .i64 (wk .i64 (wk .i64 (wk .i64 (wk .i64 (wk .i64 (wk .i64 ((i0 : Int) * (n : Int)) + 0) + (g : Int)) * (wkS X Y d H W).fh.fsize) + ((i2 : Int), true).1) * (axS W).fsize) + ((i3 : Int), true).1) = ((ixS n H W i0 i2 i3 g : Nat) : Int) := by
    show wk .i64 (wk .i64 (wk .i64 (wk .i64 (wk .i64 (wk .i64 (wk .i64 ((i0 : Int) * (n : Int)) + 0) + (g : Int)) * (H : Int)) + (i2 : Int)) * (W : Int)) + (i3 : Int)) = _
    rw [wkn_mul (a := i0) (b := n) (by omega), show ((i0 * n : Nat) : Int) + 0 = ((i0 * n : Nat) : Int) by omega, wk_eq (x := ((i0 * n : Nat) : Int)) (by omega) (by omega), wkn_add (by omega), wkn_mul (by omega), wkn_add (by omega), wkn_mul (by omega), wkn_add (by unfold ixS at hix; omega)]
    rfl
  have e2 : wk .i64 (wk .i64 (wk .i64 (wk .i64 (wk .i64 (wk .i64 (0 * (n : Int)) + (g : Int)) * (wkS X Y d H W).fh.fkernel) + 0) * (axS W).fkernel) + 0) = (g : Int) := by
    show wk .i64 (wk .i64 (wk .i64 (wk .i64 (wk .i64 (wk .i64 (0 * (n : Int)) + (g : Int)) * 1) + 0) * 1) + 0) = _
    have hw : wk .i64 (g : Int) = (g : Int) := wk_eq (by omega) (by omega)
    simp only [Int.zero_mul, show wk .i64 0 = 0 from rfl, Int.zero_add, Int.mul_one, Int.add_zero, hw]
  unfold conv_work_sum.W3
  refine cloop_two (s1 := (addV s (mulV (X.fF.getD (ixS n H W i0 i2 i3 g) 0) (Y.fF.getD g 0)), 1)) (fun next => ?_) (fun next => ?_)
  · show conv_work_sum.L3 (fu + 3) nx2 (wkS X Y d H W) (i0 : Int) 0 (i3 : Int) X Y (n : Int) (n : Int) 1 (g : Int) 0 ((i2 : Int), true) (fun x169 x170 => next (x169, x170)) s 0 = _
    unfold conv_work_sum.L3
    rw [if_pos (show (0 : Int) < (wkS X Y d H W).fw.fkernel from by show (0 : Int) < 1; decide), show (wkS X Y d H W).fw = axS W from rfl, axis_at h3 hW, ob_some, if_pos rfl, e0, e1, e2, at_D (by omega), ob_some, at_D (by omega), ob_some, Mul_spec, ob_some, Add_spec, ob_some, show wk .i64 (0 + 1) = 1 from rfl]
  · show conv_work_sum.L3 (fu + 3) nx2 (wkS X Y d H W) (i0 : Int) 0 (i3 : Int) X Y (n : Int) (n : Int) 1 (g : Int) 0 ((i2 : Int), true) (fun x169 x170 => next (x169, x170)) (addV s (mulV (X.fF.getD (ixS n H W i0 i2 i3 g) 0) (Y.fF.getD g 0))) 1 = _
    unfold conv_work_sum.L3
    rw [if_neg (show ¬ (1 : Int) < (wkS X Y d H W).fw.fkernel from by show ¬ (1 : Int) < 1; decide), show wk .i64 (0 + 1) = 1 from rfl]
theorem L1_sum {nx : Int → Int → Option Int} {s : Int} {g : Nat} (h0 : i0 < x0) (h2 : i2 < H) (h3 : i3 < W) (hg : g < n) (hF : X.fF.length = x0 * n * H * W) (hF2 : X.fF.length ≤ 4096) (hG : Y.fF.length = n) (hn : n ≤ 4096) (hH : H ≤ 4096) (hW : W ≤ 4096) :
    conv_work_sum.L1 (fu + 3) (wkS X Y d H W) (i0 : Int) 0 (i2 : Int) (i3 : Int) X Y (n : Int) (n : Int) 1 nx s (g : Int) = nx (addV s (mulV (X.fF.getD (ixS n H W i0 i2 i3 g) 0) (Y.fF.getD g 0))) ((g + 1 : Nat) : Int) := by
  unfold conv_work_sum.L1
  rw [if_pos (by omega)]
  unfold conv_work_sum.W2
  refine cloop_two (s1 := (addV s (mulV (X.fF.getD (ixS n H W i0 i2 i3 g) 0) (Y.fF.getD g 0)), 1)) (fun next => ?_) (fun next => ?_)
  · show conv_work_sum.L2 (fu + 3) nx (wkS X Y d H W) (i0 : Int) 0 (i2 : Int) (i3 : Int) X Y (n : Int) (n : Int) 1 (g : Int) (fun x143 x144 => next (x143, x144)) s 0 = _
    unfold conv_work_sum.L2
    rw [if_pos (show (0 : Int) < (wkS X Y d H W).fh.fkernel from by show (0 : Int) < 1; decide), show (wkS X Y d H W).fh = axS H from rfl, axis_at h2 hH, ob_some, if_pos rfl, W3_one h0 h2 h3 hg hF hF2 hG hn hH hW]
  · show conv_work_sum.L2 (fu + 3) nx (wkS X Y d H W) (i0 : Int) 0 (i2 : Int) (i3 : Int) X Y (n : Int) (n : Int) 1 (g : Int) (fun x143 x144 => next (x143, x144)) (addV s (mulV (X.fF.getD (ixS n H W i0 i2 i3 g) 0) (Y.fF.getD g 0))) 1 = _
    unfold conv_work_sum.L2
    rw [if_neg (show ¬ (1 : Int) < (wkS X Y d H W).fh.fkernel from by show ¬ (1 : Int) < 1; decide), wk_eq (by omega) (by omega)]
    congr 1
theorem sum_spec (h0 : i0 < x0) (h2 : i2 < H) (h3 : i3 < W) (hdX : ∃ a b c, X.fDims = [a, (n : Int), b, c]) (hdY : Y.fDims = [1, (n : Int), 1, 1]) (hF : X.fF.length = x0 * n * H * W) (hF2 : X.fF.length ≤ 4096) (hG : Y.fF.length = n) (hn : n ≤ 4096) (hH : H ≤ 4096) (hW : W ≤ 4096) (hf : 5000 < fu) :
    conv_work_sum (fu + 3) (wkS X Y d H W) (i0 : Int) 0 (i2 : Int) (i3 : Int) = some (sumS X.fF Y.fF n H W i0 i2 i3 n) := by
  obtain ⟨xa, xb, xc, hdX⟩ := hdX
  unfold conv_work_sum
  show (some X).bind _ = _
  rw [ob_some]
  show (some Y).bind _ = _
  rw [ob_some, hdX, hdY]
  show (some (n : Int)).bind _ = _
  rw [ob_some]
  show (some (n : Int)).bind _ = _
  rw [ob_some]
  show (some (1 : Int)).bind _ = _
  rw [ob_some]
  refine (chk_pos (show (wkS X Y d H W).fs.fGroup ≠ 0 from fun h => absurd (show (1 : Int) = 0 from h) (by decide))).trans ?_
  refine (chk_pos (show wk .i64 (Int.tdiv 1 (wkS X Y d H W).fs.fGroup) ≠ 0 from fun h => absurd (show (1 : Int) = 0 from h) (by decide))).trans ?_
  unfold conv_work_sum.W1
  have key : ∀ m q g : Nat, n - g = m → g ≤ n → m < q → cloop (fun next s => conv_work_sum.L1 (fu + 3) (wkS X Y d H W) (i0 : Int) 0 (i2 : Int) (i3 : Int) X Y (n : Int) (n : Int) 1 (fun x67 x68 => next (x67, x68)) s.1 s.2) q (sumS X.fF Y.fF n H W i0 i2 i3 g, (g : Int)) = some (sumS X.fF Y.fF n H W i0 i2 i3 n) := by
    intro m
    induction m with
    | zero =>
      intro q g h1 h2' h3'
      cases q with
      | zero => omega
      | succ q =>
        have : g = n := by omega
        subst this
        rw [cloop_succ]
        unfold conv_work_sum.L1
        rw [if_neg (by simp only; omega)]
    | succ m ih =>
      intro q g h1 h2' h3'
      cases q with
      | zero => omega
      | succ q =>
        rw [cloop_succ]
        show conv_work_sum.L1 (fu + 3) (wkS X Y d H W) (i0 : Int) 0 (i2 : Int) (i3 : Int) X Y (n : Int) (n : Int) 1 _ (sumS X.fF Y.fF n H W i0 i2 i3 g) (g : Int) = _
        rw [L1_sum h0 h2 h3 (by omega) hF hF2 hG hn hH hW]
        have : addV (sumS X.fF Y.fF n H W i0 i2 i3 g) (mulV (X.fF.getD (ixS n H W i0 i2 i3 g) 0) (Y.fF.getD g 0)) = sumS X.fF Y.fF n H W i0 i2 i3 (g + 1) := by
          unfold sumS
          rw [List.range_succ, List.foldl_append]; rfl
        rw [this]
        exact ih q (g + 1) (by omega) (by omega) (by omega)
  exact key n (fu + 3) 0 (by omega) (by omega) (by omega)
end
end Go.Av
set_option linter.unusedVariables false
namespace Go.Av
def big (t : T_Tensor) : Nat := t.fDims.length + t.fF.length + t.fI.length + t.fB.length
section
variable {fu : Nat} {x y : T_Tensor}
theorem Do_step {s : T_Setting} {t : T_Tensor} {nx : List T_Tensor → Int → Option (T_Tensor × Int)} {l : List T_Tensor} {i : Int} (hi : at? [x, y] i = some t) (h2 : i < 2) (ht : Ten t) (hl : l.length ≤ 100) (hf : big t < fu) :
    conv_Do.L2 fu s [x, y] nx l i = if t.fType = 0 ∨ checkV t = 0 then nx (l ++ [canonT t]) (wk .i64 (i + 1)) else some (noT, checkV t) := by
  unfold big at hf
  have hF : Fuel fu t := ⟨by omega, by omega, by omega, by omega⟩
  unfold conv_Do.L2
  rw [if_pos (show i < (([x, y] : List T_Tensor).length : Int) from h2), hi, ob_some]
  by_cases h : t.fType = 0
  · rw [if_pos h, Canon_spec ht hF.2.1, ob_some, chk_pos (by omega), if_pos (.inl h)]
  · rw [if_neg h, Check_spec ht.small hF, ob_some]
    by_cases hc : checkV t = 0
    · rw [if_pos hc, Canon_spec ht hF.2.1, ob_some, chk_pos (by omega), if_pos (.inr hc)]
    · rw [if_neg hc, if_neg (fun h2 => h2.elim h hc)]; rfl
theorem Do_spec {s : T_Setting} (hx : Ten x) (hy : Ten y) (hf : big x + big y < fu) : conv_Do (fu + 3) 75 s [x, y] =
    if x.fType = 0 ∨ checkV x = 0 then (if y.fType = 0 ∨ checkV y = 0 then conv_Do.k1 (fu + 3) s [x, y] [canonT x, canonT y] else some (noT, checkV y)) else some (noT, checkV x) := by
  have h : conv_Do (fu + 3) 75 s [x, y] = conv_Do.W2 (fu + 3) s [x, y] [] 0 := rfl
  rw [h]
  unfold conv_Do.W2
  rw [cloop_succ]
  show conv_Do.L2 (fu + 3) s [x, y] _ [] 0 = _
  rw [Do_step (t := x) rfl (by decide) hx (by simp) (by omega)]
  by_cases h1 : x.fType = 0 ∨ checkV x = 0
  · rw [if_pos h1, if_pos h1]
    show cloop _ (fu + 2) _ = _
    rw [cloop_succ]
    show conv_Do.L2 (fu + 3) s [x, y] _ [canonT x] 1 = _
    rw [Do_step (t := y) rfl (by decide) hy (by simp) (by omega)]
    by_cases h2 : y.fType = 0 ∨ checkV y = 0
    · rw [if_pos h2, if_pos h2]
      show cloop _ (fu + 1) _ = _
      rw [cloop_succ]
      rfl
    · rw [if_neg h2, if_neg h2]
  · rw [if_neg h1, if_neg h1]
theorem lens_F {x : T_Tensor} (ht : x.fType = 1) (hc : checkV x = 0) : Good x.fDims ∧ (x.fF.length : Int) = prod x.fDims ∧ x.fF.length ≤ 4096 ∧ x.fI = [] ∧ x.fB = [] := by
  obtain ⟨_, hg, h1, h2, h3⟩ := checkV_zero.1 hc
  rw [ht] at h1 h2 h3
  simp at h1 h2 h3
  have := hg.2.2
  exact ⟨hg, h1, by omega, h2, h3⟩
theorem New_spec {d : List Int} {N : Nat} (hg : Good d) (hN : prod d = (N : Int)) (hf : 20 < fu) : tens_New fu 1 d = some (⟨1, d, List.replicate N 0, [], []⟩, 0) := by
  have h1 := hg.1
  have h3 := hg.2.2
  unfold tens_New
  rw [known_spec, ob_some, if_pos (by simp), Size_spec (by unfold Short; omega) (by omega), ob_some, sizeV, if_pos hg, if_pos rfl, Clone_spec (by omega), ob_some, if_pos rfl, chk_pos (by rw [hN] at h3 ⊢; simp only; omega), hN, Int.toNat_natCast]
/-- an element of the answer -/
def elS (F G : List Int) (n H W k : Nat) : Int := sumS F G n H W (k / (H * W)) (k % (H * W) / W) (k % (H * W) % W) n
theorem ix4 {x0 H W k : Nat} (hW : 1 ≤ W) (hH : 1 ≤ H) (hk : k < x0 * (H * W)) :
    idxV [(x0 : Int), 1, (H : Int), (W : Int)] (k : Int) = [((k / (H * W) : Nat) : Int), 0, ((k % (H * W) / W : Nat) : Int), ((k % (H * W) % W : Nat) : Int)] := by
  have hHW : 0 < H * W := Nat.mul_pos hH hW
  have e1 : prod [1, (H : Int), (W : Int)] = ((H * W : Nat) : Int) := by simp [prod]
  have e2 : prod [(H : Int), (W : Int)] = ((H * W : Nat) : Int) := by simp [prod]
  have e3 : prod [(W : Int)] = (W : Int) := by simp [prod]
  simp only [idxV, e1, e2, e3]
  have h1 : ((k : Int) % ((H * W : Nat) : Int)) = ((k % (H * W) : Nat) : Int) := (Int.natCast_emod k (H * W)).symm
  have h2 : k % (H * W) < H * W := Nat.mod_lt _ hHW
  rw [h1, ← Int.natCast_ediv, ← Int.natCast_ediv, ← Int.natCast_emod, ← Int.natCast_ediv, ← Int.natCast_emod, Nat.div_eq_of_lt h2, Nat.mod_eq_of_lt h2]
  simp [prod]
structure OkC (x y : T_Tensor) (x0 n H W : Nat) : Prop where
  tx : x.fType = 1
  ty : y.fType = 1
  cx : checkV x = 0
  cy : checkV y = 0
  dx : x.fDims = [(x0 : Int), (n : Int), (H : Int), (W : Int)]
  dy : y.fDims = [1, (n : Int), 1, 1]
  n1 : 1 ≤ n
  H1 : 1 ≤ H
  W1 : 1 ≤ W
  g : Good [(x0 : Int), 1, (H : Int), (W : Int)]
theorem set_next {f : Nat → Int} {k m : Nat} : ((List.range k).map f ++ List.replicate (m + 1) 0).set k (f k) = (List.range (k + 1)).map f ++ List.replicate m 0 := by
  have hl : ((List.range k).map f).length = k := by simp
  rw [List.set_append_right _ _ (by omega), hl, Nat.sub_self, List.replicate_succ, List.set_cons_zero, List.range_succ, List.map_append]
  simp
variable {x0 n H W : Nat}
theorem val_type {t : T_Tensor} (h : t.fType = 1) : (valOf t).fType = 1 ∧ (valOf t).fDims = t.fDims := by unfold valOf; rw [if_neg (by omega)]; exact ⟨h, rfl⟩
theorem Do_ok (hx : Ten x) (hy : Ten y) (hf : 6000 + big x + big y < fu) (h : OkC x y x0 n H W) : conv_Do (fu + 3) 75 oneS [x, y] =
    some (⟨1, [(x0 : Int), 1, (H : Int), (W : Int)], (List.range (x0 * (H * W))).map (elS (x.fF.map canonF) (y.fF.map canonF) n H W), [], []⟩, 0) := by
  obtain ⟨gx, lx, mx, _, _⟩ := lens_F h.tx h.cx
  obtain ⟨gy, ly, my, _, _⟩ := lens_F h.ty h.cy
  have n1 := h.n1
  have H1 := h.H1
  have W1 := h.W1
  have gd := h.g
  have gx' := gx
  rw [h.dx] at lx gx'
  rw [h.dy] at ly
  have xr := gx'.2.1 (x0 : Int) (by simp)
  have nr := gx'.2.1 (n : Int) (by simp)
  have Hr := gx'.2.1 (H : Int) (by simp)
  have Wr := gx'.2.1 (W : Int) (by simp)
  have lx' : x.fF.length = x0 * n * H * W := by
    have e : prod [(x0 : Int), (n : Int), (H : Int), (W : Int)] = ((x0 * (n * (H * W)) : Nat) : Int) := by simp [prod]
    rw [e] at lx
    rw [Nat.mul_assoc, Nat.mul_assoc]
    omega
  have ly' : y.fF.length = n := by simp [prod] at ly; omega
  have eN : prod [(x0 : Int), 1, (H : Int), (W : Int)] = ((x0 * (H * W) : Nat) : Int) := by simp [prod]
  obtain ⟨v1, v2⟩ := val_type h.tx
  obtain ⟨u1, u2⟩ := val_type h.ty
  rw [Do_spec hx hy (by omega), if_pos (.inr h.cx), if_pos (.inr h.cy)]
  unfold conv_Do.k1
  have hN : infer_Node (fu + 3) 75 oneS [valOf x, valOf y] 1 = some ([⟨1, [(x0 : Int), 1, (H : Int), (W : Int)], false, ⟨0, [], [], [], []⟩⟩], 0) := by
    refine Node_good v1 u1 (by rw [v2]; exact gx) (by rw [u2]; exact gy) (by omega) (by simp) gd ?_
    rw [conv_spec (x0 := (x0 : Int)) (x1 := (n : Int)) (x2 := (H : Int)) (x3 := (W : Int)) (y1 := (n : Int)) (by rw [v2]; exact h.dx) (by rw [u2]; exact h.dy) (by rw [v2]; exact gx) (by omega), if_pos ⟨⟨by omega, rfl⟩, by omega, by omega⟩]
  rw [Vals_spec hx hy, ob_some, hN, ob_some, if_pos rfl]
  show (some _).bind _ = _
  rw [ob_some]
  show (some (canonT x)).bind _ = _
  rw [ob_some]
  show (some (canonT y)).bind _ = _
  rw [ob_some, show (canonT x).fDims = x.fDims from rfl, show (canonT y).fDims = y.fDims from rfl, h.dx, h.dy]
  show (some (H : Int)).bind _ = _
  rw [ob_some]
  show (some (1 : Int)).bind _ = _
  rw [ob_some, axisOf_spec (.inl rfl) H1 (by omega) (by omega), ob_some]
  show (some (W : Int)).bind _ = _
  rw [ob_some]
  show (some (1 : Int)).bind _ = _
  rw [ob_some, axisOf_spec (.inr rfl) W1 (by omega) (by omega), ob_some, New_spec gd eN (by omega), ob_some]
  have hNl : x0 * (H * W) ≤ 4096 := by have := gd.2.2; rw [eN] at this; omega
  have hHW : 0 < H * W := Nat.mul_pos H1 W1
  generalize hd : [(x0 : Int), 1, (H : Int), (W : Int)] = d at *
  unfold conv_Do.W1
  generalize hN2 : x0 * (H * W) = N at *
  have key : ∀ m q k : Nat, N - k = m → k ≤ N → m < q → cloop (fun next s => conv_Do.L1 (fu + 3) oneS [canonT x, canonT y] ⟨1, d, false, ⟨0, [], [], [], []⟩⟩ (axS H, 0) (axS W, 0) (⟨1, d, List.replicate N 0, [], []⟩, 0) (fun x28 x29 => next (x28, x29)) s.1 s.2) q
      ((List.range k).map (elS (x.fF.map canonF) (y.fF.map canonF) n H W) ++ List.replicate (N - k) 0, (k : Int)) = some (⟨1, d, (List.range N).map (elS (x.fF.map canonF) (y.fF.map canonF) n H W), [], []⟩, 0) := by
    intro m
    induction m with
    | zero =>
      intro q k h1 h2 h3
      cases q with
      | zero => omega
      | succ q =>
        have : k = N := by omega
        subst this
        rw [cloop_succ]
        show conv_Do.L1 _ _ _ _ _ _ _ _ _ _ = _
        unfold conv_Do.L1
        rw [if_neg (by simp)]
        simp
    | succ m ih =>
      intro q k h1 h2 h3
      cases q with
      | zero => omega
      | succ q =>
        have hkN : k < N := by omega
        rw [cloop_succ]
        show conv_Do.L1 (fu + 3) oneS [canonT x, canonT y] ⟨1, d, false, ⟨0, [], [], [], []⟩⟩ (axS H, 0) (axS W, 0) (⟨1, d, List.replicate N 0, [], []⟩, 0) _ _ (k : Int) = _
        unfold conv_Do.L1
        rw [if_pos (show (k : Int) < (((⟨1, d, List.replicate N 0, [], []⟩ : T_Tensor), (0 : Int)).1.fF.length : Int) by simp; omega)]
        have hdl := gd.1
        rw [Index_spec (l := d) (by unfold Short; omega) (by omega), ob_some]
        have hi4 : indexV d (k : Int) = ([((k / (H * W) : Nat) : Int), 0, ((k % (H * W) / W : Nat) : Int), ((k % (H * W) % W : Nat) : Int)], 0) := by
          unfold indexV
          rw [if_pos gd, if_pos (by rw [eN]; omega), ← hd, ix4 W1 H1 (by omega)]
        simp only [hi4]
        show (some _).bind _ = _
        rw [ob_some]
        show (some _).bind _ = _
        rw [ob_some]
        show (some _).bind _ = _
        rw [ob_some]
        show (some _).bind _ = _
        rw [ob_some]
        have hr : k % (H * W) < H * W := Nat.mod_lt _ hHW
        have hsum : conv_work_sum (fu + 3) (T_conv_work.mk oneS [canonT x, canonT y] d (axS H) (axS W)) ((k / (H * W) : Nat) : Int) 0 ((k % (H * W) / W : Nat) : Int) ((k % (H * W) % W : Nat) : Int) = some (elS (x.fF.map canonF) (y.fF.map canonF) n H W k) :=
          sum_spec (X := canonT x) (Y := canonT y) (x0 := x0) (Nat.div_lt_of_lt_mul (by rw [Nat.mul_comm]; omega)) (Nat.div_lt_of_lt_mul (by rw [Nat.mul_comm W H]; exact hr)) (Nat.mod_lt _ W1) ⟨_, _, _, h.dx⟩ h.dy (by show (x.fF.map canonF).length = _; rw [List.length_map]; exact lx') (by show (x.fF.map canonF).length ≤ _; rw [List.length_map]; exact mx) (by show (y.fF.map canonF).length = _; rw [List.length_map]; exact ly') (by omega) (by omega) (by omega) (by omega)
        have hlen : (List.map (elS (x.fF.map canonF) (y.fF.map canonF) n H W) (List.range k) ++ List.replicate (N - k) (0 : Int)).length = N := by simp; omega
        rw [hsum, ob_some, chk_pos (by rw [hlen]; omega), if_neg (by simp), Int.toNat_natCast, wk_succ (by omega), show N - k = (N - (k + 1)) + 1 by omega, set_next]
        exact ih q (k + 1) (by omega) (by omega) (by omega)
  have h0 := key N (fu + 3) 0 (by omega) (by omega) (by omega)
  simpa using h0
end
end Go.Av
set_option linter.unusedVariables false
namespace Go.Av
/-- what is not finite is opened so -/
theorem open_inf {fu a : Nat} (ha : a < 4294967296) (hf : ¬ a % 2147483648 < 2139095040) : ∃ x, soft_open fu (a : Int) = some x ∧ x.fneg = decide (2147483648 ≤ a) ∧ x.fnan = decide (2139095040 < a % 2147483648) ∧ x.finf = decide (a % 2147483648 = 2139095040) ∧ x.fsig = 0 := by
  have g1 : shrk .u32 (a : Int) 23 = ((a / 8388608 : Nat) : Int) := shr_nat32 (k := 23) ha
  have g2 : band .u32 ((a / 8388608 : Nat) : Int) 255 = ((a / 8388608 % 256 : Nat) : Int) := mask_nat32 (j := 8) (by decide) (by omega)
  have g3 : shrk .u32 (a : Int) 31 = ((a / 2147483648 : Nat) : Int) := shr_nat32 (k := 31) ha
  have g4 : band .u32 (a : Int) 8388607 = ((a % 8388608 : Nat) : Int) := mask_nat32 (j := 23) (by decide) ha
  have g5 : wk .u64 ((a % 8388608 : Nat) : Int) = ((a % 8388608 : Nat) : Int) := u64_eq (by omega) (by omega)
  have g6 : wk .i64 ((a / 8388608 % 256 : Nat) : Int) = ((a / 8388608 % 256 : Nat) : Int) := wk_eq (by omega) (by omega)
  have gneg : decide (((a / 2147483648 : Nat) : Int) = 1) = decide (2147483648 ≤ a) := decide_eq_decide.2 ⟨fun h => by omega, fun h => by omega⟩
  unfold soft_open
  rw [g1, g2, g3, g4, g5, g6, gneg, if_pos (by omega)]
  refine ⟨_, rfl, rfl, ?_, ?_, rfl⟩
  · simp only []
    by_cases h2 : ((a % 8388608 : Nat) : Int) = 0
    · rw [decide_eq_true h2, decide_eq_false (by omega)]; rfl
    · rw [decide_eq_false h2, decide_eq_true (by omega)]; rfl
  · simp only []
    exact decide_eq_decide.2 ⟨fun h => by omega, fun h => by omega⟩
theorem nan_l {fu a : Nat} {z : Int} (ha : a < 4294967296) (h : 2139095040 < a % 2147483648) : soft_Mul fu (a : Int) z = some 2143289344 := by
  obtain ⟨x, hx, x1, x2, x3, x4⟩ := open_inf (fu := fu) ha (by omega)
  obtain ⟨y, hy, _⟩ := open_tot (fu := fu) (x := z)
  unfold soft_Mul soft_MulBy; try unfold jn
  rw [chk_pos rfl, hx, ob_some, hy, ob_some, x2, if_pos (decide_eq_true h)]
  rfl
theorem nan_r {fu a : Nat} {z : Int} (ha : a < 4294967296) (h : 2139095040 < a % 2147483648) : soft_Mul fu z (a : Int) = some 2143289344 := by
  obtain ⟨x, hx, x1, x2, x3, x4⟩ := open_inf (fu := fu) ha (by omega)
  obtain ⟨y, hy, _⟩ := open_tot (fu := fu) (x := z)
  unfold soft_Mul soft_MulBy; try unfold jn
  rw [chk_pos rfl, hy, ob_some, hx, ob_some]
  by_cases hn : y.fnan = true
  · rw [if_pos hn]; rfl
  · rw [if_neg hn, x2, if_pos (decide_eq_true h)]; rfl
/-- a product of words is that of the words as they are laid down -/
theorem mul_canon {a b : Nat} (ha : a < 4294967296) (hb : b < 4294967296) : mulV (canonF (a : Int)) (canonF (b : Int)) = mulV (a : Int) (b : Int) := by
  have hN : (2143289344 : Int) = ((2143289344 : Nat) : Int) := rfl
  have e1 : canonF (a : Int) = if 2139095040 < a % 2147483648 then 2143289344 else (a : Int) := by
    unfold canonF
    by_cases h : 2139095040 < a % 2147483648
    · rw [if_pos h, if_pos (by omega)]
    · rw [if_neg h, if_neg (by omega)]
  have e2 : canonF (b : Int) = if 2139095040 < b % 2147483648 then 2143289344 else (b : Int) := by
    unfold canonF
    by_cases h : 2139095040 < b % 2147483648
    · rw [if_pos h, if_pos (by omega)]
    · rw [if_neg h, if_neg (by omega)]
  rw [e1, e2]
  unfold mulV
  by_cases h1 : 2139095040 < a % 2147483648
  · rw [if_pos h1, hN, nan_l (by decide) (by decide), nan_l ha h1]
  · rw [if_neg h1]
    by_cases h2 : 2139095040 < b % 2147483648
    · rw [if_pos h2, hN, nan_r (by decide) (by decide), nan_r hb h2]
    · rw [if_neg h2]
end Go.Av
