/- Strides, indices, offsets. Conditions: those that each names. -/
import Derived.Test.YtoeineoiofjfdaaP04
set_option linter.unusedVariables false
namespace Go.Av
def strdW : List Int → List Int
  | [] => []
  | _ :: l => wk .i64 (prod l) :: strdW l
theorem strdW_length : ∀ l, (strdW l).length = l.length
  | [] => rfl
  | _ :: l => by simp [strdW, strdW_length l]
theorem strdW_get : ∀ {l : List Int} {i : Nat} (h : i < l.length), (strdW l)[i]? = some (wk .i64 (prod (l.drop (i + 1))))
  | _ :: l, 0, _ => by simp [strdW]
  | _ :: l, i + 1, h => by
    have := strdW_get (l := l) (i := i) (by simpa using h)
    simpa [strdW] using this
theorem rep_set (i : Nat) (x : Int) (s : List Int) : (List.replicate (i + 1) 0 ++ s).set i x = List.replicate i 0 ++ x :: s := by
  rw [List.replicate_succ', List.append_assoc, List.set_append_right _ _ (by simp)]
  simp
theorem strides_spec {fu : Nat} {l : List Int} (hl : l.length * 8 ≤ 140737488355328) (hf : l.length < fu) : shape_strides fu l = some (strdW l) := by
  unfold shape_strides shape_strides_W1
  rw [chk_pos (by omega)]
  have hw : wk .i64 ((l.length : Int) - 1) = ((l.length : Int) - 1) := wk_eq (by omega) (by omega)
  rw [hw, Int.toNat_natCast]
  refine (cloop_ind (fun _ => some (strdW l)) (fun (s : List Int × Int × Int) => ∃ k : Nat, k ≤ l.length ∧ s = (List.replicate k 0 ++ strdW (l.drop k), wk .i64 (prod (l.drop k)), (k : Int) - 1)) (fun s => (s.2.2 + 1).toNat) ?_ fu _ ⟨l.length, Nat.le_refl _, by simp [strdW, prod]; decide⟩ (by simp; omega))
  rintro _ ⟨k, hk, rfl⟩ next hn
  unfold shape_strides_L1
  simp only
  match k, hk with
  | 0, _ => rw [if_neg (by decide)]; simp
  | k + 1, hk =>
    have e1 : (((k + 1 : Nat) : Int) - 1) = (k : Int) := by omega
    have hlen : (List.replicate (k + 1) (0 : Int) ++ strdW (l.drop (k + 1))).length = l.length := by simp [strdW_length]; omega
    rw [e1, if_pos (by omega), hlen, chk_pos (by omega), at?_get (by omega), ob_some, Int.toNat_natCast, rep_set, wk_mul_l, wk_eq (x := (k : Int) - 1) (by omega) (by omega)]
    refine hn _ ⟨k, by omega, ?_⟩ (by simp)
    rw [List.drop_eq_getElem_cons (by omega : k < l.length)]
    simp only [strdW, prod]
    rw [Int.mul_comm]

/-- all strides and indices of dims without noughts are small -/
theorem prod_drop_le {l : List Int} (hp : ∀ x ∈ l, 1 ≤ x) : ∀ k, 1 ≤ prod (l.drop k) ∧ prod (l.drop k) ≤ prod l := by
  induction l with
  | nil => intro k; simp [prod]
  | cons x l ih =>
    intro k
    have hx := hp x (by simp)
    have ih' := ih fun y hy => hp y (by simp [hy])
    cases k with
    | zero => exact ⟨by simpa using prod_pos hp, by simp⟩
    | succ k =>
      obtain ⟨h1, h2⟩ := ih' k
      have h3 := prod_pos (l := l) fun y hy => hp y (by simp [hy])
      refine ⟨by simpa using h1, ?_⟩
      simp only [List.drop_succ_cons, prod]
      have : 1 * prod l ≤ x * prod l := Int.mul_le_mul_of_nonneg_right hx (by omega)
      omega
theorem pos_of_good {l : List Int} (hg : Good l) (h0 : prod l ≠ 0) : ∀ x ∈ l, 1 ≤ x := fun x hx => by
  have := (hg.2.1 x hx).1
  by_cases h : x = 0
  · subst h; exact absurd (prod_zero hx) h0
  · omega
theorem good_short {l : List Int} (hg : Good l) : l.length * 8 ≤ 140737488355328 := by have := hg.1; omega

def idxV : List Int → Int → List Int
  | [], _ => []
  | _ :: l, a => a / prod l :: idxV l (a % prod l)
theorem idxV_length : ∀ l a, (idxV l a).length = l.length
  | [], _ => rfl
  | _ :: l, a => by simp [idxV, idxV_length l]
theorem IndexW_spec {fu : Nat} {l : List Int} {a : Int} (hg : Good l) (hn0 : 1 ≤ prod l) (ha : 0 ≤ a) (ha2 : a ≤ 4096) (hf : l.length < fu) : shape_Index_W1 fu (strdW l) (List.replicate l.length 0) a 0 = some (idxV l a, 0) := by
  have hp := pos_of_good hg (by omega)
  have hd := prod_drop_le hp
  have hP := hg.2.2
  have hL := hg.1
  unfold shape_Index_W1
  refine (cloop_ind (fun s => some (s.1.take s.2.2.toNat ++ idxV (l.drop s.2.2.toNat) s.2.1, (0 : Int))) (fun (s : List Int × Int × Int) => 0 ≤ s.2.2 ∧ s.2.2 ≤ l.length ∧ s.1.length = l.length ∧ 0 ≤ s.2.1 ∧ s.2.1 ≤ 4096) (fun s => l.length - s.2.2.toNat) ?_ fu _ ⟨by simp, by simp, by simp, ha, ha2⟩ (by simp; omega)).trans (by simp)
  rintro ⟨o, b, i⟩ ⟨h0, h1, h2, h3, h4⟩ next hn
  simp only at h0 h1 h2 h3 h4 hn ⊢
  obtain ⟨k, rfl⟩ := Int.eq_ofNat_of_zero_le h0
  unfold shape_Index_L1
  simp only [Int.toNat_natCast, strdW_length]
  by_cases hk : k < l.length
  · obtain ⟨d1, d2⟩ := hd (k + 1)
    have hw : wk .i64 (prod (l.drop (k + 1))) = prod (l.drop (k + 1)) := wk_eq (by omega) (by omega)
    rw [if_pos (by omega), at?_nat, strdW_get hk, ob_some, hw]
    have q1 : Int.tdiv b (prod (l.drop (k + 1))) = b / prod (l.drop (k + 1)) := Int.tdiv_eq_ediv_of_nonneg h3
    have q2 : Int.tmod b (prod (l.drop (k + 1))) = b % prod (l.drop (k + 1)) := Int.tmod_eq_emod_of_nonneg h3
    have q3 : 0 ≤ b / prod (l.drop (k + 1)) := Int.ediv_nonneg h3 (by omega)
    have q4 : b / prod (l.drop (k + 1)) ≤ b := Int.ediv_le_self _ h3
    have q5 : 0 ≤ b % prod (l.drop (k + 1)) := Int.emod_nonneg _ (by omega)
    have q6 : b % prod (l.drop (k + 1)) < prod (l.drop (k + 1)) := Int.emod_lt_of_pos _ (by omega)
    rw [chk_pos (by omega), chk_pos (by omega), q1, q2, wk_eq (by omega) (by omega), wk_succ (by omega)]
    rw [hn (_, _, ((k + 1 : Nat) : Int)) ⟨by simp only []; omega, by simp only []; omega, by simp [h2], q5, by simp only []; omega⟩ (by simp; omega)]
    simp only [Int.toNat_natCast, Option.some.injEq, Prod.mk.injEq, and_true]
    rw [List.drop_eq_getElem_cons hk]
    simp only [idxV]
    rw [List.take_succ_eq_append_getElem (by simp; omega), List.append_assoc, List.take_set, List.set_eq_of_length_le (by simp; omega)]
    simp
  · rw [if_neg (by omega), List.drop_of_length_le (by omega), List.take_of_length_le (by omega)]
    simp [idxV]
def indexV (l : List Int) (a : Int) : List Int × Int := if Good l then (if 0 ≤ a ∧ a < prod l then (idxV l a, 0) else ([], 2)) else ([], errS l)
theorem Index_spec {fu : Nat} {l : List Int} {a : Int} (hl : Short l) (hf : l.length < fu) : shape_Index fu l a = some (indexV l a) := by
  unfold shape_Index
  rw [Size_spec hl hf, ob_some]
  simp only [sizeV, indexV]
  by_cases hg : Good l
  · simp only [if_pos hg, if_true]
    by_cases h1 : a < 0
    · rw [if_pos h1, if_neg (by omega)]
    · rw [if_neg h1]
      by_cases h2 : prod l ≤ a
      · rw [if_pos h2, if_neg (by omega)]
      · rw [if_neg h2, if_pos (by omega)]
        unfold shape_Index_k1
        have := hg.1
        have := hg.2.2
        rw [chk_pos (by omega), strides_spec (good_short hg) hf, ob_some, Int.toNat_natCast, IndexW_spec hg (by omega) (by omega) (by omega) hf]
  · simp only [if_neg hg]
    rw [if_neg (errS_ne l)]
theorem Strides_spec {fu : Nat} {l : List Int} (hl : Short l) (hf : l.length < fu) : shape_Strides fu l = some (if Good l then (strdW l, 0) else ([], errS l)) := by
  unfold shape_Strides
  rw [Size_spec hl hf, ob_some]
  simp only [sizeV]
  by_cases hg : Good l
  · simp only [if_pos hg, if_true]
    rw [strides_spec (good_short hg) hf, ob_some]
  · simp only [if_neg hg]
    rw [if_neg (errS_ne l)]

/-- do indices stand within dims? -/
def okIx : List Int → List Int → Bool
  | d :: l, x :: xs => decide (0 ≤ x) && decide (x < d) && okIx l xs
  | _, _ => true
def offV : List Int → List Int → Int
  | _ :: l, x :: xs => x * prod l + offV l xs
  | _, _ => 0
def offsetV (l xs : List Int) : Int × Int := if Good l then (if xs.length = l.length then (if okIx l xs = true then (offV l xs, 0) else (0, 2)) else (0, 2)) else (0, errS l)
theorem Offset_spec {fu : Nat} {l xs : List Int} (hl : Short l) (hf : l.length < fu) : shape_Offset fu l xs = some (offsetV l xs) := by
  unfold shape_Offset
  rw [Size_spec hl hf, ob_some]
  simp only [sizeV, offsetV]
  by_cases hg : Good l
  · simp only [if_pos hg, if_true]
    by_cases hx : xs.length = l.length
    · rw [if_pos (by omega), if_pos hx, strides_spec (good_short hg) hf, ob_some]
      unfold shape_Offset_W1
      have hP := hg.2.2
      have hG := hg.1
      refine (cloop_ind (fun s => some (if okIx (l.drop s.2.toNat) (xs.drop s.2.toNat) = true then (s.1 + offV (l.drop s.2.toNat) (xs.drop s.2.toNat), (0 : Int)) else (0, 2))) (fun (s : Int × Int) => 0 ≤ s.2 ∧ s.2 ≤ l.length ∧ 0 ≤ s.1 ∧ s.1 + prod (l.drop s.2.toNat) ≤ prod l) (fun s => l.length - s.2.toNat) ?_ fu _ ⟨by simp, by simp, by simp, by simp⟩ (by simp; omega)).trans (by simp)
      rintro ⟨o, i⟩ ⟨h0, h1, h2, h3⟩ next hn
      simp only at h0 h1 h2 h3 hn ⊢
      obtain ⟨k, rfl⟩ := Int.eq_ofNat_of_zero_le h0
      unfold shape_Offset_L1 shape_Offset_k1 shape_Offset_k2
      simp only [Int.toNat_natCast, strdW_length] at h3 ⊢
      by_cases hk : k < l.length
      · have hkx : k < xs.length := by omega
        rw [if_pos (by omega), at?_nat, strdW_get hk, ob_some, at?_get hkx, ob_some]
        rw [List.drop_eq_getElem_cons hk, List.drop_eq_getElem_cons hkx]
        simp only [okIx, offV, Bool.and_eq_true, decide_eq_true_eq]
        have hr := hg.2.1 l[k] (List.getElem_mem hk)
        by_cases hx1 : xs[k] < 0
        · rw [if_pos hx1, if_pos (by decide), if_neg (by omega)]
        rw [if_neg hx1, at?_get hk, ob_some]
        by_cases hx2 : l[k] ≤ xs[k]
        · rw [if_pos hx2, if_pos (by decide), if_neg (by omega)]
        rw [if_neg hx2, ob_some]
        rw [List.drop_eq_getElem_cons hk] at h3
        simp only [prod] at h3
        have hpn : 0 ≤ prod (l.drop (k + 1)) := prod_nonneg fun x hx => hg.2.1 x (List.mem_of_mem_drop hx)
        have m1 : (xs[k] + 1) * prod (l.drop (k + 1)) ≤ l[k] * prod (l.drop (k + 1)) := Int.mul_le_mul_of_nonneg_right (by omega) hpn
        rw [Int.add_mul, Int.one_mul] at m1
        have m2 : 0 ≤ xs[k] * prod (l.drop (k + 1)) := Int.mul_nonneg (by omega) hpn
        rw [wk_eq (x := prod (l.drop (k + 1))) (by omega) (by omega), wk_eq (x := xs[k] * prod (l.drop (k + 1))) (by omega) (by omega), wk_eq (by omega) (by omega), wk_succ (by omega)]
        rw [hn (o + xs[k] * prod (l.drop (k + 1)), ((k + 1 : Nat) : Int)) ⟨by simp only []; omega, by simp only []; omega, by simp only []; omega, by simp only [Int.toNat_natCast]; omega⟩ (by simp; omega)]
        simp only [Int.toNat_natCast]
        by_cases hok : okIx (l.drop (k + 1)) (xs.drop (k + 1)) = true
        · rw [if_pos hok, if_pos ⟨⟨by omega, by omega⟩, hok⟩, Int.add_assoc]
        · rw [if_neg hok, if_neg (fun h => hok h.2)]
      · rw [if_neg (by omega), List.drop_of_length_le (by omega), List.drop_of_length_le (by omega), if_neg (by omega)]
        simp [okIx, offV]
    · rw [if_neg (by omega), if_neg hx]
  · simp only [if_neg hg]
    rw [if_neg (errS_ne l)]
/-- from a place to its indices and back -/
theorem okIx_idx : ∀ {l : List Int} {a : Int}, (∀ x ∈ l, 1 ≤ x) → 0 ≤ a → a < prod l → okIx l (idxV l a) = true
  | [], _, _, _, _ => rfl
  | d :: l, a, hp, h0, h1 => by
    have hq : 1 ≤ prod l := prod_pos fun x hx => hp x (by simp [hx])
    have h2 : 0 ≤ a / prod l := Int.ediv_nonneg h0 (by omega)
    have h3 : a / prod l < d := Int.ediv_lt_of_lt_mul (by omega) h1
    have h4 := okIx_idx (l := l) (a := a % prod l) (fun x hx => hp x (by simp [hx])) (Int.emod_nonneg _ (by omega)) (Int.emod_lt_of_pos _ (by omega))
    simp [idxV, okIx, h2, h3, h4]
theorem offV_idx : ∀ {l : List Int} {a : Int}, (∀ x ∈ l, 1 ≤ x) → 0 ≤ a → a < prod l → offV l (idxV l a) = a
  | [], a, _, h0, h1 => by simp [prod] at h1; simp [offV]; omega
  | d :: l, a, hp, h0, h1 => by
    have hq : 1 ≤ prod l := prod_pos fun x hx => hp x (by simp [hx])
    have h4 := offV_idx (l := l) (a := a % prod l) (fun x hx => hp x (by simp [hx])) (Int.emod_nonneg _ (by omega)) (Int.emod_lt_of_pos _ (by omega))
    simp only [idxV, offV, h4]
    rw [Int.mul_comm]
    exact Int.mul_ediv_add_emod a (prod l)
end Go.Av
