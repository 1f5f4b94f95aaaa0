/- Layer 4, shapes: what the plain functions come to. Strides, indices, offsets. Copies. Layer 5: sameness, whether a tensor may be, copies whose no numbers are one. Any tensors: as constant values; whether each may be. The document's size, and whether a tensor may be. New tensors, elements picked. Axes. ArgMax of one row of whole numbers: what infer tells; places. ArgMax of one row of whole numbers: the place it names. Conditions: those that each names. -/
import Derived.Test.YtebfneaimafcoaaGreatQS
import Derived.Test.YtebfneaimafcoaaGreatPl
set_option linter.unusedVariables false
namespace Go.Av
def fstAt (p : Int → Bool) : Nat → List Int → Int
  | _, [] => -1
  | i, x :: l => if p x = true then i else fstAt p (i + 1) l
theorem fstAt_any (p : Int → Bool) : ∀ (l : List Int) (i : Nat), decide (0 ≤ fstAt p i l) = l.any p
  | [], i => rfl
  | x :: l, i => by
    simp only [fstAt, List.any_cons]
    by_cases h : p x = true
    · simp [h]
    · simp [h, ← fstAt_any p l (i + 1)]
def Short (l : List Int) : Prop := l.length ≤ 140737488355328
theorem wk_succ {k : Nat} (h : k ≤ 140737488355328) : wk .i64 ((k : Int) + 1) = ((k + 1 : Nat) : Int) := by rw [wk_eq (by omega) (by omega)]; omega
theorem IndexFunc_spec {fu : Nat} {l : List Int} {p : Int → Option Bool} {q : Int → Bool} (hp : ∀ x, p x = some (q x)) (hl : Short l) (hf : l.length < fu) : slices_IndexFunc_int fu l p = some (fstAt q 0 l) := by
  unfold slices_IndexFunc_int slices_IndexFunc_int.W1
  refine cloop_ind (fun (i : Int) => some (fstAt q i.toNat (l.drop i.toNat))) (fun i => 0 ≤ i ∧ i ≤ l.length) (fun i => l.length - i.toNat) ?_ fu 0 (by omega) (by simp; omega)
  rintro i ⟨h0, h1⟩ next hn
  obtain ⟨k, rfl⟩ := Int.eq_ofNat_of_zero_le h0
  unfold slices_IndexFunc_int.L1
  simp only [Int.toNat_natCast]
  by_cases hk : k < l.length
  · rw [if_pos (by omega), at?_get hk, ob_some, hp, ob_some, List.drop_eq_getElem_cons hk]
    simp only [fstAt]
    by_cases hq : q l[k] = true
    · rw [if_pos hq, if_pos hq]
    · rw [if_neg hq, if_neg hq, wk_succ (by unfold Short at hl; omega), hn _ (by omega) (by simp; omega)]
      simp
  · rw [if_neg (by omega), List.drop_of_length_le (by omega)]; rfl
theorem ContainsFunc_spec {fu : Nat} {l : List Int} {p : Int → Option Bool} {q : Int → Bool} (hp : ∀ x, p x = some (q x)) (hl : Short l) (hf : l.length < fu) : slices_ContainsFunc_int fu l p = some (l.any q) := by
  unfold slices_ContainsFunc_int
  rw [IndexFunc_spec hp hl hf, ob_some, fstAt_any]
theorem IndexI_spec {fu : Nat} {l : List Int} {x : Int} (hl : Short l) (hf : l.length < fu) : slices_Index_int fu l x = some (fstAt (fun y => decide (x = y)) 0 l) := by
  unfold slices_Index_int slices_Index_int.W1
  refine cloop_ind (fun (i : Int) => some (fstAt (fun y => decide (x = y)) i.toNat (l.drop i.toNat))) (fun i => 0 ≤ i ∧ i ≤ l.length) (fun i => l.length - i.toNat) ?_ fu 0 (by omega) (by simp; omega)
  rintro i ⟨h0, h1⟩ next hn
  obtain ⟨k, rfl⟩ := Int.eq_ofNat_of_zero_le h0
  unfold slices_Index_int.L1
  simp only [Int.toNat_natCast]
  by_cases hk : k < l.length
  · rw [if_pos (by omega), at?_get hk, ob_some, List.drop_eq_getElem_cons hk]
    simp only [fstAt]
    by_cases hq : x = l[k]
    · rw [if_pos hq, if_pos (by simpa using hq)]
    · rw [if_neg hq, if_neg (by simpa using hq), wk_succ (by unfold Short at hl; omega), hn _ (by omega) (by simp; omega)]
      simp
  · rw [if_neg (by omega), List.drop_of_length_le (by omega)]; rfl
theorem Contains_spec {fu : Nat} {l : List Int} {x : Int} (hl : Short l) (hf : l.length < fu) : slices_Contains_int fu l x = some (l.any fun y => decide (x = y)) := by
  unfold slices_Contains_int
  rw [IndexI_spec hl hf, ob_some, fstAt_any]
def prod : List Int → Int
  | [] => 1
  | x :: l => x * prod l
def Rng (l : List Int) : Prop := ∀ x ∈ l, 0 ≤ x ∧ x ≤ 4096
def Good (l : List Int) : Prop := l.length ≤ 8 ∧ Rng l ∧ prod l ≤ 4096
instance (l : List Int) : Decidable (Rng l) := by unfold Rng; infer_instance
instance (l : List Int) : Decidable (Good l) := by unfold Good; infer_instance
def errS (l : List Int) : Int := if l.any (fun x => decide (x < 0)) = true then 1 else 4
def sizeV (l : List Int) : Int × Int := if Good l then (prod l, 0) else (0, errS l)
theorem errS_ne (l : List Int) : errS l ≠ 0 := by unfold errS; split <;> decide
theorem prod_nonneg : ∀ {l : List Int}, Rng l → 0 ≤ prod l
  | [], _ => by decide
  | x :: l, h => Int.mul_nonneg (h x (by simp)).1 (prod_nonneg fun y hy => h y (by simp [hy]))
theorem prod_pos : ∀ {l : List Int}, (∀ x ∈ l, 1 ≤ x) → 1 ≤ prod l
  | [], _ => by decide
  | x :: l, h => by
    have h1 := h x (by simp)
    have h2 := prod_pos (l := l) fun y hy => h y (by simp [hy])
    have := Int.mul_le_mul h1 h2 (by decide) (by omega)
    simpa [prod] using this
theorem prod_zero : ∀ {l : List Int}, 0 ∈ l → prod l = 0
  | x :: l, h => by
    rcases List.mem_cons.1 h with rfl | h
    · simp [prod]
    · simp [prod, prod_zero h]
theorem div_lt_iff {m d : Int} (hm : 1 ≤ m) (hd : 0 ≤ d) : (Int.tdiv 4096 m < d) ↔ 4096 < m * d := by
  rw [Int.tdiv_eq_ediv_of_nonneg (by decide)]
  constructor
  · intro h
    have := Int.lt_mul_of_ediv_lt (by omega : 0 < m) h
    rwa [Int.mul_comm] at this
  · intro h
    exact Int.ediv_lt_of_lt_mul (by omega) (by rwa [Int.mul_comm])
theorem SizeW_spec {fu : Nat} {l : List Int} (hp : ∀ x ∈ l, 1 ≤ x ∧ x ≤ 4096) (hl : l.length ≤ 8) (hf : l.length < fu) : shape_Size.W1 fu l 1 0 = some (if prod l ≤ 4096 then (prod l, 0) else (0, 4)) := by
  unfold shape_Size.W1
  refine (cloop_ind (fun (s : Int × Int) => some (if s.1 * prod (l.drop s.2.toNat) ≤ 4096 then (s.1 * prod (l.drop s.2.toNat), 0) else (0, 4))) (fun s => 0 ≤ s.2 ∧ s.2 ≤ l.length ∧ 1 ≤ s.1 ∧ s.1 ≤ 4096) (fun s => l.length - s.2.toNat) ?_ fu (1, 0) (by simp) (by simp; omega)).trans (by simp)
  rintro ⟨m, i⟩ ⟨h0, h1, h2, h3⟩ next hn
  simp only at h0 h1 h2 h3 hn ⊢
  obtain ⟨k, rfl⟩ := Int.eq_ofNat_of_zero_le h0
  unfold shape_Size.L1
  simp only [Int.toNat_natCast]
  by_cases hk : k < l.length
  · obtain ⟨q1, q2⟩ := hp _ (List.getElem_mem hk)
    have t0 : 0 ≤ Int.tdiv 4096 m ∧ Int.tdiv 4096 m ≤ 4096 := by
      rw [Int.tdiv_eq_ediv_of_nonneg (by decide)]
      exact ⟨Int.ediv_nonneg (by decide) (by omega), Int.ediv_le_self _ (by decide)⟩
    rw [if_pos (by omega), at?_get hk, ob_some, chk_pos (by omega), wk_eq (by omega) (by omega), List.drop_eq_getElem_cons hk]
    have hpos : 1 ≤ prod (l.drop (k + 1)) := prod_pos fun x hx => (hp x (List.mem_of_mem_drop hx)).1
    have hge : 1 ≤ m * l[k] := by have := Int.mul_le_mul h2 q1 (by decide) (by omega); simpa using this
    simp only [prod, ← Int.mul_assoc]
    by_cases hd : Int.tdiv 4096 m < l[k]
    · rw [if_pos hd]
      rw [div_lt_iff h2 (by omega)] at hd
      have : m * l[k] * 1 ≤ m * l[k] * prod (l.drop (k + 1)) := Int.mul_le_mul_of_nonneg_left hpos (by omega)
      rw [if_neg (by omega)]
    · rw [if_neg hd]
      rw [div_lt_iff h2 (by omega)] at hd
      rw [wk_eq (by omega) (by omega), wk_succ (by omega), hn (m * l[k], ((k + 1 : Nat) : Int)) ⟨by simp only []; omega, by simp only []; omega, hge, by simp only []; omega⟩ (by simp; omega)]
      simp
  · rw [if_neg (by omega), List.drop_of_length_le (by omega)]
    simp only [prod, Int.mul_one]
    rw [if_pos h3]
theorem Size_spec {fu : Nat} {l : List Int} (hl : Short l) (hf : l.length < fu) : shape_Size fu l = some (sizeV l) := by
  unfold shape_Size; try unfold jn
  rw [ContainsFunc_spec (p := fun y0 => shape_Size_1 fu y0) (q := fun x => decide (x < 0)) (fun x => rfl) hl hf, ob_some]
  by_cases h1 : l.any (fun x => decide (x < 0)) = true
  · rw [if_pos h1]
    have hg : ¬ Good l := fun hg => by
      obtain ⟨x, hx, hx2⟩ := List.any_eq_true.1 h1
      have := (hg.2.1 x hx).1
      simp at hx2; omega
    simp only [sizeV, if_neg hg, errS, if_pos h1]
  rw [if_neg h1]
  have he : errS l = 4 := by simp only [errS, if_neg h1]
  by_cases h2 : 8 < (l.length : Int)
  · rw [if_pos h2]
    have hg : ¬ Good l := fun hg => by have := hg.1; omega
    simp only [sizeV, if_neg hg, he]
  rw [if_neg h2, ContainsFunc_spec (p := fun y0 => shape_Size_2 fu y0) (q := fun x => decide (4096 < x)) (fun x => rfl) hl hf, ob_some]
  by_cases h3 : l.any (fun x => decide (4096 < x)) = true
  · rw [if_pos h3]
    have hg : ¬ Good l := fun hg => by
      obtain ⟨x, hx, hx2⟩ := List.any_eq_true.1 h3
      have := (hg.2.1 x hx).2
      simp at hx2; omega
    simp only [sizeV, if_neg hg, he]
  rw [if_neg h3]
  have hr : Rng l := fun x hx => by
    simp only [List.any_eq_true, decide_eq_true_eq, not_exists, not_and] at h1 h3
    have := h1 x hx; have := h3 x hx; omega
  unfold shape_Size.k1
  rw [Contains_spec hl hf, ob_some]
  by_cases h4 : (l.any fun y => decide ((0 : Int) = y)) = true
  · rw [if_pos h4]
    have hz : (0 : Int) ∈ l := by
      obtain ⟨x, hx, hx2⟩ := List.any_eq_true.1 h4
      simp at hx2; subst hx2; exact hx
    have hg : Good l := ⟨by omega, hr, by rw [prod_zero hz]; decide⟩
    simp only [sizeV, if_pos hg, prod_zero hz]
  rw [if_neg h4]
  have hp : ∀ x ∈ l, 1 ≤ x ∧ x ≤ 4096 := fun x hx => by
    have := hr x hx
    simp only [List.any_eq_true, decide_eq_true_eq, not_exists, not_and] at h4
    have := h4 x hx; omega
  rw [SizeW_spec hp (by omega) hf]
  by_cases h5 : prod l ≤ 4096
  · have hg : Good l := ⟨by omega, hr, h5⟩
    simp only [sizeV, if_pos hg, if_pos h5]
  · have hg : ¬ Good l := fun hg => h5 hg.2.2
    simp only [sizeV, if_neg hg, if_neg h5, he]
end Go.Av
set_option linter.unusedVariables false
namespace Go.Av
def strdW : List Int → List Int
  | [] => []
  | _ :: l => wk .i64 (prod l) :: strdW l
theorem strdW_length : ∀ l, (strdW l).length = l.length
  | [] => rfl
  | _ :: l => by simp [strdW, strdW_length l]
theorem rep_set (i : Nat) (x : Int) (s : List Int) : (List.replicate (i + 1) 0 ++ s).set i x = List.replicate i 0 ++ x :: s := by
  rw [List.replicate_succ', List.append_assoc, List.set_append_right _ _ (by simp)]
  simp
theorem strides_spec {fu : Nat} {l : List Int} (hl : l.length * 8 ≤ 140737488355328) (hf : l.length < fu) : shape_strides fu l = some (strdW l) := by
  unfold shape_strides shape_strides.W1
  rw [chk_pos (by omega)]
  have hw : wk .i64 ((l.length : Int) - 1) = ((l.length : Int) - 1) := wk_eq (by omega) (by omega)
  rw [hw, Int.toNat_natCast]
  refine (cloop_ind (fun _ => some (strdW l)) (fun (s : List Int × Int × Int) => ∃ k : Nat, k ≤ l.length ∧ s = (List.replicate k 0 ++ strdW (l.drop k), wk .i64 (prod (l.drop k)), (k : Int) - 1)) (fun s => (s.2.2 + 1).toNat) ?_ fu _ ⟨l.length, Nat.le_refl _, by simp [strdW, prod]; decide⟩ (by simp; omega))
  rintro _ ⟨k, hk, rfl⟩ next hn
  unfold shape_strides.L1
  simp only
  match k, hk with
  | 0, _ => rw [if_neg (by decide)]; simp
  | k + 1, hk =>
    have e1 : (((k + 1 : Nat) : Int) - 1) = (k : Int) := by omega
    have hlen : (List.replicate (k + 1) (0 : Int) ++ strdW (l.drop (k + 1))).length = l.length := by simp [strdW_length]; omega
    rw [e1, if_pos (by omega), hlen, chk_pos (by omega), at?_get (by omega), ob_some, Int.toNat_natCast, rep_set, wk_mul_l, wk_eq (x := (k : Int) - 1) (by omega) (by omega)]
    refine hn _ ⟨k, by omega, ?_⟩ (by simp)
    rw [List.drop_eq_getElem_cons (by omega : k < l.length)]
    simp only [strdW, prod]
    rw [Int.mul_comm]
end Go.Av
set_option linter.unusedVariables false
namespace Go.Av
theorem Clone_spec {fu : Nat} {l : List Int} (h : l.length * 8 ≤ 140737488355328) : slices_Clone_int fu l = some l := by
  unfold slices_Clone_int
  rw [chk_pos (by omega)]
end Go.Av
set_option linter.unusedVariables false
namespace Go.Av
def Small (t : T_Tensor) : Prop := t.fDims.length * 8 ≤ 140737488351232 ∧ t.fF.length ≤ 140737488351232 ∧ t.fI.length ≤ 140737488351232 ∧ t.fB.length ≤ 140737488351232
def Fuel (fu : Nat) (t : T_Tensor) : Prop := t.fDims.length < fu ∧ t.fF.length < fu ∧ t.fI.length < fu ∧ t.fB.length < fu
def noT : T_Tensor := ⟨0, [], [], [], []⟩
theorem known_spec {fu : Nat} {k : Int} : tens_known fu k = some (decide (k = 1 ∨ k = 7 ∨ k = 9)) := by
  unfold tens_known tens_Width
  by_cases h1 : k = 1
  · simp [h1]
  · by_cases h2 : k = 7
    · simp [h2]
    · by_cases h3 : k = 9 <;> simp [h1, h2, h3]
def Known (k : Int) : Prop := k = 1 ∨ k = 7 ∨ k = 9
instance (k : Int) : Decidable (Known k) := by unfold Known; infer_instance
def LensOK (t : T_Tensor) : Prop := (t.fF.length : Int) = (if t.fType = 1 then prod t.fDims else 0) ∧ (t.fI.length : Int) = (if t.fType = 7 then prod t.fDims else 0) ∧ (t.fB.length : Int) = (if t.fType = 9 then prod t.fDims else 0)
instance (t : T_Tensor) : Decidable (LensOK t) := by unfold LensOK; infer_instance
def checkV (t : T_Tensor) : Int := if Known t.fType then (if Good t.fDims then (if LensOK t then 0 else 3) else errS t.fDims) else 5
theorem Check_spec {fu : Nat} {t : T_Tensor} (hs : Small t) (hf : Fuel fu t) : tens_Check fu t = some (checkV t) := by
  obtain ⟨s1, s2, s3, s4⟩ := hs
  unfold tens_Check checkV; try unfold jn
  rw [known_spec, ob_some, Size_spec (by unfold Short; omega) hf.1]
  by_cases hk : Known t.fType
  · rw [if_pos (by simpa [Known] using hk), ob_some, if_pos hk]
    simp only [sizeV]
    by_cases hg : Good t.fDims
    · simp only [if_pos hg, if_true]
      have hp := prod_nonneg hg.2.1
      have hsum : wk .i64 ((wk .i64 ((t.fF.length : Int) + (t.fI.length : Int))) + (t.fB.length : Int)) = t.fF.length + t.fI.length + t.fB.length := by
        rw [wk_add_l, wk_eq (by omega) (by omega)]
      unfold tens_Check.k1 LensOK
      simp only [hsum]
      rcases hk with e | e | e
      · simp only [e, show ¬ (1 : Int) = 7 by decide, show ¬ (1 : Int) = 9 by decide, if_false, if_true]
        by_cases h1 : (t.fF.length : Int) = prod t.fDims
        · by_cases h2 : (t.fF.length : Int) + t.fI.length + t.fB.length = prod t.fDims
          · rw [if_pos h1, if_pos h2, if_pos ⟨h1, by omega, by omega⟩]
          · rw [if_pos h1, if_neg h2, if_neg (fun h => h2 (by omega))]
        · rw [if_neg h1, if_neg (fun h => h1 h.1)]
      · simp only [e, show ¬ (7 : Int) = 1 by decide, show ¬ (7 : Int) = 9 by decide, if_false, if_true]
        by_cases h1 : (t.fI.length : Int) = prod t.fDims
        · by_cases h2 : (t.fF.length : Int) + t.fI.length + t.fB.length = prod t.fDims
          · rw [if_pos h1, if_pos h2, if_pos ⟨by omega, h1, by omega⟩]
          · rw [if_pos h1, if_neg h2, if_neg (fun h => h2 (by omega))]
        · rw [if_neg h1, if_neg (fun h => h1 h.2.1)]
      · simp only [e, show ¬ (9 : Int) = 1 by decide, show ¬ (9 : Int) = 7 by decide, if_false, if_true]
        by_cases h1 : (t.fB.length : Int) = prod t.fDims
        · by_cases h2 : (t.fF.length : Int) + t.fI.length + t.fB.length = prod t.fDims
          · rw [if_pos h1, if_pos h2, if_pos ⟨by omega, by omega, h1⟩]
          · rw [if_pos h1, if_neg h2, if_neg (fun h => h2 (by omega))]
        · rw [if_neg h1, if_neg (fun h => h1 h.2.2)]
    · simp only [if_neg hg]
      rw [if_neg (errS_ne _)]
  · rw [if_neg (by simpa [Known] using hk), if_neg hk]
theorem checkV_zero {t : T_Tensor} : checkV t = 0 ↔ Known t.fType ∧ Good t.fDims ∧ LensOK t := by
  unfold checkV
  by_cases hk : Known t.fType <;> by_cases hg : Good t.fDims <;> by_cases hl : LensOK t <;> simp [hk, hg, hl, errS_ne]
theorem map_loop {β : Type} {l : List Int} {f : Int → Int} {B : ((List Int × Int) → Option β) → (List Int × Int) → Option β} {c : List Int → Option β} {fu : Nat} (hf : l.length < fu)
    (hB : ∀ (next : List Int × Int → Option β) (k : Nat) (m : List Int) (hk : k < l.length), m.length = l.length → (hm : m[k]? = some l[k]) → B next (m, (k : Int)) = next (m.set k (f l[k]), ((k + 1 : Nat) : Int)))
    (hE : ∀ next (m : List Int), m.length = l.length → B next (m, (l.length : Int)) = c m) : cloop B fu (l, 0) = c (l.map f) := by
  have := cloop_up (body := B) (n := fu) l.length (fun k => (l.take k).map f ++ l.drop k) (c (l.map f)) ?_ ?_ hf
  · simpa using this
  · intro k hk next hn
    have hlk : ((l.take k).map f).length = k := by simp; omega
    rw [hB next k _ hk (by simp; omega) (by rw [List.getElem?_append_right (by omega), hlk, Nat.sub_self, List.getElem?_drop]; simp [hk])]
    have e : ((l.take k).map f ++ l.drop k).set k (f l[k]) = (l.take (k + 1)).map f ++ l.drop (k + 1) := by
      rw [List.set_append_right _ _ (by omega), hlk, Nat.sub_self, List.drop_eq_getElem_cons hk, List.set_cons_zero, List.take_add_one, List.getElem?_eq_getElem hk, List.map_append, List.append_assoc]
      rfl
    rw [e]
    exact hn
  · intro next
    rw [hE _ _ (by simp)]
    simp
def canonF (x : Int) : Int := if 2139095040 < x % 2147483648 then 2143289344 else x
def canonT (t : T_Tensor) : T_Tensor := ⟨t.fType, t.fDims, t.fF.map canonF, t.fI, t.fB⟩
theorem wk_eq32 {x : Int} (h0 : 0 ≤ x) (h1 : x < 4294967296) : wk .u32 x = x := by
  have : wk .u32 x = x % 4294967296 := by simp [wk, IntKind.wrap, IntKind.signed, IntKind.bits]
  rw [this, Int.emod_eq_of_lt h0 h1]
theorem abs_u32 {x : Int} (h0 : 0 ≤ x) (h1 : x < 4294967296) : bandn .u32 x 2147483648 = x % 2147483648 := by
  unfold bandn
  rw [show IntKind.u32.bits = 32 from rfl, show ~~~(BitVec.ofInt 32 2147483648) = BitVec.ofNat 32 (2 ^ 31 - 1) by decide, BitVec.toNat_and, BitVec.toNat_ofNat, BitVec.toNat_ofInt]
  have : (2 ^ 31 - 1) % 2 ^ 32 = 2 ^ 31 - 1 := by decide
  rw [this, Nat.and_two_pow_sub_one_eq_mod]
  have hw := wk_eq32 (x := (((x % ((2 ^ 32 : Nat) : Int)).toNat % 2 ^ 31 : Nat) : Int)) (by omega) (by omega)
  unfold wk at hw
  rw [hw]
  omega
theorem softCanon_spec {fu : Nat} {x : Int} (h0 : 0 ≤ x) (h1 : x < 4294967296) : soft_Canon fu x = some (canonF x) := by
  unfold soft_Canon soft_NaN soft_Abs canonF
  rw [abs_u32 h0 h1, ob_some, ob_some]
  by_cases h : 2139095040 < x % 2147483648 <;> simp [h]
def Ten (t : T_Tensor) : Prop := t.fDims.length * 8 ≤ 140737488351232 ∧ t.fF.length * 4 ≤ 140737488351232 ∧ t.fI.length * 8 ≤ 140737488351232 ∧ t.fB.length ≤ 140737488351232 ∧ ∀ x ∈ t.fF, 0 ≤ x ∧ x < 4294967296
theorem Ten.small {t : T_Tensor} (h : Ten t) : Small t := by obtain ⟨a, b, c, d, _⟩ := h; exact ⟨a, by omega, by omega, by omega⟩
theorem Copy_spec {fu : Nat} {t : T_Tensor} (h : Ten t) : tens_Copy fu t = some t := by
  obtain ⟨h1, h2, h3, h4, _⟩ := h
  unfold tens_Copy tens_own_int tens_own_uint32 tens_own_int64 tens_own_bool
  rw [chk_pos (by omega), ob_some, chk_pos (by omega), ob_some, chk_pos (by omega), ob_some, chk_pos (by omega), ob_some]
theorem Canon_spec {fu : Nat} {t : T_Tensor} (h : Ten t) (hf : t.fF.length < fu) : tens_Canon fu t = some (canonT t) := by
  have hu := h.2.2.2.2
  have hl := h.2.1
  unfold tens_Canon
  rw [Copy_spec h, ob_some]
  unfold tens_Canon.W1
  refine map_loop (f := canonF) (c := fun m => some (T_Tensor.mk t.fType t.fDims m t.fI t.fB)) hf ?_ ?_
  · intro next k m hk hm hg
    unfold tens_Canon.L1
    simp only []
    obtain ⟨u1, u2⟩ := hu _ (List.getElem_mem hk)
    rw [if_pos (by omega), at?_nat, hg, ob_some, softCanon_spec u1 u2, ob_some, chk_pos (by omega), wk_succ (by omega)]
    rfl
  · intro next m hm
    unfold tens_Canon.L1
    rw [if_neg (by simp)]
end Go.Av
set_option linter.unusedVariables false
namespace Go.Av
theorem cloop_succ {σ β : Type} {body : (σ → Option β) → σ → Option β} {n : Nat} {s : σ} : cloop body (n + 1) s = body (cloop body n) s := rfl
def zeroVal : T_Val := ⟨0, [], false, ⟨0, [], [], [], []⟩⟩
def valOf (t : T_Tensor) : T_Val := if t.fType = 0 then zeroVal else ⟨t.fType, t.fDims, true, t⟩
def Tens (fu : Nat) (l : List T_Tensor) : Prop := l.length ≤ 1048576 ∧ l.length < fu ∧ ∀ t ∈ l, Ten t ∧ Fuel fu t
theorem CloneI_spec {fu : Nat} {l : List Int} (h : l.length * 8 ≤ 140737488351232) : slices_Clone_int fu l = some l := by
  unfold slices_Clone_int; rw [chk_pos (by omega)]
theorem take_next {α β : Type} {f : α → β} {l : List α} {k : Nat} (hk : k < l.length) : (l.take (k + 1)).map f = (l.take k).map f ++ [f l[k]] := by
  rw [List.take_add_one, List.getElem?_eq_getElem hk, List.map_append]; rfl
theorem Vals_all {fu : Nat} {l : List T_Tensor} (h : Tens fu l) : ewise_Vals fu l = some (l.map valOf) := by
  unfold ewise_Vals ewise_Vals.W1
  have hl0 := h.1
  refine cloop_up l.length (fun k => (l.take k).map valOf) _ ?_ ?_ h.2.1
  · intro k hk next hn
    have ht := (h.2.2 _ (List.getElem_mem hk)).1
    show ewise_Vals.L1 fu l _ _ (k : Int) = _
    have hl : ((l.take k).map valOf).length = k := by simp; omega
    rw [take_next hk] at hn
    rw [ewise_Vals.L1, if_pos (by omega), at?_get hk, ob_some, wk_succ (by omega)]
    by_cases h0 : l[k].fType = 0
    · rw [if_pos h0, chk_pos (by rw [hl]; omega)]
      rw [valOf, if_pos h0] at hn
      exact hn
    · rw [if_neg h0, CloneI_spec ht.1, ob_some, Copy_spec ht, ob_some, chk_pos (by rw [hl]; omega)]
      rw [valOf, if_neg h0] at hn
      exact hn
  · intro next
    show ewise_Vals.L1 fu l _ _ (l.length : Int) = _
    rw [ewise_Vals.L1, if_neg (by omega), List.take_length]
def badV : List T_Tensor → Option Int
  | [] => none
  | t :: l => if t.fType = 0 ∨ checkV t = 0 then badV l else some (checkV t)
theorem head_loop {β : Type} {fu : Nat} {l : List T_Tensor} (h : Tens fu l) {k1 : List T_Tensor → Option β} {er : Int → Option β} {L : (List T_Tensor → Int → Option β) → List T_Tensor → Int → Option β}
    (hL : ∀ nx acc i, L nx acc i = if i < (l.length : Int) then ((at? l i).bind fun x => if x.fType = 0 then ((tens_Canon fu x).bind fun y => chk ((acc.length + 1 : Int) * 104 ≤ 140737488355328) <| nx (acc ++ ([y])) (wk .i64 (i + 1))) else
      (tens_Check fu x).bind fun c => if c = 0 then ((tens_Canon fu x).bind fun y => chk ((acc.length + 1 : Int) * 104 ≤ 140737488355328) <| nx (acc ++ ([y])) (wk .i64 (i + 1))) else er c) else k1 acc) :
    cloop (fun next s => L (fun a b => next (a, b)) s.1 s.2) fu (([] : List T_Tensor), (0 : Int)) = match badV l with | some e => er e | none => k1 (l.map canonT) := by
  have hl0 := h.1
  have key : ∀ m q k : Nat, l.length - k = m → k ≤ l.length → m < q → cloop (fun next s => L (fun a b => next (a, b)) s.1 s.2) q ((l.take k).map canonT, (k : Int)) = match badV (l.drop k) with | some e => er e | none => k1 (l.map canonT) := by
    intro m
    induction m with
    | zero =>
      intro q k h1 h2 h3
      cases q with
      | zero => omega
      | succ q =>
        have : k = l.length := by omega
        subst this
        rw [cloop_succ]
        show L _ _ (l.length : Int) = _
        rw [hL, if_neg (by omega), List.take_length, List.drop_length]
        rfl
    | succ m ih =>
      intro q k h1 h2 h3
      cases q with
      | zero => omega
      | succ q =>
        have hk : k < l.length := by omega
        obtain ⟨ht, hf⟩ := h.2.2 _ (List.getElem_mem hk)
        have hl : ((l.take k).map canonT).length = k := by simp; omega
        have hn := ih q (k + 1) (by omega) (by omega) (by omega)
        rw [take_next hk] at hn
        rw [cloop_succ]
        show L _ _ (k : Int) = _
        rw [hL, if_pos (by omega), at?_get hk, ob_some, wk_succ (by omega), List.drop_eq_getElem_cons hk]
        unfold badV
        by_cases h0 : l[k].fType = 0
        · rw [if_pos h0, Canon_spec ht hf.2.1, ob_some, chk_pos (by rw [hl]; omega), if_pos (.inl h0)]
          exact hn
        · rw [if_neg h0, Check_spec ht.small hf, ob_some]
          by_cases hc : checkV l[k] = 0
          · rw [if_pos hc, Canon_spec ht hf.2.1, ob_some, chk_pos (by rw [hl]; omega), if_pos (.inr hc)]
            exact hn
          · rw [if_neg hc, if_neg (fun hh => hh.elim h0 hc)]
  exact key l.length fu 0 (by omega) (by omega) h.2.1
end Go.Av
set_option linter.unusedVariables false
namespace Go.Av
theorem refSizeW_spec {fu : Nat} {l : List Int} (hp : ∀ x ∈ l, 1 ≤ x ∧ x ≤ 4096) (hl : l.length ≤ 8) (hf : l.length < fu) : ref04_Size.W1 fu l 1 0 = some (if prod l ≤ 4096 then (prod l, 0) else (0, 4)) := by
  unfold ref04_Size.W1
  refine (cloop_ind (fun (s : Int × Int) => some (if s.1 * prod (l.drop s.2.toNat) ≤ 4096 then (s.1 * prod (l.drop s.2.toNat), 0) else (0, 4))) (fun s => 0 ≤ s.2 ∧ s.2 ≤ l.length ∧ 1 ≤ s.1 ∧ s.1 ≤ 4096) (fun s => l.length - s.2.toNat) ?_ fu (1, 0) (by simp) (by simp; omega)).trans (by simp)
  rintro ⟨m, i⟩ ⟨h0, h1, h2, h3⟩ next hn
  simp only at h0 h1 h2 h3 hn ⊢
  obtain ⟨k, rfl⟩ := Int.eq_ofNat_of_zero_le h0
  unfold ref04_Size.L1 ref04_Size.k2; try unfold jn
  simp only [Int.toNat_natCast]
  by_cases hk : k < l.length
  · obtain ⟨q1, q2⟩ := hp _ (List.getElem_mem hk)
    have hge : 1 ≤ m * l[k] := by have := Int.mul_le_mul h2 q1 (by decide) (by omega); simpa using this
    have hle : m * l[k] ≤ 4096 * 4096 := Int.mul_le_mul h3 q2 (by omega) (by decide)
    rw [if_pos (by omega), at?_get hk, ob_some, if_neg (by omega), ob_some, wk_eq (x := m * l[k]) (by omega) (by omega), List.drop_eq_getElem_cons hk]
    have hpos : 1 ≤ prod (l.drop (k + 1)) := prod_pos fun x hx => (hp x (List.mem_of_mem_drop hx)).1
    simp only [prod, ← Int.mul_assoc]
    by_cases hd : 4096 < m * l[k]
    · rw [if_pos hd]
      have : m * l[k] * 1 ≤ m * l[k] * prod (l.drop (k + 1)) := Int.mul_le_mul_of_nonneg_left hpos (by omega)
      rw [if_neg (by omega)]
    · rw [if_neg hd]
      rw [wk_succ (by omega), hn (m * l[k], ((k + 1 : Nat) : Int)) ⟨by simp only []; omega, by simp only []; omega, hge, by simp only []; omega⟩ (by simp; omega)]
      simp
  · rw [if_neg (by omega), List.drop_of_length_le (by omega)]
    simp only [prod, Int.mul_one]
    rw [if_pos h3]
theorem refSize_spec {fu : Nat} {l : List Int} (hl : Short l) (hf : l.length < fu) : ref04_Size fu l = some (sizeV l) := by
  unfold ref04_Size ref04_Size.W2; try unfold jn
  refine (cloop_ind (fun (s : Bool × Bool × Int) => cond ((l.drop s.2.2.toNat).any (fun x => decide (x < 0))) (some (0, 1)) (ref04_Size.k1 fu l (s.1 || (l.drop s.2.2.toNat).any (fun x => decide (x = 0))) (s.2.1 || (l.drop s.2.2.toNat).any (fun x => decide (4096 < x))))) (fun s => 0 ≤ s.2.2 ∧ s.2.2 ≤ l.length) (fun s => l.length - s.2.2.toNat) ?_ fu _ (by simp) (by simp; omega)).trans ?_
  · rintro ⟨z, b, i⟩ ⟨h0, h1⟩ next hn
    simp only at h0 h1 hn ⊢
    obtain ⟨k, rfl⟩ := Int.eq_ofNat_of_zero_le h0
    unfold ref04_Size.L2; try unfold jn
    simp only [Int.toNat_natCast]
    by_cases hk : k < l.length
    · rw [if_pos (by omega), at?_get hk, ob_some, List.drop_eq_getElem_cons hk]
      simp only [List.any_cons]
      by_cases h2 : l[k] < 0
      · rw [if_pos h2]; simp [h2]
      · rw [if_neg h2]
        have hx := fun z' b' => hn (z', b', ((k + 1 : Nat) : Int)) (by simp only []; omega) (by simp; omega)
        simp only [Int.toNat_natCast] at hx
        have hz : (if z = true then ref04_Size.k3 fu (fun x13 x14 x15 => next (x13, x14, x15)) b (k : Int) l[k] true else ref04_Size.k3 fu (fun x13 x14 x15 => next (x13, x14, x15)) b (k : Int) l[k] (decide (l[k] = 0))) = next (z || decide (l[k] = 0), b || decide (4096 < l[k]), wk .i64 ((k : Int) + 1)) := by
          unfold ref04_Size.k3
          cases z <;> cases b <;> simp
        rw [hz, wk_succ (by unfold Short at hl; omega), hx]
        simp only [Bool.or_assoc]
        simp [h2]
    · rw [if_neg (by omega), List.drop_of_length_le (by omega)]
      simp
  · simp only [Int.toNat_zero, List.drop_zero, Bool.false_or]
    by_cases h1 : l.any (fun x => decide (x < 0)) = true
    · rw [h1, cond_true]
      have hg : ¬ Good l := fun hg => by
        obtain ⟨x, hx, hx2⟩ := List.any_eq_true.1 h1
        have := (hg.2.1 x hx).1
        simp at hx2; omega
      simp only [sizeV, if_neg hg, errS, if_pos h1]
    have h1' : l.any (fun x => decide (x < 0)) = false := by simpa using h1
    rw [h1', cond_false]
    have he : errS l = 4 := by simp only [errS, if_neg h1]
    unfold ref04_Size.k1
    by_cases h2 : (decide (8 < (l.length : Int)) || l.any fun x => decide (4096 < x)) = true
    · rw [if_pos h2]
      have hg : ¬ Good l := fun hg => by
        rcases Bool.or_eq_true_iff.1 h2 with h3 | h3
        · have := hg.1; simp at h3; omega
        · obtain ⟨x, hx, hx2⟩ := List.any_eq_true.1 h3
          have := (hg.2.1 x hx).2
          simp at hx2; omega
      simp only [sizeV, if_neg hg, he]
    rw [if_neg h2]
    simp only [Bool.or_eq_true, decide_eq_true_eq, List.any_eq_true, not_or, not_exists, not_and] at h1 h2
    have hr : Rng l := fun x hx => by have := h1 x hx; have := h2.2 x hx; omega
    by_cases h4 : (l.any fun x => decide (x = 0)) = true
    · rw [if_pos h4]
      have hz : (0 : Int) ∈ l := by
        obtain ⟨x, hx, hx2⟩ := List.any_eq_true.1 h4
        simp at hx2; subst hx2; exact hx
      have hg : Good l := ⟨by omega, hr, by rw [prod_zero hz]; decide⟩
      simp only [sizeV, if_pos hg, prod_zero hz]
    rw [if_neg h4]
    have hp : ∀ x ∈ l, 1 ≤ x ∧ x ≤ 4096 := fun x hx => by
      have := hr x hx
      simp only [List.any_eq_true, decide_eq_true_eq, not_exists, not_and] at h4
      have := h4 x hx; omega
    rw [refSizeW_spec hp (by omega) hf]
    by_cases h5 : prod l ≤ 4096
    · have hg : Good l := ⟨by omega, hr, h5⟩
      simp only [sizeV, if_pos hg, if_pos h5]
    · have hg : ¬ Good l := fun hg => h5 hg.2.2
      simp only [sizeV, if_neg hg, if_neg h5, he]
theorem refKnown_spec {fu : Nat} {k : Int} : ref05_Known fu k = some (decide (k = 1 ∨ k = 7 ∨ k = 9)) := by
  unfold ref05_Known
  by_cases h1 : k = 1
  · simp [h1]
  · by_cases h2 : k = 7
    · simp [h2]
    · by_cases h3 : k = 9 <;> simp [h1, h2, h3]
theorem refCheck_spec {fu : Nat} {t : T_Tensor} (hs : Small t) (hf : Fuel fu t) : ref05_Check fu t = some (checkV t) := by
  obtain ⟨s1, s2, s3, s4⟩ := hs
  unfold ref05_Check checkV; try unfold jn
  rw [refKnown_spec, ob_some, refSize_spec (by unfold Short; omega) hf.1]
  by_cases hk : Known t.fType
  · rw [if_pos (by simpa [Known] using hk), ob_some, if_pos hk]
    simp only [sizeV]
    by_cases hg : Good t.fDims
    · simp only [if_pos hg, if_true]
      unfold ref05_Check.k1 LensOK
      have key : ∀ a b c : Int, (if (t.fF.length : Int) = a then (if (t.fI.length : Int) = b then (if (t.fB.length : Int) = c then (some 0 : Option Int) else some 3) else some 3) else some 3) = some (if (t.fF.length : Int) = a ∧ (t.fI.length : Int) = b ∧ (t.fB.length : Int) = c then 0 else 3) := fun a b c => by
        by_cases h1 : (t.fF.length : Int) = a <;> by_cases h2 : (t.fI.length : Int) = b <;> by_cases h3 : (t.fB.length : Int) = c <;> simp [h1, h2, h3]
      rcases hk with e | e | e
      · simp only [e, show ¬ (1 : Int) = 7 by decide, show ¬ (1 : Int) = 9 by decide, if_false, if_true, key]
      · simp only [e, show ¬ (7 : Int) = 1 by decide, show ¬ (7 : Int) = 9 by decide, if_false, if_true, key]
      · simp only [e, show ¬ (9 : Int) = 1 by decide, show ¬ (9 : Int) = 7 by decide, if_false, if_true, key]
    · simp only [if_neg hg]
      rw [if_neg (errS_ne _)]
  · rw [if_neg (by simpa [Known] using hk), if_neg hk]
end Go.Av
set_option linter.unusedVariables false
namespace Go.Av
def newV (k : Int) (d : List Int) : T_Tensor × Int :=
  if k = 1 ∨ k = 7 ∨ k = 9 then (if Good d then (if k = 1 then (⟨k, d, List.replicate (prod d).toNat 0, [], []⟩, 0) else if k = 7 then (⟨k, d, [], List.replicate (prod d).toNat 0, []⟩, 0) else (⟨k, d, [], [], List.replicate (prod d).toNat false⟩, 0)) else (noT, errS d)) else (noT, 5)
theorem New_spec {fu : Nat} {k : Int} {d : List Int} (hd : Short d) (hf : d.length < fu) : tens_New fu k d = some (newV k d) := by
  unfold tens_New newV
  rw [known_spec, ob_some, Size_spec hd hf, ob_some]
  by_cases hk : k = 1 ∨ k = 7 ∨ k = 9
  · rw [if_pos (by simpa using hk), if_pos hk]
    simp only [sizeV]
    by_cases hg : Good d
    · simp only [if_pos hg, if_true]
      have h1 := prod_nonneg hg.2.1
      have h2 := hg.2.2
      have h3 := hg.1
      unfold slices_Clone_int
      rw [chk_pos (by omega), ob_some, chk_pos (by omega), chk_pos (by omega), chk_pos (by omega)]
      by_cases e1 : k = 1
      · rw [if_pos e1, if_pos e1]
      · rw [if_neg e1, if_neg e1]
        by_cases e2 : k = 7
        · rw [if_pos e2, if_pos e2]
        · rw [if_neg e2, if_neg e2]
    · simp only [if_neg hg]
      rw [if_neg (errS_ne d)]
      rfl
  · rw [if_neg (by simpa using hk), if_neg hk]
    rfl
end Go.Av
set_option linter.unusedVariables false
namespace Go.Av
def axisV (a : Int) (n : Nat) : Option Int := if 0 ≤ a then (if a < n then some a else none) else if -(n : Int) ≤ a then some (n + a) else none
theorem Axis_spec {fu : Nat} {a : Int} {n : Nat} (hn : n ≤ 100) : shape_Axis fu a (n : Int) = some (match axisV a n with | some k => (k, 0) | none => (0, 2)) := by
  unfold shape_Axis axisV
  rw [if_neg (by omega), wk_eq (x := 0 - (n : Int)) (by omega) (by omega)]
  by_cases h : 0 ≤ a
  · rw [if_pos h, if_pos h]
    by_cases h1 : a < n
    · rw [if_pos h1, if_pos h1]
    · rw [if_neg h1, if_neg h1]
  · rw [if_neg h, if_neg h]
    by_cases h1 : 0 - (n : Int) ≤ a
    · rw [if_pos h1, if_pos (show -(n : Int) ≤ a by omega), wk_eq (by omega) (by omega)]
    · rw [if_neg h1, if_neg (show ¬ -(n : Int) ≤ a by omega)]
theorem axisV_rng {a : Int} {n : Nat} {k : Int} (h : axisV a n = some k) : 0 ≤ k ∧ k < n := by
  unfold axisV at h
  split at h
  · split at h
    · injection h with h; omega
    · cases h
  · split at h
    · injection h with h; omega
    · cases h
section
variable {fu : Nat}
end
def axesV (n : Nat) : List Int → List Bool → Bool → List Bool × Int
  | [], m, tw => if tw = true then ([], 1) else (m, 0)
  | a :: l, m, tw => match axisV a n with
    | some k => axesV n l (m.set k.toNat true) (tw || m.getD k.toNat false)
    | none => ([], 2)
theorem Axes_spec {fu : Nat} {p : List Int} {n : Nat} (hn : n ≤ 8) (hl : p.length ≤ 140737488351232) (hf : p.length < fu) : shape_Axes fu p (n : Int) = some (axesV n p (List.replicate n false) false) := by
  unfold shape_Axes jn
  rw [if_neg (by omega), if_neg (by omega)]
  unfold shape_Axes.k1 jn
  rw [chk_pos (by omega), Int.toNat_natCast]
  unfold shape_Axes.W1
  refine (cloop_ind (fun (s : List Bool × Bool × Int) => some (axesV n (p.drop s.2.2.toNat) s.1 s.2.1)) (fun s => 0 ≤ s.2.2 ∧ s.2.2 ≤ p.length ∧ s.1.length = n) (fun s => p.length - s.2.2.toNat) ?_ fu _ (by simp) (by simp; omega)).trans (by simp)
  rintro ⟨m, tw, i⟩ ⟨h0, h1, h2⟩ next hn2
  simp only at h0 h1 h2 hn2 ⊢
  obtain ⟨k, rfl⟩ := Int.eq_ofNat_of_zero_le h0
  unfold shape_Axes.L1
  simp only [Int.toNat_natCast]
  by_cases hk : k < p.length
  · rw [if_pos (by omega), at?_get hk, ob_some, Axis_spec (by omega), ob_some, List.drop_eq_getElem_cons hk, wk_succ (by omega)]
    conv => rhs; unfold axesV
    cases hv : axisV p[k] n with
    | none => simp only; rw [if_neg (by decide)]
    | some a =>
      obtain ⟨a0, a1⟩ := axisV_rng hv
      simp only
      rw [if_pos trivial]
      have hn3 := fun b => hn2 (m.set a.toNat true, b, ((k + 1 : Nat) : Int)) ⟨by simp only []; omega, by simp only []; omega, by simp [h2]⟩ (by simp; omega)
      simp only [Int.toNat_natCast] at hn3
      obtain ⟨j, rfl⟩ := Int.eq_ofNat_of_zero_le a0
      cases tw with
      | true => rw [if_pos rfl, chk_pos (by omega), hn3, Bool.true_or]
      | false =>
        rw [if_neg (by decide), at?_get (by omega), ob_some, chk_pos (by omega), hn3, Bool.false_or, Int.toNat_natCast, List.getD_eq_getElem?_getD, List.getElem?_eq_getElem (by omega)]
        rfl
  · rw [if_neg (by omega), List.drop_of_length_le (by omega)]
    unfold shape_Axes.k2 axesV
    cases tw <;> rfl
end Go.Av
set_option linter.unusedVariables false
namespace Go.Av
section
variable {fu : Nat} {s : T_Setting} {v : T_Val} {n : Nat}
theorem has_0 : infer_ask_has fu ⟨70, s, [v], 1⟩ 0 = some (!(decide (v.fType = 0))) := rfl
theorem val_0 : infer_ask_val fu ⟨70, s, [v], 1⟩ 0 = some v := rfl
theorem complete_r (h7 : v.fType = 7) : infer_ask_complete (fu + 2) ⟨70, s, [v], 1⟩ = some true := by
  have h : infer_ask_complete (fu + 2) ⟨70, s, [v], 1⟩ = infer_ask_complete.W1 (fu + 2) ⟨70, s, [v], 1⟩ (1, 1, 1, 1) 0 := rfl
  rw [h]
  unfold infer_ask_complete.W1
  rw [cloop_succ, infer_ask_complete.L1, if_pos (by decide)]
  show (infer_ask_has (fu + 2) ⟨70, s, [v], 1⟩ 0).bind _ = _
  rw [has_0, ob_some, if_pos (by simp [h7]), cloop_succ, show wk .i64 (0 + 1) = 1 from rfl, infer_ask_complete.L1, if_neg (by decide)]
theorem typed_r (h7 : v.fType = 7) : infer_ask_typed (fu + 2) ⟨70, s, [v], 1⟩ = some true := by
  have h : infer_ask_typed (fu + 2) ⟨70, s, [v], 1⟩ = infer_ask_typed.W1 (fu + 2) ⟨70, s, [v], 1⟩ ⟨#[110]⟩ 0 := rfl
  rw [h]
  unfold infer_ask_typed.W1
  rw [cloop_succ, infer_ask_typed.L1, if_pos (by simp)]
  show (infer_ask_has (fu + 2) ⟨70, s, [v], 1⟩ 0).bind _ = _
  rw [has_0, ob_some, if_pos (by simp [h7])]
  show (infer_ask_val (fu + 2) ⟨70, s, [v], 1⟩ 0).bind _ = _
  have hw : tens_Width (fu + 2) v.fType = some 8 := by rw [h7]; rfl
  rw [val_0, ob_some, hw, ob_some, if_neg (by decide)]
  show (some 110 : Option Int).bind _ = _
  rw [ob_some]
  have hf : infer_ask_fits (fu + 2) ⟨70, s, [v], 1⟩ 0 110 = if v.fType = 1 then some true else some (decide (v.fType = 7)) := rfl
  show (infer_ask_fits (fu + 2) ⟨70, s, [v], 1⟩ 0 110).bind _ = _
  rw [hf, h7, if_neg (by decide), ob_some, if_pos (by simp), cloop_succ, show wk .i64 (0 + 1) = 1 from rfl, infer_ask_typed.L1, if_neg (by simp)]
  rfl
theorem attr_r (ha : s.fAxis = 0) (hd : v.fDims = [(n : Int)]) : infer_ask_attributes fu ⟨70, s, [v], 1⟩ = some true := by
  have h : infer_ask_attributes fu ⟨70, s, [v], 1⟩ = (shape_Axis fu s.fAxis (v.fDims.length : Int)).bind fun x3 => some (decide (x3.2 = 0)) := rfl
  rw [h, ha, hd]
  rfl
theorem good_n (hn : n ≤ 4096) : Good [(n : Int)] := ⟨by simp, fun z hz => by simp at hz; omega, by simp [prod]; omega⟩
theorem wrong_r (h7 : v.fType = 7) (ha : s.fAxis = 0) (hd : v.fDims = [(n : Int)]) (hn : n ≤ 4096) (hf : 20 < fu) : infer_ask_wrong (fu + 2) ⟨70, s, [v], 1⟩ = some 0 := by
  have hg := good_n hn
  have h : infer_ask_wrong (fu + 2) ⟨70, s, [v], 1⟩ = infer_ask_wrong.W1 (fu + 2) ⟨70, s, [v], 1⟩ 0 := rfl
  rw [h]
  unfold infer_ask_wrong.W1
  rw [cloop_succ, infer_ask_wrong.L1, if_pos (by simp)]
  show (some v).bind _ = _
  rw [ob_some, hd, Size_spec (by simp [Short]) (by show 1 < fu + 2; omega), ob_some]
  show (infer_ask_has (fu + 2) ⟨70, s, [v], 1⟩ 0).bind _ = _
  rw [has_0, ob_some, if_pos (by simp [h7]), sizeV, if_pos hg, if_pos rfl, cloop_succ, show wk .i64 (0 + 1) = 1 from rfl, infer_ask_wrong.L1, if_neg (by simp)]
  have e : infer_ask_wrong.k1 (fu + 2) ⟨70, s, [v], 1⟩ = (infer_ask_typed (fu + 2) ⟨70, s, [v], 1⟩).bind fun x2 => if x2 = true then ((infer_ask_attributes (fu + 2) ⟨70, s, [v], 1⟩).bind fun x3 => if x3 = true then ((infer_ask_told (fu + 2) ⟨70, s, [v], 1⟩).bind fun x4 => some x4) else some 14) else some 5 := rfl
  rw [e, typed_r h7, ob_some, if_pos rfl, attr_r ha hd, ob_some, if_pos rfl]
  rfl
theorem axes_1 (hf : 20 < fu) : shape_Axes fu [0] 1 = some ([true], 0) := Axes_spec (p := [0]) (n := 1) (by omega) (by simp) (by simp; omega)
theorem reduced_r (ha : s.fAxis = 0) (hk : s.fKeep = false) (hd : v.fDims = [(n : Int)]) (h0 : n ≠ 0) (hf : 20 < fu) : infer_ask_reduced (fu + 2) ⟨70, s, [v], 1⟩ = some ([[]], 0) := by
  have ho : infer_ask_over (fu + 2) ⟨70, s, [v], 1⟩ = (shape_Axes (fu + 2) ([s.fAxis]) (v.fDims.length : Int)).bind fun x3 => some (x3.1, x3.2) := rfl
  have h : infer_ask_reduced (fu + 2) ⟨70, s, [v], 1⟩ = (infer_ask_over (fu + 2) ⟨70, s, [v], 1⟩).bind fun x2 => if x2.2 = 0 then infer_ask_reduced.W1 (fu + 2) x2 v.fDims s.fKeep ([] : List Int) 0 else (infer_misfit (fu + 2)).bind fun x19 => some (x19.1, x19.2) := rfl
  have ho1 : infer_ask_over (fu + 2) ⟨70, s, [v], 1⟩ = some ([true], 0) := by
    rw [ho, ha, hd]
    show (shape_Axes (fu + 2) [0] 1).bind _ = _
    rw [axes_1 (by omega)]; rfl
  rw [h, ho1, ob_some, if_pos rfl, hk, hd]
  unfold infer_ask_reduced.W1
  rw [cloop_succ]
  show infer_ask_reduced.L1 (fu + 2) ([true], 0) [(n : Int)] _ false [] 0 = _
  rw [infer_ask_reduced.L1, if_pos (by simp)]
  show (some (n : Int)).bind _ = _
  rw [ob_some]
  show (some true).bind _ = _
  rw [ob_some, if_pos rfl, if_neg (by omega), if_neg (by simp), cloop_succ]
  rfl
def outV (k : Int) (d : List Int) : T_Val := ⟨k, d, false, ⟨0, [], [], [], []⟩⟩
theorem Node_r (h7 : v.fType = 7) (ha : s.fAxis = 0) (hk : s.fKeep = false) (hd : v.fDims = [(n : Int)]) (h0 : n ≠ 0) (hn : n ≤ 4096) (hf : 100 < fu) : infer_Node (fu + 4) 70 s [v] 1 = some ([outV 7 []], 0) := by
  have h : infer_Node (fu + 4) 70 s [v] 1 = (infer_ask_complete (fu + 4) ⟨70, s, [v], 1⟩).bind fun x5 => if x5 = true then ((infer_ask_wrong (fu + 4) ⟨70, s, [v], 1⟩).bind fun x6 => if x6 = 0 then
    ((((infer_ask_reduced (fu + 4) ⟨70, s, [v], 1⟩).bind fun x3 => some (x3.1, x3.2))).bind fun x7 => if x7.2 = 0 then (infer_Node.W1 (fu + 4) s [v] 1 x7 ([] : List T_Val) 0) else some ([], x7.2)) else some ([], x6)) else some ([], 1) := rfl
  rw [h, complete_r (fu := fu + 2) h7, ob_some, if_pos rfl, wrong_r (fu := fu + 2) h7 ha hd hn (by omega), ob_some, if_pos rfl, reduced_r (fu := fu + 2) ha hk hd h0 (by omega), ob_some, ob_some, if_pos rfl]
  unfold infer_Node.W1
  rw [cloop_succ]
  show infer_Node.L1 (fu + 4) s [v] 1 ([[]], 0) _ [] 0 = _
  rw [infer_Node.L1, if_pos (show (0 : Int) < ((([[]], 0) : List (List Int) × Int).1.length : Int) by simp)]
  show (some ([] : List Int)).bind _ = _
  have ho : infer_ask_out (fu + 4) (T_infer_ask.mk 70 s [v] 1) = some 7 := rfl
  have hs : shape_Size (fu + 4) [] = some (1, 0) := (Size_spec (by simp [Short]) (by simp)).trans (by unfold sizeV; rw [if_pos ⟨by simp, (by intro z hz; cases hz), by simp [prod]⟩]; rfl)
  rw [ob_some, hs, ob_some, if_pos rfl, ho, ob_some, Clone_spec (by simp), ob_some, chk_pos (by simp), cloop_succ]
  rfl
def seqI (n : Nat) : List Int := (List.range n).map fun i : Nat => (i : Int)
theorem seqI_length : (seqI n).length = n := by simp [seqI]
theorem seqI_succ : seqI (n + 1) = seqI n ++ [(n : Int)] := by simp [seqI, List.range_succ]
theorem seqI_get {i : Nat} (h : i < n) : at? (seqI n) (i : Int) = some (i : Int) := by
  rw [at?_nat]; simp [seqI, h]
theorem places_0 : reduce_places (fu + 1) [] [] = some [0] := rfl
theorem places_1 (hn : n ≤ 4096) (hf : 5000 < fu) : reduce_places fu [(n : Int)] [1] = some (seqI n) := by
  obtain ⟨f, rfl⟩ : ∃ f, fu = f + 2 := ⟨fu - 2, by omega⟩
  unfold reduce_places reduce_places.W1
  rw [cloop_succ]
  show reduce_places.L1 (f + 2) [(n : Int)] [1] _ [0] 0 = _
  rw [reduce_places.L1, if_pos (by simp)]
  show (some (n : Int)).bind _ = _
  rw [ob_some]
  unfold reduce_places.W2
  rw [cloop_succ]
  show reduce_places.L2 (f + 2) _ [1] [0] 0 (n : Int) _ [] 0 = _
  rw [reduce_places.L2, if_pos (by simp)]
  show (some (0 : Int)).bind _ = _
  rw [ob_some]
  unfold reduce_places.W3
  refine cloop_up n (fun i : Nat => seqI i) _ ?_ ?_ (by omega)
  · intro k hk next hn2
    show reduce_places.L3 (f + 2) _ [1] 0 (n : Int) 0 0 _ (seqI k) (k : Int) = _
    rw [reduce_places.L3, if_pos (by omega)]
    show (some (1 : Int)).bind _ = _
    rw [ob_some, seqI_length, chk_pos (by omega), wk_succ (by omega), wk_eq (x := (k : Int) * 1) (by omega) (by omega), wk_eq (by omega) (by omega)]
    rw [seqI_succ] at hn2
    rw [show (0 : Int) + (k : Int) * 1 = k by omega]
    exact hn2
  · intro next
    show reduce_places.L3 (f + 2) _ [1] 0 (n : Int) 0 0 _ (seqI n) (n : Int) = _
    rw [reduce_places.L3, if_neg (by omega)]
    rw [cloop_succ]
    show reduce_places.L2 (f + 2) _ [1] [0] 0 (n : Int) _ (seqI n) 1 = _
    rw [reduce_places.L2, if_neg (by simp)]
    rw [cloop_succ]
    show reduce_places.L1 (f + 2) [(n : Int)] [1] _ (seqI n) 1 = _
    rw [reduce_places.L1, if_neg (by simp)]
end
end Go.Av
set_option linter.unusedVariables false
namespace Go.Av
section
variable {fu : Nat} {s : T_Setting} {I : List Int}
def rowT (I : List Int) : T_Tensor := ⟨7, [(I.length : Int)], [], I, []⟩
def iG (I : List Int) (k : Nat) : Int := I.getD k 0
theorem iG_get {k : Nat} (h : k < I.length) : at? I (k : Int) = some (iG I k) := by
  rw [at?_get h]; simp [iG, h]
def beatV (last : Bool) (a b : Int) : Bool := decide (b < a) || (decide (a = b) && last)
def bestN (last : Bool) (I : List Int) : Nat → Nat
  | 0 => 0
  | k + 1 => if 0 < k ∧ beatV last (iG I k) (iG I (bestN last I k)) = true then k else bestN last I k
theorem best_ok {last : Bool} : ∀ k : Nat, 0 < k → bestN last I k < k ∧ ∀ i, i < k → iG I i ≤ iG I (bestN last I k) ∧ (iG I i = iG I (bestN last I k) → if last = true then i ≤ bestN last I k else bestN last I k ≤ i)
  | 0, h => absurd h (by omega)
  | k + 1, _ => by
    by_cases hk : 0 < k
    · obtain ⟨h1, h2⟩ := best_ok (last := last) k hk
      unfold bestN
      by_cases hb : beatV last (iG I k) (iG I (bestN last I k)) = true
      · rw [if_pos ⟨hk, hb⟩]
        refine ⟨by omega, fun i hi => ?_⟩
        simp only [beatV, Bool.or_eq_true, Bool.and_eq_true, decide_eq_true_eq] at hb
        by_cases hik : i = k
        · subst hik
          exact ⟨by omega, fun _ => by split <;> omega⟩
        · obtain ⟨h3, h4⟩ := h2 i (by omega)
          rcases hb with hb | ⟨hb, hl⟩
          · exact ⟨by omega, fun h => by omega⟩
          · subst hl
            exact ⟨by omega, fun h => by rw [if_pos rfl]; omega⟩
      · rw [if_neg (fun h => hb h.2)]
        refine ⟨by omega, fun i hi => ?_⟩
        simp only [beatV, Bool.or_eq_true, Bool.and_eq_true, decide_eq_true_eq, not_or, not_and] at hb
        by_cases hik : i = k
        · subst hik
          refine ⟨by omega, fun h => ?_⟩
          rw [if_neg (hb.2 h)]
          omega
        · exact h2 i (by omega)
    · obtain rfl : k = 0 := by omega
      have h0 : bestN last I (0 + 1) = 0 := if_neg (fun h => absurd h.1 (by omega))
      rw [h0]
      refine ⟨by omega, fun i hi => ?_⟩
      obtain rfl : i = 0 := by omega
      exact ⟨Int.le_refl _, fun _ => by split <;> omega⟩
theorem beats_spec {l : List T_Tensor} {o : T_Tensor} {i j : Nat} (hi : i < I.length) (hj : j < I.length) : reduce_work_beats fu ⟨70, s, l, rowT I, o⟩ (i : Int) (j : Int) = some (beatV s.fLast (iG I i) (iG I j)) := by
  have h : reduce_work_beats fu ⟨70, s, l, rowT I, o⟩ (i : Int) (j : Int) = (at? I (i : Int)).bind fun x4 => (at? I (j : Int)).bind fun x5 => reduce_work_beats.k1 fu ⟨70, s, l, rowT I, o⟩ x4 x5 := rfl
  rw [h, iG_get hi, ob_some, iG_get hj, ob_some]
  unfold reduce_work_beats.k1 jn reduce_work_beats.k2 beatV
  by_cases h1 : iG I j < iG I i
  · rw [if_pos h1]; simp [h1]
  · rw [if_neg h1]
    by_cases h2 : iG I i = iG I j
    · rw [if_pos h2]; simp [h2]
    · rw [if_neg h2]; simp [h1, h2]
theorem row_id {n : Nat} (hn : n ≤ 4096) : rowL (seqI n) 0 = seqI n := by
  unfold rowL
  refine List.ext_getElem (by simp) fun k h1 h2 => ?_
  simp only [seqI, List.map_map, List.getElem_map, List.getElem_range, Function.comp]
  simp [seqI] at h2
  rw [wk_eq (by omega) (by omega)]; omega
theorem arg_loop {nr : List Int → Option (T_Tensor × Int)} {x10 : T_Tensor × Int} {r : List Int} {l : List T_Tensor} (h0 : I ≠ []) (hn : I.length ≤ 4096) (hf : 5000 < fu) (h1 : x10.1.fI.length = r.length) (hr : r.length = 1) :
    reduce_Do.R1 fu s l (rowT I) x10 nr 0 (seqI I.length) r = nr (r.set 0 (bestN s.fLast I I.length : Nat)) := by
  have hpos : 0 < I.length := List.length_pos_iff.2 h0
  unfold reduce_Do.R1 jn reduce_Do.W1
  rw [chk_pos h1]
  refine cloop_up (body := fun next s1 => reduce_Do.L1 fu nr s l (rowT I) x10 r 0 (seqI I.length) (fun x53 x54 => next (x53, x54)) s1.1 s1.2) I.length (fun j => ((bestN s.fLast I j : Nat) : Int)) _ ?_ ?_ (by omega)
  · intro k hk next hn2
    show reduce_Do.L1 fu nr s l (rowT I) x10 r 0 (seqI I.length) _ ((bestN s.fLast I k : Nat) : Int) (k : Int) = _
    have hb : bestN s.fLast I k < I.length := by
      by_cases hk0 : 0 < k
      · have := (best_ok (last := s.fLast) (I := I) k hk0).1; omega
      · obtain rfl : k = 0 := by omega
        unfold bestN; omega
    rw [show bestN s.fLast I (k + 1) = if 0 < k ∧ beatV s.fLast (iG I k) (iG I (bestN s.fLast I k)) = true then k else bestN s.fLast I k from rfl] at hn2
    unfold reduce_Do.L1
    rw [if_pos (by rw [seqI_length]; omega), wk_succ (by omega)]
    by_cases hk0 : 0 < k
    · rw [if_pos (by omega), seqI_get hk, ob_some, seqI_get hb, ob_some, beats_spec hk hb, ob_some]
      by_cases hbt : beatV s.fLast (iG I k) (iG I (bestN s.fLast I k)) = true
      · rw [if_pos hbt]
        rw [if_pos ⟨hk0, hbt⟩] at hn2
        exact hn2
      · rw [if_neg hbt]
        rw [if_neg (fun h => hbt h.2)] at hn2
        exact hn2
    · rw [if_neg (by omega)]
      rw [if_neg (fun h => hk0 h.1)] at hn2
      exact hn2
  · intro next
    show reduce_Do.L1 fu nr s l (rowT I) x10 r 0 (seqI I.length) _ ((bestN s.fLast I I.length : Nat) : Int) (I.length : Int) = _
    unfold reduce_Do.L1
    rw [if_neg (by rw [seqI_length]; omega)]
    unfold reduce_Do.k3
    rw [chk_pos (by omega)]
    rfl
theorem rowT_ten (hn : I.length ≤ 4096) : Ten (rowT I) := ⟨by simp [rowT], by simp [rowT], by show I.length * 8 ≤ _; omega, by simp [rowT], fun x hx => by cases hx⟩
theorem rowT_fuel (hn : I.length ≤ 4096) (hf : 5000 < fu) : Fuel fu (rowT I) := ⟨by show 1 < fu; omega, by show 0 < fu; omega, by show I.length < fu; omega, by show 0 < fu; omega⟩
theorem rowT_check (hn : I.length ≤ 4096) : checkV (rowT I) = 0 := checkV_zero.2 ⟨.inr (.inl rfl), good_n hn, by simp [LensOK, prod, rowT]⟩
theorem Do_arg (h0 : I ≠ []) (hn : I.length ≤ 4096) (ha : s.fAxis = 0) (hk : s.fKeep = false) (hf : 6000 < fu) : reduce_Do fu 70 s [rowT I] = some (⟨7, [], [], [((bestN s.fLast I I.length : Nat) : Int)], []⟩, 0) := by
  obtain ⟨f, rfl⟩ : ∃ f, fu = f + 4 := ⟨fu - 4, by omega⟩
  have hlen : I.length ≠ 0 := fun h => h0 (List.length_eq_zero_iff.1 h)
  have ht := rowT_ten hn
  have hft := rowT_fuel (fu := f + 4) hn (by omega)
  have hc := rowT_check hn
  have hT : Tens (f + 4) [rowT I] := ⟨by simp, by show 1 < f + 4; omega, fun z hz => by
    simp at hz; subst hz; exact ⟨ht, hft⟩⟩
  have e : reduce_Do (f + 4) 70 s [rowT I] = reduce_Do.W3 (f + 4) s [rowT I] [] 0 := rfl
  have hb : badV [rowT I] = none := by unfold badV; rw [if_pos (.inr hc)]; rfl
  rw [e]
  unfold reduce_Do.W3
  rw [head_loop hT (L := reduce_Do.L3 (f + 4) s [rowT I]) (k1 := reduce_Do.k1 (f + 4) s [rowT I]) (er := fun e => some (noT, e)) (fun nx acc i => rfl), hb]
  show reduce_Do.k1 (f + 4) s [rowT I] [rowT I] = _
  unfold reduce_Do.k1
  rw [Vals_all hT, ob_some]
  show (infer_Node (f + 4) 70 s [valOf (rowT I)] 1).bind _ = _
  have hv : valOf (rowT I) = ⟨7, [(I.length : Int)], true, rowT I⟩ := if_neg (show ¬ (7 : Int) = 0 by decide)
  rw [Node_r (n := I.length) (by rw [hv]) ha hk (by rw [hv]) hlen hn (by omega), ob_some, if_pos rfl]
  show (some (rowT I)).bind _ = _
  rw [ob_some]
  show (some (outV 7 [])).bind _ = _
  rw [ob_some]
  have hnew : tens_New (f + 4) 7 [] = some (⟨7, [], [], [0], []⟩, 0) := (New_spec (by simp [Short]) (by simp)).trans (by
    have hg : Good [] := ⟨by simp, (by intro z hz; cases hz), by simp [prod]⟩
    unfold newV
    rw [if_pos (by decide), if_pos hg]
    rfl)
  show (tens_New (f + 4) 7 []).bind _ = _
  rw [hnew, ob_some]
  have hov : reduce_work_over (f + 4) (T_reduce_work.mk 70 s [rowT I] (rowT I) ⟨7, [], [], [0], []⟩) = some [true] := by
    have h : reduce_work_over (f + 4) (T_reduce_work.mk 70 s [rowT I] (rowT I) ⟨7, [], [], [0], []⟩) = (shape_Axes (f + 4) ([s.fAxis]) 1).bind fun x2 => some x2.1 := by
      unfold reduce_work_over jn reduce_work_over.k1
      rw [chk_pos rfl]
      simp only [rowT, List.length_cons, List.length_nil]
      rfl
    rw [h, ha, axes_1 (by omega)]; rfl
  have hst : shape_Strides (f + 4) [(I.length : Int)] = some ([1], 0) := by
    unfold shape_Strides
    rw [Size_spec (by simp [Short]) (by show 1 < f + 4; omega), ob_some, sizeV, if_pos (good_n hn), if_pos rfl, strides_spec (by simp) (by show 1 < f + 4; omega)]
    rfl
  rw [hov, ob_some]
  show (shape_Strides (f + 4) [(I.length : Int)]).bind _ = _
  rw [hst, ob_some]
  unfold jn reduce_Do.W2
  rw [cloop_succ]
  show reduce_Do.L2 (f + 4) s [rowT I] (rowT I) (⟨7, [], [], [0], []⟩, 0) [true] ([1], 0) _ [] [] [] [] 0 = _
  unfold reduce_Do.L2
  rw [if_pos (show (0 : Int) < (((rowT I).fDims.length : Nat) : Int) by simp [rowT])]
  show (some (I.length : Int)).bind _ = _
  rw [ob_some]
  show (some true).bind _ = _
  rw [ob_some, if_pos rfl, chk_pos (by simp)]
  show (some (1 : Int)).bind _ = _
  rw [ob_some, chk_pos (by simp)]
  show cloop _ (f + 3) ([(I.length : Int)], [], [1], [], 1) = _
  rw [cloop_succ]
  dsimp only
  rw [if_neg (show ¬ (1 : Int) < (((rowT I).fDims.length : Nat) : Int) by simp [rowT])]
  unfold reduce_Do.k2
  rw [places_1 hn (by omega), ob_some]
  have hr : reduce_rowsIt (f + 4) [] [] (seqI I.length) = some [(0, seqI I.length)] := by
    unfold reduce_rowsIt
    rw [places_0 (fu := f + 3), ob_some, chk_pos (by rw [seqI_length]; simp; omega)]
    simp only [rowsL, row_id hn]
    rfl
  rw [hr, ob_some]
  unfold lloop
  show reduce_Do.R1 (f + 4) s [rowT I] (rowT I) (⟨7, [], [], [0], []⟩, 0) _ 0 (seqI I.length) [0] = _
  rw [arg_loop h0 hn (by omega) rfl rfl]
  rfl
end
end Go.Av
