/- Numbers of words of 32 bits. The document's long numbers: without noughts at the end, compared. The document's long numbers: of a number, the sum. The document's long numbers: the difference. The document's long numbers: times two to the k. The document's long numbers: the product. The document's floats as long numbers. Amounts rise with the bits. The greatest bits whose amount, times q, is at most p. The nearest float by the document's search, reckoned from a number's highest bits. Shifts and masks of numbers from 0 on. The highest bit of a number. The document's rounding. The program's rounding is the document's. Floats taken apart; the product is the document's. The sum is the document's. The sum is the document's, whole. Conditions: those that each names. -/
import Derived.Test.YtebfneaimafcoaaGreatPl
import Derived.Test.YtebfneaimafcoaaGreatQS
set_option linter.unusedVariables false
namespace Go.Av.Rf
def val : List Int → Int
  | [] => 0
  | x :: l => x + 4294967296 * val l
def Wds (l : List Int) : Prop := ∀ x ∈ l, 0 ≤ x ∧ x < 4294967296
def dig (n : Nat) : List Int := if h : n = 0 then [] else ((n % 4294967296 : Nat) : Int) :: dig (n / 4294967296)
termination_by n
decreasing_by omega
theorem dig_zero : dig 0 = [] := by rw [dig]; simp
theorem dig_pos {n : Nat} (h : n ≠ 0) : dig n = ((n % 4294967296 : Nat) : Int) :: dig (n / 4294967296) := by
  conv => lhs; rw [dig]
  rw [dif_neg h]
theorem val_dig (n : Nat) : val (dig n) = n := by
  induction n using Nat.strongRecOn with
  | ind n ih =>
    by_cases h : n = 0
    · subst h; rw [dig_zero]; rfl
    · rw [dig_pos h, val, ih (n / 4294967296) (by omega)]
      omega
theorem dig_wds (n : Nat) : Wds (dig n) := by
  induction n using Nat.strongRecOn with
  | ind n ih =>
    by_cases h : n = 0
    · subst h; rw [dig_zero]; intro x hx; cases hx
    · rw [dig_pos h]
      intro x hx
      rcases List.mem_cons.1 hx with rfl | hx
      · omega
      · exact ih _ (by omega) x hx
theorem val_nonneg : ∀ {l : List Int}, Wds l → 0 ≤ val l
  | [], _ => Int.le_refl 0
  | x :: l, h => by
    have := val_nonneg (l := l) fun y hy => h y (by simp [hy])
    have := h x (by simp)
    simp only [val]; omega
def Top (l : List Int) : Prop := ∀ x, l.getLast? = some x → x ≠ 0
theorem dig_val : ∀ {l : List Int}, Wds l → Top l → dig (val l).toNat = l
  | [], _, _ => by simp [val, dig_zero]
  | x :: l, h, ht => by
    have hx := h x (by simp)
    have hw : Wds l := fun y hy => h y (by simp [hy])
    have h0 := val_nonneg hw
    have htl : Top l := fun y hy => ht y (by
      cases l with
      | nil => simp at hy
      | cons z l => rw [List.getLast?_cons_cons]; exact hy)
    have ih := dig_val hw htl
    have hpos : (val (x :: l)).toNat ≠ 0 := by
      simp only [val]
      cases l with
      | nil =>
        have := ht x (by simp)
        simp only [val]; omega
      | cons z l =>
        have : val (z :: l) ≠ 0 := fun e => by
          rw [e] at ih
          simp [dig_zero] at ih
        omega
    rw [dig_pos hpos]
    simp only [val]
    have e1 : (x + 4294967296 * val l).toNat % 4294967296 = x.toNat := by omega
    have e2 : (x + 4294967296 * val l).toNat / 4294967296 = (val l).toNat := by omega
    rw [e1, e2, ih]
    congr 1
    omega
theorem val_append : ∀ (a b : List Int), val (a ++ b) = val a + 4294967296 ^ a.length * val b
  | [], b => by simp [val]
  | x :: a, b => by
    simp only [List.cons_append, val, val_append a b, List.length_cons, Int.pow_succ, Int.mul_add]
    rw [show (4294967296 : Int) ^ a.length * 4294967296 * val b = 4294967296 * (4294967296 ^ a.length * val b) by rw [Int.mul_comm ((4294967296 : Int) ^ a.length) 4294967296, Int.mul_assoc]]
    omega
theorem val_lt : ∀ {l : List Int}, Wds l → val l < 4294967296 ^ l.length
  | [], _ => by simp [val]
  | x :: l, h => by
    have := val_lt (l := l) fun y hy => h y (by simp [hy])
    have := h x (by simp)
    simp only [val, List.length_cons, Int.pow_succ]; omega
theorem pow32_pos (k : Nat) : (0 : Int) < 4294967296 ^ k := Int.pow_pos (by decide)
theorem top_le {l : List Int} (h : Wds l) (ht : Top l) (hl : l ≠ []) : 4294967296 ^ (l.length - 1) ≤ val l := by
  obtain ⟨m, x, rfl⟩ : ∃ m x, l = m ++ [x] := ⟨l.dropLast, l.getLast hl, (List.dropLast_concat_getLast hl).symm⟩
  have hx := ht x (by simp)
  have hx2 := h x (by simp)
  have hm := val_nonneg (l := m) fun y hy => h y (by simp [hy])
  rw [val_append]
  simp only [val, List.length_append, List.length_singleton, Nat.add_sub_cancel, Int.mul_zero, Int.add_zero]
  have : (4294967296 : Int) ^ m.length * 1 ≤ 4294967296 ^ m.length * x := Int.mul_le_mul_of_nonneg_left (by omega) (Int.le_of_lt (pow32_pos _))
  omega
theorem val_set : ∀ (l : List Int) (i : Nat) (h : i < l.length) (y : Int), val (l.set i y) = val l + (y - l[i]) * 4294967296 ^ i
  | x :: l, 0, h, y => by simp [val]; omega
  | x :: l, i + 1, h, y => by
    have := val_set l i (by simpa using h) y
    simp only [List.set_cons_succ, val, this, List.getElem_cons_succ, Int.pow_succ, Int.mul_add]
    rw [show (y - l[i]'(by simpa using h)) * (4294967296 ^ i * 4294967296) = 4294967296 * ((y - l[i]'(by simpa using h)) * 4294967296 ^ i) by rw [← Int.mul_assoc, Int.mul_comm]]
    omega
end Go.Av.Rf
set_option linter.unusedVariables false
namespace Go.Av.Rf
theorem take_snoc {l : List Int} {k : Nat} (hk : k < l.length) : l.take (k + 1) = l.take k ++ [l[k]] := by
  rw [List.take_add_one, List.getElem?_eq_getElem hk]; rfl
theorem wds_take {l : List Int} (h : Wds l) (n : Nat) : Wds (l.take n) := fun x hx => h x (List.mem_of_mem_take hx)
theorem subN_zero {l : List Int} {n : Nat} : subN l 0 n = l.take n := by simp [subN]
theorem trim_spec {fu : Nat} {l : List Int} (hw : Wds l) (hl : l.length ≤ 1000000) (hf : l.length < fu) : ref01_trim fu l = some (dig (val l).toNat) := by
  unfold ref01_trim ref01_trim.W1
  refine cloop_ind (fun _ => some (dig (val l).toNat)) (fun (n : Int) => 0 ≤ n ∧ n ≤ l.length ∧ val (l.take n.toNat) = val l) (fun n => n.toNat) ?_ fu _ ⟨by omega, by omega, by simp⟩ (by simp; omega)
  rintro n ⟨h0, h1, h2⟩ next hn
  obtain ⟨k, rfl⟩ := Int.eq_ofNat_of_zero_le h0
  unfold ref01_trim.L1
  simp only [Int.toNat_natCast] at h2 hn ⊢
  by_cases hk : k = 0
  · subst hk
    rw [if_neg (by simp), chk_pos (by omega), subN_zero]
    rw [← h2]
    simp [val, dig_zero]
  · obtain ⟨m, rfl⟩ := Nat.exists_eq_succ_of_ne_zero hk
    have hm : m < l.length := by omega
    have e : wk .i64 (((m + 1 : Nat) : Int) - 1) = (m : Int) := by rw [wk_eq (by omega) (by omega)]; omega
    rw [if_pos (by omega), e, at?_get hm, ob_some]
    rw [take_snoc hm] at h2
    by_cases hz : l[m] = 0
    · rw [if_pos hz]
      refine hn _ ⟨by omega, by omega, ?_⟩ (by simp)
      rw [Int.toNat_natCast, ← h2, hz, val_append]
      simp [val]
    · rw [if_neg hz, chk_pos (by omega), subN_zero, take_snoc hm, ← h2]
      rw [dig_val]
      · rw [← take_snoc hm]; exact wds_take hw _
      · intro x hx
        rw [List.getLast?_concat] at hx
        injection hx with hx
        rw [← hx]
        exact hz
theorem dig_top (n : Nat) : Top (dig n) := by
  induction n using Nat.strongRecOn with
  | ind n ih =>
    by_cases h : n = 0
    · subst h; rw [dig_zero]; intro x hx; simp at hx
    · rw [dig_pos h]
      intro x hx
      cases hd : dig (n / 4294967296) with
      | nil =>
        rw [hd] at hx
        simp at hx
        have h2 : n / 4294967296 = 0 := by
          by_cases h3 : n / 4294967296 = 0
          · exact h3
          · rw [dig_pos h3] at hd; cases hd
        omega
      | cons y m =>
        rw [hd, List.getLast?_cons_cons] at hx
        exact ih (n / 4294967296) (by omega) x (by rw [hd]; exact hx)
def cmpZ (a b : Nat) : Int := if a < b then -1 else if b < a then 1 else 0
theorem cmp_drop {a b : List Int} {i : Nat} (h : a.drop i = b.drop i) (hi : i ≤ a.length) (hl : a.length = b.length) : val a - val b = val (a.take i) - val (b.take i) := by
  have e1 := val_append (a.take i) (a.drop i)
  have e2 := val_append (b.take i) (b.drop i)
  rw [List.take_append_drop] at e1 e2
  rw [e1, e2, h]
  have : (a.take i).length = (b.take i).length := by simp; omega
  rw [this]
  omega
theorem Compare_spec {fu : Nat} {a b : Nat} (hl : (dig a).length ≤ 1000000) (hf : (dig a).length < fu) : ref01_Compare fu (dig a) (dig b) = some (cmpZ a b) := by
  have va := val_dig a
  have vb := val_dig b
  have wa := dig_wds a
  have wb := dig_wds b
  have ta := dig_top a
  have tb := dig_top b
  unfold ref01_Compare
  by_cases he : (dig a).length = (dig b).length
  · rw [if_pos (by omega)]
    unfold ref01_Compare.W1
    rw [wk_eq (by omega) (by omega)]
    refine cloop_ind (fun _ => some (cmpZ a b)) (fun (j : Int) => -1 ≤ j ∧ j < (dig a).length ∧ (dig a).drop (j + 1).toNat = (dig b).drop (j + 1).toNat) (fun j => (j + 1).toNat) ?_ fu _ ⟨by omega, by omega, ?_⟩ (by omega)
    · rintro j ⟨h0, h1, h2⟩ next hn
      unfold ref01_Compare.L1
      by_cases hj : 0 ≤ j
      · obtain ⟨k, rfl⟩ := Int.eq_ofNat_of_zero_le hj
        have hka : k < (dig a).length := by omega
        have hkb : k < (dig b).length := by omega
        have e1 : ((k : Int) + 1).toNat = k + 1 := by omega
        rw [e1] at h2
        rw [if_pos hj, at?_get hka, ob_some, at?_get hkb, ob_some]
        have hv := cmp_drop h2 (by omega) he
        rw [take_snoc hka, take_snoc hkb, val_append, val_append] at hv
        simp only [val, Int.mul_zero, Int.add_zero, List.length_take] at hv
        rw [show min k (dig a).length = k by omega, show min k (dig b).length = k by omega] at hv
        have b1 := val_lt (wds_take wa k)
        have b2 := val_lt (wds_take wb k)
        have b3 := val_nonneg (wds_take wa k)
        have b4 := val_nonneg (wds_take wb k)
        rw [List.length_take, show min k (dig a).length = k by omega] at b1
        rw [List.length_take, show min k (dig b).length = k by omega] at b2
        have hp := pow32_pos k
        rw [va, vb] at hv
        by_cases hlt : (dig a)[k] < (dig b)[k]
        · rw [if_pos hlt]
          have hm : (4294967296 : Int) ^ k * ((dig a)[k] + 1) ≤ 4294967296 ^ k * (dig b)[k] := Int.mul_le_mul_of_nonneg_left (by omega) (Int.le_of_lt hp)
          rw [Int.mul_add, Int.mul_one] at hm
          have : a < b := by omega
          simp [cmpZ, this]
        · rw [if_neg hlt]
          by_cases hgt : (dig b)[k] < (dig a)[k]
          · rw [if_pos hgt]
            have hm : (4294967296 : Int) ^ k * ((dig b)[k] + 1) ≤ 4294967296 ^ k * (dig a)[k] := Int.mul_le_mul_of_nonneg_left (by omega) (Int.le_of_lt hp)
            rw [Int.mul_add, Int.mul_one] at hm
            have h1 : b < a := by omega
            have h2 : ¬ a < b := by omega
            simp [cmpZ, h1, h2]
          · rw [if_neg hgt, wk_eq (by omega) (by omega)]
            refine hn _ ⟨by omega, by omega, ?_⟩ (by omega)
            have e2 : ((k : Int) - 1 + 1).toNat = k := by omega
            rw [e2, List.drop_eq_getElem_cons hka, List.drop_eq_getElem_cons hkb, h2, show (dig a)[k] = (dig b)[k] by omega]
      · rw [if_neg hj]
        have e1 : (j + 1).toNat = 0 := by omega
        rw [e1, List.drop_zero, List.drop_zero] at h2
        have : a = b := by rw [h2] at va; omega
        subst this
        simp [cmpZ]
    · rw [List.drop_of_length_le (by omega), List.drop_of_length_le (by omega)]
  · rw [if_neg (by omega)]
    have key : ∀ x y : Nat, (dig x).length < (dig y).length → x < y := fun x y h => by
      have hy : dig y ≠ [] := fun e => by rw [e] at h; simp at h
      have h1 := top_le (dig_wds y) (dig_top y) hy
      have h2 := val_lt (dig_wds x)
      have h3 : (4294967296 : Int) ^ (dig x).length ≤ 4294967296 ^ ((dig y).length - 1) := by
        have : ∀ i j : Nat, i ≤ j → (4294967296 : Int) ^ i ≤ 4294967296 ^ j := fun i j h => by
          induction h with
          | refl => exact Int.le_refl _
          | step h ih => rw [Int.pow_succ]; have := pow32_pos i; omega
        exact this _ _ (by omega)
      rw [val_dig] at h1 h2
      omega
    by_cases hlt : (dig a).length < (dig b).length
    · have := key a b hlt
      rw [if_pos (by omega)]
      simp [cmpZ, this]
    · have := key b a (by omega)
      have h2 : ¬ a < b := by omega
      rw [if_neg (by omega)]
      simp [cmpZ, this, h2]
end Go.Av.Rf
set_option linter.unusedVariables false
namespace Go.Av.Rf
theorem u64_eq {x : Int} (h0 : 0 ≤ x) (h1 : x < 18446744073709551616) : wk .u64 x = x := by
  have : wk .u64 x = x % 18446744073709551616 := by simp [wk, IntKind.wrap, IntKind.signed, IntKind.bits]
  rw [this, Int.emod_eq_of_lt h0 h1]
theorem u32_eq {x : Int} (h0 : 0 ≤ x) (h1 : x < 4294967296) : wk .u32 x = x := by
  have : wk .u32 x = x % 4294967296 := by simp [wk, IntKind.wrap, IntKind.signed, IntKind.bits]
  rw [this, Int.emod_eq_of_lt h0 h1]
theorem Of_spec {fu : Nat} {n : Nat} (hn : n < 18446744073709551616) (hf : 2 < fu) : ref01_Of fu (n : Int) = some (dig n) := by
  unfold ref01_Of
  have e1 : wk .u32 (Int.tmod (n : Int) 4294967296) = (n : Int) % 4294967296 := by
    rw [Int.tmod_eq_emod_of_nonneg (by omega)]; exact u32_eq (by omega) (by omega)
  have e2 : wk .u32 (wk .u64 (Int.tdiv (n : Int) 4294967296)) = (n : Int) / 4294967296 := by
    rw [Int.tdiv_eq_ediv_of_nonneg (by omega), u64_eq (by omega) (by omega)]; exact u32_eq (by omega) (by omega)
  rw [e1, e2, trim_spec (fun x hx => by simp at hx; omega) (by simp) (by simpa using hf), ob_some]
  congr 2
  simp only [val]
  omega
def word (l : List Int) (i : Nat) : Int := l.getD i 0
theorem val_take {l : List Int} {i : Nat} : val (l.take (i + 1)) = val (l.take i) + 4294967296 ^ i * word l i := by
  by_cases h : i < l.length
  · rw [take_snoc h, val_append]
    simp only [val, List.length_take, Int.mul_zero, Int.add_zero]
    rw [show min i l.length = i by omega]
    simp [word, List.getD_eq_getElem?_getD, List.getElem?_eq_getElem h]
  · rw [List.take_of_length_le (by omega), List.take_of_length_le (by omega)]
    simp [word, List.getD_eq_getElem?_getD, List.getElem?_eq_none (by omega : l.length ≤ i)]
theorem word_range {l : List Int} (h : Wds l) (i : Nat) : 0 ≤ word l i ∧ word l i < 4294967296 := by
  unfold word
  rw [List.getD_eq_getElem?_getD]
  by_cases hi : i < l.length
  · rw [List.getElem?_eq_getElem hi]; exact h _ (List.getElem_mem hi)
  · rw [List.getElem?_eq_none (by omega)]; simp
theorem word_in {l : List Int} {i : Nat} (h : i < l.length) : word l i = l[i] := by simp [word, List.getD_eq_getElem?_getD, List.getElem?_eq_getElem h]
theorem word_out {l : List Int} {i : Nat} (h : ¬ i < l.length) : word l i = 0 := by simp [word, List.getD_eq_getElem?_getD, List.getElem?_eq_none (by omega : l.length ≤ i)]
theorem Plus_spec {fu : Nat} {a b : Nat} (ha : (dig a).length ≤ 100000) (hb : (dig b).length ≤ 100000) (hf : (dig a).length + (dig b).length + 2 < fu) : ref01_Plus fu (dig a) (dig b) = some (dig (a + b)) := by
  have va := val_dig a
  have vb := val_dig b
  have wa := dig_wds a
  have wb := dig_wds b
  generalize dig a = A at *
  generalize dig b = B at *
  unfold ref01_Plus ref01_Plus.W1; try unfold jn
  refine cloop_ind (fun _ => some (dig (a + b))) (fun (s : List Int × Int × Int) => 0 ≤ s.2.2 ∧ s.2.2 ≤ A.length + B.length + 1 ∧ Wds s.1 ∧ (s.1.length : Int) = s.2.2 ∧ 0 ≤ s.2.1 ∧ s.2.1 ≤ 1 ∧ val s.1 + 4294967296 ^ s.1.length * s.2.1 = val (A.take s.1.length) + val (B.take s.1.length) ∧ (0 < s.2.1 → s.2.2 ≤ A.length + B.length))
    (fun s => A.length + B.length + 2 - s.2.2.toNat) ?_ fu _ ?_ ?_
  · rintro ⟨o, c, i⟩ ⟨h0, h1, h2, h3, h4, h5, h6, h7⟩ next hn
    simp only at h0 h1 h2 h3 h4 h5 h6 h7 hn ⊢
    obtain ⟨k, rfl⟩ := Int.eq_ofNat_of_zero_le h0
    have hk : o.length = k := by omega
    rw [hk] at h6
    obtain ⟨p1, p2⟩ := word_range wa k
    obtain ⟨q1, q2⟩ := word_range wb k
    have step : k < A.length ∨ k < B.length ∨ 0 < c → ref01_Plus.k2 fu (fun x9 x10 x11 => next (x9, x10, x11)) A B o c (k : Int) = some (dig (a + b)) := fun hor => by
      have hk3 : ∀ s, 0 ≤ s → s ≤ 1 + 4294967295 → ref01_Plus.k3 fu (fun x9 x10 x11 => next (x9, x10, x11)) B o (k : Int) s = ref01_Plus.k4 fu (fun x9 x10 x11 => next (x9, x10, x11)) o (k : Int) (s + word B k) := fun s hs hs2 => by
        unfold ref01_Plus.k3; try unfold jn
        by_cases hkb : k < B.length
        · rw [if_pos (by omega), at?_get hkb, ob_some, word_in hkb]
          rw [word_in hkb] at q1 q2
          rw [u64_eq (x := B[k]) (by omega) (by omega), u64_eq (by omega) (by omega)]
        · rw [if_neg (by omega), word_out hkb, Int.add_zero]
      have hk2 : ref01_Plus.k2 fu (fun x9 x10 x11 => next (x9, x10, x11)) A B o c (k : Int) = ref01_Plus.k4 fu (fun x9 x10 x11 => next (x9, x10, x11)) o (k : Int) (c + word A k + word B k) := by
        unfold ref01_Plus.k2; try unfold jn
        by_cases hka : k < A.length
        · rw [if_pos (by omega), at?_get hka, ob_some, word_in hka]
          rw [word_in hka] at p1 p2
          rw [u64_eq (x := A[k]) (by omega) (by omega), u64_eq (by omega) (by omega), hk3 _ (by omega) (by omega)]
        · rw [if_neg (by omega), word_out hka, hk3 _ (by omega) (by omega), Int.add_zero]
      rw [hk2]
      unfold ref01_Plus.k4
      have hs0 : 0 ≤ c + word A k + word B k := by omega
      rw [chk_pos (by omega), Int.tmod_eq_emod_of_nonneg hs0, Int.tdiv_eq_ediv_of_nonneg hs0, u32_eq (by omega) (by omega), u64_eq (by omega) (by omega), wk_eq (by omega) (by omega)]
      have hv : val (o ++ [(c + word A k + word B k) % 4294967296]) + 4294967296 ^ (k + 1) * ((c + word A k + word B k) / 4294967296) = val (A.take (k + 1)) + val (B.take (k + 1)) := by
        rw [val_append, val_take, val_take, hk, Int.pow_succ]
        simp only [val, Int.mul_zero, Int.add_zero]
        have hd := Int.emod_add_mul_ediv (c + word A k + word B k) 4294967296
        have e : (4294967296 : Int) ^ k * ((c + word A k + word B k) % 4294967296) + 4294967296 ^ k * 4294967296 * ((c + word A k + word B k) / 4294967296) = 4294967296 ^ k * c + 4294967296 ^ k * word A k + 4294967296 ^ k * word B k := by
          rw [Int.mul_assoc, ← Int.mul_add, hd, Int.mul_add, Int.mul_add]
        omega
      refine hn _ ⟨by simp only []; omega, by simp only []; omega, ?_, ?_, by simp only []; omega, by simp only []; omega, ?_, ?_⟩ ?_
      · simp only []
        intro x hx
        rcases List.mem_append.1 hx with hx | hx
        · exact h2 x hx
        · simp at hx; omega
      · simp only [List.length_append, List.length_singleton]; omega
      · simp only [List.length_append, List.length_singleton]; rw [hk]; exact hv
      · simp only []
        intro hc
        by_cases hka : k < A.length
        · by_cases hkb : k < B.length
          · omega
          · omega
        · by_cases hkb : k < B.length
          · omega
          · rw [word_out hka, word_out hkb] at hc; omega
      · simp only []
        omega
    unfold ref01_Plus.L1; try unfold jn
    by_cases hka : k < A.length
    · rw [if_pos (by omega)]; exact step (.inl hka)
    · rw [if_neg (by omega)]
      by_cases hkb : k < B.length
      · rw [if_pos (by omega)]; exact step (.inr (.inl hkb))
      · rw [if_neg (by omega)]
        by_cases hc : 0 < c
        · rw [if_pos hc]; exact step (.inr (.inr hc))
        · rw [if_neg hc]
          unfold ref01_Plus.k1
          rw [trim_spec h2 (by omega) (by omega), ob_some]
          have hc0 : c = 0 := by omega
          rw [hc0, Int.mul_zero, Int.add_zero, List.take_of_length_le (by omega), List.take_of_length_le (by omega), va, vb] at h6
          rw [h6]
          congr 2
  · have hw0 : Wds ([] : List Int) := fun x hx => by cases hx
    refine ⟨Int.le_refl 0, ?_, hw0, rfl, Int.le_refl 0, by decide, ?_, fun h => absurd h (by decide)⟩
    · show (0 : Int) ≤ A.length + B.length + 1
      omega
    · simp [val]
  · simp only []
    omega
end Go.Av.Rf
set_option linter.unusedVariables false
namespace Go.Av.Rf
theorem Minus_spec {fu : Nat} {a b : Nat} (hab : b ≤ a) (ha : (dig a).length ≤ 100000) (hf : (dig a).length + 2 < fu) : ref01_Minus fu (dig a) (dig b) = some (dig (a - b)) := by
  have va := val_dig a
  have vb := val_dig b
  have wa := dig_wds a
  have wb := dig_wds b
  have hlen : (dig b).length ≤ (dig a).length := by
    by_cases h : (dig b).length ≤ (dig a).length
    · exact h
    · exfalso
      have hy : dig b ≠ [] := fun e => by rw [e] at h; simp at h
      have h1 := top_le (dig_wds b) (dig_top b) hy
      have h2 := val_lt (dig_wds a)
      have h3 : (4294967296 : Int) ^ (dig a).length ≤ 4294967296 ^ ((dig b).length - 1) := by
        have : ∀ i j : Nat, i ≤ j → (4294967296 : Int) ^ i ≤ 4294967296 ^ j := fun i j h => by
          induction h with
          | refl => exact Int.le_refl _
          | step h ih => rw [Int.pow_succ]; have := pow32_pos i; omega
        exact this _ _ (by omega)
      omega
  generalize dig a = A at *
  generalize dig b = B at *
  unfold ref01_Minus ref01_Minus.W1; try unfold jn
  refine cloop_ind (fun _ => some (dig (a - b))) (fun (s : List Int × Int × Int) => 0 ≤ s.2.2 ∧ s.2.2 ≤ A.length ∧ Wds s.1 ∧ (s.1.length : Int) = s.2.2 ∧ 0 ≤ s.2.1 ∧ s.2.1 ≤ 1 ∧ val s.1 + val (B.take s.1.length) = val (A.take s.1.length) + 4294967296 ^ s.1.length * s.2.1)
    (fun s => A.length + 1 - s.2.2.toNat) ?_ fu _ ?_ ?_
  · rintro ⟨o, c, i⟩ ⟨h0, h1, h2, h3, h4, h5, h6⟩ next hn
    simp only at h0 h1 h2 h3 h4 h5 h6 hn ⊢
    obtain ⟨k, rfl⟩ := Int.eq_ofNat_of_zero_le h0
    have hk : o.length = k := by omega
    rw [hk] at h6
    obtain ⟨q1, q2⟩ := word_range wb k
    unfold ref01_Minus.L1; try unfold jn
    by_cases hka : k < A.length
    · rw [if_pos (by omega)]
      have step : ref01_Minus.k2 fu (fun x10 x11 x12 => next (x10, x11, x12)) A o (k : Int) (c + word B k) = some (dig (a - b)) := by
        obtain ⟨p1, p2⟩ := word_range wa k
        have pw := word_in hka
        unfold ref01_Minus.k2; try unfold jn
        rw [at?_get hka, ob_some, ← pw, u64_eq (x := word A k) (by omega) (by omega)]
        have fin : ∀ br : Int, 0 ≤ br → br ≤ 1 → ∀ h : Int, h = word A k + 4294967296 * br → c + word B k ≤ h → h - (c + word B k) < 4294967296 → ref01_Minus.k3 fu (fun x10 x11 x12 => next (x10, x11, x12)) o (k : Int) (c + word B k) br h = some (dig (a - b)) := fun br b0 b1 h hh hle hlt => by
          unfold ref01_Minus.k3
          rw [chk_pos (by omega), u64_eq (x := h - (c + word B k)) (by omega) (by omega), u32_eq (by omega) hlt, wk_eq (by omega) (by omega)]
          refine hn _ ⟨by simp only []; omega, by simp only []; omega, ?_, ?_, b0, b1, ?_⟩ ?_
          · simp only []
            intro x hx
            rcases List.mem_append.1 hx with hx | hx
            · exact h2 x hx
            · simp at hx; omega
          · simp only [List.length_append, List.length_singleton]; omega
          · simp only [List.length_append, List.length_singleton]
            rw [hk, val_append, val_take, val_take, hk, Int.pow_succ]
            simp only [val, Int.mul_zero, Int.add_zero]
            subst hh
            have e : (4294967296 : Int) ^ k * (word A k + 4294967296 * br - (c + word B k)) = 4294967296 ^ k * word A k + 4294967296 ^ k * 4294967296 * br - 4294967296 ^ k * c - 4294967296 ^ k * word B k := by
              rw [Int.mul_sub, Int.mul_add, Int.mul_add, ← Int.mul_assoc]; omega
            omega
          · simp only []
            omega
        by_cases hlt : word A k < c + word B k
        · rw [if_pos hlt, u64_eq (by omega) (by omega)]
          exact fin 1 (by decide) (by decide) _ (by omega) (by omega) (by omega)
        · rw [if_neg hlt]
          exact fin 0 (by decide) (by decide) _ (by omega) (by omega) (by omega)
      by_cases hkb : k < B.length
      · rw [if_pos (by omega), at?_get hkb, ob_some, ← word_in hkb, u64_eq (x := word B k) (by omega) (by omega), u64_eq (by omega) (by omega)]
        exact step
      · rw [if_neg (by omega)]
        have := step
        rw [word_out hkb, Int.add_zero] at this
        exact this
    · rw [if_neg (by omega)]
      unfold ref01_Minus.k1
      rw [trim_spec h2 (by omega) (by omega), ob_some]
      rw [List.take_of_length_le (by omega), List.take_of_length_le (by omega), va, vb] at h6
      have hlt := val_lt h2
      rw [hk] at hlt
      have hp := pow32_pos k
      have hc : c = 0 := by
        by_cases hc : c = 0
        · exact hc
        · have : c = 1 := by omega
          subst this
          omega
      subst hc
      congr 2
      omega
  · have hw0 : Wds ([] : List Int) := fun x hx => by cases hx
    refine ⟨Int.le_refl 0, ?_, hw0, rfl, Int.le_refl 0, by decide, ?_⟩
    · show (0 : Int) ≤ A.length
      omega
    · simp [val]
  · simp only []
    omega
end Go.Av.Rf
set_option linter.unusedVariables false
namespace Go.Av.Rf
theorem pow_32 (m : Nat) : (4294967296 : Int) ^ m = 2 ^ (32 * m) := by
  induction m with
  | zero => rfl
  | succ m ih => rw [Int.pow_succ, ih, Nat.mul_succ, Int.pow_add]; rfl
theorem val_zeros (m : Nat) : val (List.replicate m 0) = 0 := by
  induction m with
  | zero => rfl
  | succ m ih => rw [List.replicate_succ, val, ih]; rfl
theorem Twice_spec {fu : Nat} {a k : Nat} (ha : (dig a).length ≤ 100000) (hk : k ≤ 100000) (hf : (dig a).length + k + 4 < fu) : ref01_Twice fu (dig a) (k : Int) = some (dig (a * 2 ^ k)) := by
  have va := val_dig a
  have wa := dig_wds a
  generalize dig a = A at *
  unfold ref01_Twice ref01_Twice.W2; try unfold jn
  have hd : wk .i64 (Int.tdiv (k : Int) 32) = ((k / 32 : Nat) : Int) := by
    rw [Int.tdiv_eq_ediv_of_nonneg (by omega), wk_eq (by omega) (by omega)]; omega
  have hm : Int.tmod (k : Int) 32 = ((k % 32 : Nat) : Int) := by rw [Int.tmod_eq_emod_of_nonneg (by omega)]; omega
  refine (cloop_up (body := fun next s => ref01_Twice.L2 fu A (k : Int) (fun x13 x14 => next (x13, x14)) s.1 s.2) (n := fu) (k / 32) (fun i => List.replicate i (0 : Int)) (some (dig (a * 2 ^ k))) ?_ ?_ (by omega))
  · intro i hi next hn
    unfold ref01_Twice.L2
    simp only []
    rw [hd, if_pos (by omega), chk_pos (by simp; omega), wk_eq (by omega) (by omega)]
    have e : List.replicate i (0 : Int) ++ [0] = List.replicate (i + 1) 0 := by rw [List.replicate_succ']
    rw [e]
    exact hn
  · intro next
    unfold ref01_Twice.L2
    simp only []
    rw [hd, if_neg (by omega)]
    unfold ref01_Twice.k1 ref01_Twice.W1; try unfold jn
    generalize hmm : k / 32 = m at *
    generalize hss : k % 32 = sh at *
    have hsh : sh < 32 := by omega
    have hp1 : (1 : Int) ≤ 2 ^ sh := Int.pow_pos (by decide)
    have hp2 : (2 : Int) ^ sh ≤ 2147483648 := by
      have : ∀ i j : Nat, i ≤ j → (2 : Int) ^ i ≤ 2 ^ j := fun i j h => by
        induction h with
        | refl => exact Int.le_refl _
        | step h ih => rw [Int.pow_succ]; have := Int.pow_pos (n := 2) (m := i) (by decide); omega
      exact this sh 31 (by omega)
    refine cloop_ind (fun _ => some (dig (a * 2 ^ k))) (fun (s : List Int × Int × Int) => 0 ≤ s.2.2 ∧ s.2.2 ≤ A.length ∧ Wds s.1 ∧ (s.1.length : Int) = m + s.2.2 ∧ 0 ≤ s.2.1 ∧ s.2.1 < 2 ^ sh ∧ val s.1 + 4294967296 ^ s.1.length * s.2.1 = 4294967296 ^ m * (2 ^ sh * val (A.take s.2.2.toNat)))
      (fun s => A.length + 1 - s.2.2.toNat) ?_ fu _ ?_ ?_
    · rintro ⟨o, c, i⟩ ⟨h0, h1, h2, h3, h4, h5, h6⟩ next hn
      simp only at h0 h1 h2 h3 h4 h5 h6 hn ⊢
      obtain ⟨j, rfl⟩ := Int.eq_ofNat_of_zero_le h0
      rw [Int.toNat_natCast] at h6
      have ho : o.length = m + j := by omega
      unfold ref01_Twice.L1
      by_cases hj : j < A.length
      · obtain ⟨p1, p2⟩ := wa _ (List.getElem_mem hj)
        have hx0 : 0 ≤ A[j] * 2 ^ sh := Int.mul_nonneg p1 (by omega)
        have hx1 : A[j] * 2 ^ sh ≤ 4294967295 * 2 ^ sh := Int.mul_le_mul_of_nonneg_right (by omega) (by omega)
        have hs : shlk .u64 (wk .u64 A[j]) ((sh : Nat) : Int) = A[j] * 2 ^ sh := by
          unfold shlk
          rw [u64_eq p1 (by omega), show min ((sh : Nat) : Int).toNat IntKind.u64.bits = sh by simp [IntKind.bits]; omega]
          exact u64_eq hx0 (by omega)
        rw [if_pos (by omega), at?_get hj, ob_some, hm, chk_pos (by omega), chk_pos (by omega), hs, u64_eq (by omega) (by omega), Int.tmod_eq_emod_of_nonneg (by omega), Int.tdiv_eq_ediv_of_nonneg (by omega), u32_eq (by omega) (by omega), u64_eq (by omega) (by omega), wk_eq (by omega) (by omega)]
        refine hn _ ⟨by simp only []; omega, by simp only []; omega, ?_, ?_, by simp only []; omega, by simp only []; omega, ?_⟩ ?_
        · simp only []
          intro x hx
          rcases List.mem_append.1 hx with hx | hx
          · exact h2 x hx
          · simp at hx; omega
        · simp only [List.length_append, List.length_singleton]; omega
        · simp only [List.length_append, List.length_singleton]
          rw [show ((j : Int) + 1).toNat = j + 1 by omega, val_append, val_take, word_in hj, Int.pow_succ]
          simp only [val, Int.mul_zero, Int.add_zero]
          have hdm := Int.emod_add_mul_ediv (A[j] * 2 ^ sh + c) 4294967296
          have e : (4294967296 : Int) ^ o.length * ((A[j] * 2 ^ sh + c) % 4294967296) + 4294967296 ^ o.length * 4294967296 * ((A[j] * 2 ^ sh + c) / 4294967296) = 4294967296 ^ o.length * (A[j] * 2 ^ sh) + 4294967296 ^ o.length * c := by
            rw [Int.mul_assoc, ← Int.mul_add, hdm, Int.mul_add]
          have e2 : (4294967296 : Int) ^ o.length * (A[j] * 2 ^ sh) = 4294967296 ^ m * (2 ^ sh * (4294967296 ^ j * A[j])) := by
            rw [ho, Int.pow_add]; simp only [Int.mul_assoc, Int.mul_comm, Int.mul_left_comm]
          rw [Int.mul_add (2 ^ sh), Int.mul_add (4294967296 ^ m), ← e2]
          omega
        · simp only []
          omega
      · rw [if_neg (by omega)]
        unfold ref01_Twice.k2
        have hjl : j = A.length := by omega
        rw [chk_pos (by omega), u32_eq h4 (by omega), trim_spec ?_ (by simp; omega) (by simp; omega), ob_some]
        · rw [List.take_of_length_le (by omega), va] at h6
          have hv : val (o ++ [c]) = ((a * 2 ^ k : Nat) : Int) := by
            rw [val_append]
            simp only [val, Int.mul_zero, Int.add_zero]
            rw [h6, pow_32, ← Int.mul_assoc, ← Int.pow_add, show 32 * m + sh = k by omega, Int.natCast_mul, Int.natCast_pow, Int.mul_comm]
            rfl
          rw [hv]
          rfl
        · intro x hx
          rcases List.mem_append.1 hx with hx | hx
          · exact h2 x hx
          · simp at hx; omega
    · refine ⟨Int.le_refl 0, ?_, ?_, ?_, Int.le_refl 0, ?_, ?_⟩
      · show (0 : Int) ≤ A.length
        omega
      · intro x hx
        have := List.eq_of_mem_replicate hx
        subst this
        decide
      · simp
      · show (0 : Int) < 2 ^ sh
        omega
      · simp [val, val_zeros]
    · simp only []
      omega
end Go.Av.Rf
set_option linter.unusedVariables false
namespace Go.Av.Rf
theorem word_set {l : List Int} {i j : Nat} {y : Int} (hi : i < l.length) : word (l.set i y) j = if j = i then y else word l j := by
  unfold word
  rw [List.getD_eq_getElem?_getD, List.getD_eq_getElem?_getD, List.getElem?_set]
  by_cases h : j = i
  · subst h; simp [hi]
  · rw [if_neg (fun e => h e.symm), if_neg h]
theorem wds_set {l : List Int} (h : Wds l) (i : Nat) {y : Int} (h0 : 0 ≤ y) (h1 : y < 4294967296) : Wds (l.set i y) := fun x hx => by
  rcases List.mem_or_eq_of_mem_set hx with hx | rfl
  · exact h x hx
  · exact ⟨h0, h1⟩
theorem Times_row {fu : Nat} {A B : List Int} (wa : Wds A) (wb : Wds B) {i : Nat} (hi : i < A.length) (hA : A.length ≤ 100000) (hB : B.length ≤ 100000) (hf : B.length + 1 < fu) {out : List Int} (wo : Wds out) (ho : out.length = A.length + B.length) (hz : ∀ j, i + B.length ≤ j → word out j = 0)
    {nx : List Int → Int → Option (List Int)} {R : Option (List Int)} (hR : ∀ o', Wds o' → o'.length = A.length + B.length → val o' = val out + 4294967296 ^ i * (word A i * val B) → (∀ j, i + 1 + B.length ≤ j → word o' j = 0) → nx o' ((i + 1 : Nat) : Int) = R) :
    ref01_Times.W2 fu nx A B (i : Int) out 0 0 = R := by
  obtain ⟨p1, p2⟩ := word_range wa i
  unfold ref01_Times.W2
  refine cloop_ind (fun _ => R) (fun (s : List Int × Int × Int) => 0 ≤ s.2.2 ∧ s.2.2 ≤ B.length ∧ Wds s.1 ∧ s.1.length = A.length + B.length ∧ 0 ≤ s.2.1 ∧ s.2.1 < 4294967296 ∧ val s.1 + 4294967296 ^ (i + s.2.2.toNat) * s.2.1 = val out + 4294967296 ^ i * (word A i * val (B.take s.2.2.toNat)) ∧ ∀ j, i + B.length ≤ j → word s.1 j = 0)
    (fun s => B.length + 1 - s.2.2.toNat) ?_ fu _ ?_ ?_
  · rintro ⟨o, c, j⟩ ⟨h0, h1, h2, h3, h4, h5, h6, h7⟩ next hn
    simp only at h0 h1 h2 h3 h4 h5 h6 h7 hn ⊢
    obtain ⟨k, rfl⟩ := Int.eq_ofNat_of_zero_le h0
    rw [Int.toNat_natCast] at h6
    unfold ref01_Times.L2
    by_cases hk : k < B.length
    · obtain ⟨q1, q2⟩ := wb _ (List.getElem_mem hk)
      have hio : i + k < o.length := by omega
      obtain ⟨r1, r2⟩ := h2 _ (List.getElem_mem hio)
      have e : wk .i64 ((i : Int) + (k : Int)) = ((i + k : Nat) : Int) := by rw [wk_eq (by omega) (by omega)]; omega
      have hp0 : 0 ≤ word A i * B[k] := Int.mul_nonneg p1 q1
      have hp1 : word A i * B[k] ≤ 4294967295 * 4294967295 := Int.mul_le_mul (by omega) (by omega) q1 (by decide)
      have hs : wk .u64 (wk .u64 (wk .u64 (wk .u64 (word A i) * wk .u64 B[k]) + wk .u64 (o[i + k])) + c) = word A i * B[k] + o[i + k] + c := by
        rw [u64_eq (x := word A i) (by omega) (by omega), u64_eq (x := B[k]) (by omega) (by omega), u64_eq (x := word A i * B[k]) hp0 (by omega), u64_eq (x := o[i + k]) (by omega) (by omega), u64_eq (x := word A i * B[k] + o[i + k]) (by omega) (by omega), u64_eq (by omega) (by omega)]
      rw [if_pos (by omega), at?_get hi, ob_some, ← word_in hi, at?_get hk, ob_some, e, at?_get hio, ob_some, chk_pos (by omega), hs, Int.tmod_eq_emod_of_nonneg (by omega), Int.tdiv_eq_ediv_of_nonneg (by omega), u32_eq (by omega) (by omega), u64_eq (by omega) (by omega), wk_eq (x := (k : Int) + 1) (by omega) (by omega), Int.toNat_natCast]
      refine hn _ ⟨by simp only []; omega, by simp only []; omega, wds_set h2 _ (by omega) (by omega), by simp only [List.length_set]; omega, by simp only []; omega, by simp only []; omega, ?_, ?_⟩ ?_
      · simp only []
        rw [show ((k : Int) + 1).toNat = k + 1 by omega, val_set _ _ hio, val_take, word_in hk, show i + (k + 1) = i + k + 1 by omega, Int.pow_succ]
        have hd := Int.emod_add_mul_ediv (word A i * B[k] + o[i + k] + c) 4294967296
        have e1 : ((word A i * B[k] + o[i + k] + c) % 4294967296 - o[i + k]) * 4294967296 ^ (i + k) + 4294967296 ^ (i + k) * 4294967296 * ((word A i * B[k] + o[i + k] + c) / 4294967296) = 4294967296 ^ (i + k) * (word A i * B[k]) + 4294967296 ^ (i + k) * c := by
          rw [Int.mul_comm _ ((4294967296 : Int) ^ (i + k)), Int.mul_assoc, ← Int.mul_add, ← Int.mul_add]
          congr 1
          omega
        have e2 : (4294967296 : Int) ^ (i + k) * (word A i * B[k]) = 4294967296 ^ i * (word A i * (4294967296 ^ k * B[k])) := by
          rw [Int.pow_add]; simp only [Int.mul_assoc, Int.mul_left_comm]
        rw [Int.mul_add (word A i), Int.mul_add (4294967296 ^ i), ← e2]
        omega
      · intro j hj
        simp only []
        rw [word_set hio, if_neg (by omega)]
        exact h7 j hj
      · simp only []
        omega
    · have hkB : k = B.length := by omega
      subst hkB
      rw [if_neg (by omega)]
      unfold ref01_Times.k2
      have e : wk .i64 ((i : Int) + (B.length : Int)) = ((i + B.length : Nat) : Int) := by rw [wk_eq (by omega) (by omega)]; omega
      have hio : i + B.length < o.length := by omega
      rw [e, chk_pos (by omega), Int.toNat_natCast, u32_eq h4 h5, wk_eq (x := (i : Int) + 1) (by omega) (by omega)]
      refine hR _ (wds_set h2 _ h4 h5) (by simp only [List.length_set]; omega) ?_ ?_
      · rw [val_set _ _ hio]
        have hw := h7 (i + B.length) (Nat.le_refl _)
        rw [word_in hio] at hw
        rw [hw, Int.sub_zero, Int.mul_comm]
        rw [List.take_of_length_le (Nat.le_refl _)] at h6
        omega
      · intro j hj
        rw [word_set hio, if_neg (by omega)]
        exact h7 j (by omega)
  · refine ⟨Int.le_refl 0, ?_, wo, ho, Int.le_refl 0, ?_, by simp [val], hz⟩
    · show (0 : Int) ≤ B.length
      omega
    · show (0 : Int) < 4294967296
      decide
  · simp only []
    omega
theorem Times_spec {fu : Nat} {a b : Nat} (ha : (dig a).length ≤ 100000) (hb : (dig b).length ≤ 100000) (hf : (dig a).length + (dig b).length + 2 < fu) : ref01_Times fu (dig a) (dig b) = some (dig (a * b)) := by
  have va := val_dig a
  have vb := val_dig b
  have wa := dig_wds a
  have wb := dig_wds b
  generalize dig a = A at *
  generalize dig b = B at *
  unfold ref01_Times; try unfold jn
  have e : wk .i64 ((A.length : Int) + (B.length : Int)) = ((A.length + B.length : Nat) : Int) := by rw [wk_eq (by omega) (by omega)]; omega
  rw [e, chk_pos (by omega), Int.toNat_natCast]
  unfold ref01_Times.W1
  refine cloop_ind (fun _ => some (dig (a * b))) (fun (s : List Int × Int) => 0 ≤ s.2 ∧ s.2 ≤ A.length ∧ Wds s.1 ∧ s.1.length = A.length + B.length ∧ val s.1 = val (A.take s.2.toNat) * val B ∧ ∀ j, s.2.toNat + B.length ≤ j → word s.1 j = 0)
    (fun s => A.length + 1 - s.2.toNat) ?_ fu _ ?_ ?_
  · rintro ⟨o, i⟩ ⟨h0, h1, h2, h3, h4, h5⟩ next hn
    simp only at h0 h1 h2 h3 h4 h5 hn ⊢
    obtain ⟨k, rfl⟩ := Int.eq_ofNat_of_zero_le h0
    rw [Int.toNat_natCast] at h4 h5
    unfold ref01_Times.L1; try unfold jn
    by_cases hk : k < A.length
    · rw [if_pos (by omega)]
      refine Times_row wa wb hk ha hb (by omega) h2 h3 h5 fun o' q1 q2 q3 q4 => hn _ ⟨by simp only []; omega, by simp only []; omega, q1, q2, ?_, ?_⟩ ?_
      · simp only []
        rw [show (((k + 1 : Nat) : Int)).toNat = k + 1 by omega, val_take, q3, h4, Int.add_mul, Int.mul_assoc]
      · simp only []
        intro j hj
        exact q4 j (by omega)
      · simp only []
        omega
    · rw [if_neg (by omega)]
      unfold ref01_Times.k1
      rw [trim_spec h2 (by omega) (by omega), ob_some, h4, List.take_of_length_le (by omega), va, vb, ← Int.natCast_mul]
      rfl
  · refine ⟨Int.le_refl 0, ?_, ?_, by simp, ?_, ?_⟩
    · show (0 : Int) ≤ A.length
      omega
    · intro x hx
      have := List.eq_of_mem_replicate hx
      subst this
      decide
    · simp [val, val_zeros]
    · intro j hj
      simp only [word, List.getD_eq_getElem?_getD, List.getElem?_replicate]
      split <;> rfl
  · simp only []
    omega
end Go.Av.Rf
set_option linter.unusedVariables false
namespace Go.Av.Rf
theorem pow32_mono {i j : Nat} (h : i ≤ j) : (4294967296 : Int) ^ i ≤ 4294967296 ^ j := by
  induction h with
  | refl => exact Int.le_refl _
  | step h ih => rw [Int.pow_succ]; have := pow32_pos i; omega
theorem dig_length_le {n L : Nat} (h : (n : Int) < 4294967296 ^ L) : (dig n).length ≤ L := by
  by_cases hl : (dig n).length ≤ L
  · exact hl
  · exfalso
    have hne : dig n ≠ [] := fun e => by rw [e] at hl; simp at hl
    have h1 := top_le (dig_wds n) (dig_top n) hne
    have h2 : (4294967296 : Int) ^ L ≤ 4294967296 ^ ((dig n).length - 1) := pow32_mono (by omega)
    rw [val_dig] at h1
    omega
def amt (m : Nat) : Nat := if m / 8388608 = 0 then m % 8388608 else (8388608 + m % 8388608) * 2 ^ (m / 8388608 - 1)
theorem two_mono {i j : Nat} (h : i ≤ j) : (2 : Nat) ^ i ≤ 2 ^ j := Nat.pow_le_pow_right (by decide) h
theorem amt_lt {m : Nat} (h : m ≤ 2147483647) : amt m < 16777216 * 2 ^ 254 := by
  unfold amt
  split
  · have : 1 ≤ (2 : Nat) ^ 254 := Nat.pos_of_ne_zero (by decide)
    omega
  · have h1 : (2 : Nat) ^ (m / 8388608 - 1) ≤ 2 ^ 254 := two_mono (by omega)
    have h2 : (8388608 + m % 8388608) * 2 ^ (m / 8388608 - 1) ≤ 16777215 * 2 ^ 254 := Nat.mul_le_mul (by omega) h1
    have h3 : 1 ≤ (2 : Nat) ^ 254 := Nat.pos_of_ne_zero (by decide)
    omega
theorem amt_length {m : Nat} (h : m ≤ 2147483647) : (dig (amt m)).length ≤ 9 := dig_length_le (by
  have := amt_lt h
  have e : ((16777216 * 2 ^ 254 : Nat) : Int) ≤ 4294967296 ^ 9 := by decide
  omega)
theorem Amount_spec {fu : Nat} {m : Nat} (h : m ≤ 2147483647) (hf : 300 < fu) : ref01_Amount fu (m : Int) = some (dig (amt m)) := by
  unfold ref01_Amount
  have e1 : wk .i64 (wk .u32 (Int.tdiv (m : Int) 8388608)) = ((m / 8388608 : Nat) : Int) := by
    rw [Int.tdiv_eq_ediv_of_nonneg (by omega), u32_eq (by omega) (by omega), wk_eq (by omega) (by omega)]; omega
  have e2 : wk .u64 (Int.tmod (m : Int) 8388608) = ((m % 8388608 : Nat) : Int) := by
    rw [Int.tmod_eq_emod_of_nonneg (by omega), u64_eq (by omega) (by omega)]; omega
  rw [e1, e2]
  unfold amt
  by_cases h0 : m / 8388608 = 0
  · rw [if_pos (by omega), if_pos h0, Of_spec (by omega) (by omega), ob_some]
  · rw [if_neg (by omega), if_neg h0]
    have e3 : wk .u64 (8388608 + ((m % 8388608 : Nat) : Int)) = ((8388608 + m % 8388608 : Nat) : Int) := by rw [u64_eq (by omega) (by omega)]; omega
    have e4 : wk .i64 (((m / 8388608 : Nat) : Int) - 1) = ((m / 8388608 - 1 : Nat) : Int) := by rw [wk_eq (by omega) (by omega)]; omega
    have hl : (dig (8388608 + m % 8388608)).length ≤ 1 := dig_length_le (by rw [Int.pow_one]; omega)
    rw [e3, e4, Of_spec (by omega) (by omega), ob_some, Twice_spec (by omega) (by omega) (by omega), ob_some]
end Go.Av.Rf
set_option linter.unusedVariables false
namespace Go.Av.Rf
theorem amt_code {u M : Nat} (hM : M ≤ 16777216) (hu : u = 0 ∨ 8388608 ≤ M) : amt (u * 8388608 + M) = M * 2 ^ u := by
  unfold amt
  by_cases h1 : M < 8388608
  · have hu0 : u = 0 := by omega
    subst hu0
    rw [if_pos (by omega)]
    simp; omega
  · by_cases h2 : M < 16777216
    · have e1 : (u * 8388608 + M) / 8388608 = u + 1 := by omega
      have e2 : (u * 8388608 + M) % 8388608 = M - 8388608 := by omega
      rw [e1, e2, if_neg (by omega), Nat.add_sub_cancel, show 8388608 + (M - 8388608) = M by omega]
    · have hM2 : M = 16777216 := by omega
      have e1 : (u * 8388608 + M) / 8388608 = u + 2 := by omega
      have e2 : (u * 8388608 + M) % 8388608 = 0 := by omega
      rw [e1, e2, if_neg (by omega), show u + 2 - 1 = u + 1 by omega, Nat.pow_succ, hM2, Nat.add_zero]
      generalize 2 ^ u = p
      omega
theorem amt_step (m : Nat) : amt m < amt (m + 1) := by
  -- m is a code u * 2^23 + M with M below 2^24
  obtain ⟨u, M, rfl, hM, hu⟩ : ∃ u M, m = u * 8388608 + M ∧ M < 16777216 ∧ (u = 0 ∨ 8388608 ≤ M) := by
    by_cases h : m < 16777216
    · exact ⟨0, m, by omega, h, .inl rfl⟩
    · exact ⟨m / 8388608 - 1, m % 8388608 + 8388608, by omega, by omega, .inr (by omega)⟩
  rw [amt_code (by omega) hu, Nat.add_assoc, amt_code (by omega) (by omega), Nat.add_mul]
  have : 1 ≤ 2 ^ u := Nat.pos_of_ne_zero (by simp)
  omega
theorem amt_mono {m n : Nat} (h : m ≤ n) : amt m ≤ amt n := by
  induction h with
  | refl => exact Nat.le_refl _
  | step h ih => exact Nat.le_trans ih (Nat.le_of_lt (amt_step _))
end Go.Av.Rf
set_option linter.unusedVariables false
namespace Go.Av.Rf
def IsLeast (p q m : Nat) : Prop := m ≤ 2139095040 ∧ amt m * q ≤ p ∧ (m < 2139095040 → p < amt (m + 1) * q)
theorem least_spec {fu : Nat} {p q : Nat} (hq : (dig q).length ≤ 1000) (hf : 3000 < fu) : ∃ m, IsLeast p q m ∧ ref01_least fu (dig p) (dig q) = some (m : Int) := by
  unfold ref01_least ref01_least.W1
  suffices h : ∀ (n fu' : Nat) (lo hi : Nat), lo < hi → hi ≤ 2139095041 → hi - lo ≤ 2 ^ n → n < fu' → amt lo * q ≤ p → (hi < 2139095041 → p < amt hi * q) →
      ∃ m, IsLeast p q m ∧ cloop (fun next s => ref01_least.L1 fu (dig p) (dig q) (fun x6 x7 => next (x6, x7)) s.1 s.2) fu' ((lo : Int), (hi : Int)) = some (m : Int) by
    exact h 31 fu 0 2139095041 (by decide) (by decide) (by decide) (by omega) (by simp [amt]) (fun h => absurd h (by decide))
  intro n
  induction n with
  | zero =>
    intro fu' lo hi h1 h2 h3 h4 h5 h6
    cases fu' with
    | zero => omega
    | succ f =>
      refine ⟨lo, ⟨by omega, h5, fun h => ?_⟩, ?_⟩
      · have : hi = lo + 1 := by simp at h3; omega
        subst this
        exact h6 (by omega)
      · simp only [cloop]
        unfold ref01_least.L1
        simp at h3
        rw [if_neg (by rw [u32_eq (by omega) (by omega)]; omega)]
  | succ n ih =>
    intro fu' lo hi h1 h2 h3 h4 h5 h6
    cases fu' with
    | zero => omega
    | succ f =>
      simp only [cloop]
      unfold ref01_least.L1
      have e1 : wk .u32 ((hi : Int) - (lo : Int)) = ((hi - lo : Nat) : Int) := by rw [u32_eq (by omega) (by omega)]; omega
      rw [e1]
      by_cases h : 1 < hi - lo
      · rw [if_pos (by omega)]
        have e2 : wk .u32 ((lo : Int) + wk .u32 (Int.tdiv ((hi - lo : Nat) : Int) 2)) = ((lo + (hi - lo) / 2 : Nat) : Int) := by
          rw [Int.tdiv_eq_ediv_of_nonneg (by omega), u32_eq (x := ((hi - lo : Nat) : Int) / 2) (by omega) (by omega), u32_eq (by omega) (by omega)]; omega
        rw [e2]
        generalize hmid : lo + (hi - lo) / 2 = mid
        have hb1 : lo < mid := by omega
        have hb2 : mid < hi := by omega
        rw [Nat.pow_succ] at h3
        have hal := amt_length (m := mid) (by omega)
        rw [Amount_spec (by omega) (by omega), ob_some, Times_spec (by omega) (by omega) (by omega), ob_some, Compare_spec ?_ ?_, ob_some]
        · by_cases hc : amt mid * q ≤ p
          · have : cmpZ (amt mid * q) p ≤ 0 := by unfold cmpZ; split <;> (try split) <;> omega
            rw [if_pos this]
            exact ih f mid hi hb2 h2 (by omega) (by omega) hc h6
          · have : ¬ cmpZ (amt mid * q) p ≤ 0 := by
              unfold cmpZ
              rw [if_neg (by omega), if_pos (by omega)]
              decide
            rw [if_neg this]
            exact ih f lo mid hb1 (by omega) (by omega) (by omega) h5 (fun _ => by omega)
        all_goals
          have hle : (dig (amt mid * q)).length ≤ 9 + 1000 := dig_length_le (by
            have a1 := val_lt (dig_wds (amt mid))
            have a2 := val_lt (dig_wds q)
            rw [val_dig] at a1 a2
            have b1 := pow32_mono hal
            have b2 := pow32_mono hq
            have c0 := pow32_pos 9
            have c1 : ((amt mid : Nat) : Int) * (q : Int) ≤ 4294967296 ^ 9 * (q : Int) := Int.mul_le_mul_of_nonneg_right (by omega) (by omega)
            have c2 : (4294967296 : Int) ^ 9 * (q : Int) < 4294967296 ^ 9 * 4294967296 ^ 1000 := Int.mul_lt_mul_of_pos_left (by omega) c0
            rw [Int.pow_add, Int.natCast_mul]
            omega)
          omega
      · refine ⟨lo, ⟨by omega, h5, fun h' => ?_⟩, by rw [if_neg (by omega)]⟩
        have : hi = lo + 1 := by omega
        subst this
        exact h6 (by omega)
end Go.Av.Rf
set_option linter.unusedVariables false
namespace Go.Av.Rf
def capN (x : Nat) : Nat := if x < 2139095040 then x else 2139095040
theorem capN_lt {x : Nat} (h : x < 2139095040) : capN x = x := if_pos h
theorem capN_ge {x : Nat} (h : 2139095040 ≤ x) : capN x = 2139095040 := if_neg (Nat.not_lt_of_le h)
def rnd (p q m : Nat) : Nat :=
  if m = 2139095040 then m else if amt m * q = p then m
  else if (amt m + amt (m + 1)) * q < 2 * p ∨ ((amt m + amt (m + 1)) * q = 2 * p ∧ m % 2 = 1) then m + 1 else m
theorem amt_lt_of {m n q p : Nat} (h1 : amt m * q ≤ p) (h2 : p < amt n * q) : m < n := by
  rcases Nat.lt_or_ge m n with h | h
  · exact h
  · have := Nat.mul_le_mul_right q (amt_mono h)
    omega
theorem isLeast_inf {p q m c : Nat} (h : IsLeast p q m) (hc : 2139095040 ≤ c) (hp : amt c * q ≤ p) : m = 2139095040 := by
  obtain ⟨h1, h2, h3⟩ := h
  rcases Nat.lt_or_ge m 2139095040 with h | h
  · have := amt_lt_of hp (h3 h)
    omega
  · omega
theorem isLeast_eq {p q m c : Nat} (h : IsLeast p q m) (hc : c < 2139095040) (hp : amt c * q ≤ p) (hl : p < amt (c + 1) * q) : m = c := by
  obtain ⟨h1, h2, h3⟩ := h
  have a := amt_lt_of h2 hl
  rcases Nat.lt_or_ge m 2139095040 with h | h
  · have := amt_lt_of hp (h3 h)
    omega
  · omega
theorem cmp_half {half left r W : Nat} (hr : r < W) : (half * W < left * W + r ↔ half < left ∨ half = left ∧ r ≠ 0) ∧ (half * W = left * W + r ↔ half = left ∧ r = 0) := by
  rcases Nat.lt_trichotomy half left with h | h | h
  · have h1 : (half + 1) * W ≤ left * W := Nat.mul_le_mul_right W h
    rw [Nat.add_mul, Nat.one_mul] at h1
    constructor <;> constructor <;> intro hh <;> first | omega | (exact .inl h)
  · subst h
    constructor <;> constructor <;> intro hh <;> omega
  · have h1 : (left + 1) * W ≤ half * W := Nat.mul_le_mul_right W h
    rw [Nat.add_mul, Nat.one_mul] at h1
    constructor <;> constructor <;> intro hh <;> omega
theorem rnd_down {sig r e1 e2 drop u M p m : Nat} (hd : 0 < drop) (hr : r < 2 ^ e1) (hp : p = sig * 2 ^ e1 + r) (hu : u + e2 = e1 + drop) (hM : M = sig / 2 ^ drop) (hM1 : M < 16777216) (hM2 : u = 0 ∨ 8388608 ≤ M)
    (h : IsLeast p (2 ^ e2) m) : rnd p (2 ^ e2) m = capN (u * 8388608 + M + if (2 ^ (drop - 1) < sig % 2 ^ drop ∨ 2 ^ (drop - 1) = sig % 2 ^ drop ∧ r ≠ 0) ∨ (2 ^ (drop - 1) = sig % 2 ^ drop ∧ r = 0) ∧ M % 2 = 1 then 1 else 0) := by
  have hW : 0 < 2 ^ e1 := Nat.pos_of_ne_zero (by simp)
  have hdiv : sig = M * 2 ^ drop + sig % 2 ^ drop := by rw [hM, Nat.mul_comm]; exact (Nat.div_add_mod sig (2 ^ drop)).symm
  have hmod : sig % 2 ^ drop < 2 ^ drop := Nat.mod_lt _ (Nat.pos_of_ne_zero (by simp))
  generalize sig % 2 ^ drop = left at *
  have hhalf : 2 ^ drop = 2 * 2 ^ (drop - 1) := by rw [← Nat.pow_succ']; congr 1; omega
  generalize hh : 2 ^ (drop - 1) = half at *
  have hq : 2 ^ u * 2 ^ e2 = 2 * half * 2 ^ e1 := by rw [← Nat.pow_add, hu, Nat.pow_add, hhalf, Nat.mul_comm]
  generalize 2 ^ e1 = W at *
  have hp2 : p = M * (2 * half * W) + (left * W + r) := by
    rw [hp, hdiv, hhalf, Nat.add_mul, Nat.mul_assoc M, Nat.add_assoc]
  have hlow : left * W + r < 2 * half * W := by
    have h1 : (left + 1) * W ≤ 2 * half * W := Nat.mul_le_mul_right W (by omega)
    rw [Nat.add_mul, Nat.one_mul] at h1
    omega
  have a0 : amt (u * 8388608 + M) * 2 ^ e2 = M * (2 * half * W) := by rw [amt_code (by omega) hM2, Nat.mul_assoc, hq]
  have a1 : amt (u * 8388608 + M + 1) * 2 ^ e2 = M * (2 * half * W) + 2 * half * W := by
    rw [Nat.add_assoc, amt_code (by omega) (by omega), Nat.mul_assoc, hq, Nat.add_mul, Nat.one_mul]
  obtain ⟨c1, c2⟩ := cmp_half (half := half) (left := left) hr
  obtain ⟨c, hc⟩ : ∃ c, c = u * 8388608 + M := ⟨_, rfl⟩
  rw [← hc] at a0 a1 ⊢
  rcases Nat.lt_or_ge c 2139095040 with hlt | hge
  · have hm : m = c := isLeast_eq h hlt (by omega) (by omega)
    subst hm
    unfold rnd
    rw [if_neg (by omega), Nat.add_mul, a0, a1]
    have hpar : m % 2 = M % 2 := by omega
    rw [hpar, Nat.mul_assoc 2 half W] at *
    generalize M * (2 * (half * W)) = X at *
    by_cases hex : X = p
    · rw [if_pos hex, if_neg]
      · rw [Nat.add_zero, capN_lt hlt]
      · intro hcon
        have hz : left * W + r = 0 := by omega
        have hhw : 0 < half := by rw [← hh]; exact Nat.pos_of_ne_zero (by simp)
        have hz2 : left * W = 0 := by omega
        have hl0 : left = 0 := by
          rcases Nat.mul_eq_zero.1 hz2 with h | h
          · exact h
          · omega
        omega
    · rw [if_neg hex]
      have e1 : X + (X + 2 * (half * W)) < 2 * p ↔ half * W < left * W + r := by omega
      have e2 : X + (X + 2 * (half * W)) = 2 * p ↔ half * W = left * W + r := by omega
      simp only [e1, e2, c1, c2]
      split
      · rcases Nat.lt_or_ge (m + 1) 2139095040 with h | h
        · rw [capN_lt h]
        · rw [capN_ge h]; omega
      · rw [Nat.add_zero, capN_lt hlt]
  · have hm := isLeast_inf h hge (by omega)
    unfold rnd
    rw [if_pos hm, hm]
    split
    · exact (capN_ge (by omega)).symm
    · exact (capN_ge (by omega)).symm
theorem rnd_exact {sig e1 e2 k u M p m : Nat} (hp : p = sig * 2 ^ e1) (hu : u + e2 + k = e1) (hM : M = sig * 2 ^ k) (hM1 : M ≤ 16777216) (hM2 : u = 0 ∨ 8388608 ≤ M)
    (h : IsLeast p (2 ^ e2) m) : rnd p (2 ^ e2) m = capN (u * 8388608 + M) := by
  have a0 : amt (u * 8388608 + M) * 2 ^ e2 = p := by
    rw [amt_code hM1 hM2, hp, hM, Nat.mul_assoc, Nat.mul_assoc, ← Nat.pow_add, ← Nat.pow_add]
    congr 2; omega
  have hlt := amt_step (u * 8388608 + M)
  have h3 := (Nat.mul_lt_mul_right (Nat.pos_of_ne_zero (by simp) : 0 < 2 ^ e2)).2 hlt
  obtain ⟨c, hc⟩ : ∃ c, c = u * 8388608 + M := ⟨_, rfl⟩
  rw [← hc] at a0 hlt h3 ⊢
  clear hc
  rcases Nat.lt_or_ge c 2139095040 with hlt | hge
  · have hm : m = c := isLeast_eq h hlt (by omega) (by omega)
    subst hm
    unfold rnd
    rw [if_neg (by omega), if_pos a0, capN_lt hlt]
  · have hm := isLeast_inf h hge (by omega)
    unfold rnd
    rw [if_pos hm, hm]
    exact (capN_ge hge).symm
end Go.Av.Rf
set_option linter.unusedVariables false
namespace Go.Av.Rf
theorem min64 {k : Nat} (hk : k ≤ 64) : min ((k : Nat) : Int).toNat IntKind.u64.bits = k := by simp [IntKind.bits]; omega
theorem two_cast (k : Nat) : ((2 ^ k : Nat) : Int) = (2 : Int) ^ k := by rw [Int.natCast_pow]; rfl
theorem shl_nat {a k : Nat} (hk : k ≤ 64) (h : a * 2 ^ k < 18446744073709551616) : shlk .u64 (a : Int) (k : Int) = ((a * 2 ^ k : Nat) : Int) := by
  unfold shlk
  rw [min64 hk, ← two_cast, ← Int.natCast_mul]
  exact u64_eq (by omega) (by omega)
theorem shr_at {a n : Nat} : (a : Int).fdiv ((2 : Int) ^ n) = ((a / 2 ^ n : Nat) : Int) := by
  rw [← two_cast, Int.fdiv_eq_ediv_of_nonneg _ (Int.natCast_nonneg _)]
  exact (Int.natCast_ediv a (2 ^ n)).symm
theorem pow_big {a k : Nat} {b : Nat} (ha : a < 2 ^ b) (hk : b ≤ k) : a / 2 ^ k = 0 := Nat.div_eq_of_lt (Nat.lt_of_lt_of_le ha (two_mono hk))
theorem shr_nat {a k : Nat} (h : a < 18446744073709551616) : shrk .u64 (a : Int) (k : Int) = ((a / 2 ^ k : Nat) : Int) := by
  unfold shrk
  rw [shr_at]
  by_cases hk : k ≤ 64
  · rw [min64 hk]
  · rw [show min ((k : Nat) : Int).toNat IntKind.u64.bits = 64 by simp [IntKind.bits]; omega, pow_big (b := 64) (by simpa using h) (Nat.le_refl _), pow_big (b := 64) (by simpa using h) (by omega)]
theorem shr_nat32 {a k : Nat} (h : a < 4294967296) : shrk .u32 (a : Int) (k : Int) = ((a / 2 ^ k : Nat) : Int) := by
  unfold shrk
  rw [shr_at]
  by_cases hk : k ≤ 32
  · rw [show min ((k : Nat) : Int).toNat IntKind.u32.bits = k by simp [IntKind.bits]; omega]
  · rw [show min ((k : Nat) : Int).toNat IntKind.u32.bits = 32 by simp [IntKind.bits]; omega, pow_big (b := 32) (by simpa using h) (Nat.le_refl _), pow_big (b := 32) (by simpa using h) (by omega)]
theorem bv_nat {n a : Nat} (h : a < 2 ^ n) : (BitVec.ofInt n (a : Int)).toNat = a := by
  rw [BitVec.toNat_ofInt]
  have : ((a : Int) % ((2 ^ n : Nat) : Int)) = a := Int.emod_eq_of_lt (by omega) (by omega)
  rw [this]; rfl
theorem and_nat {a b : Nat} (ha : a < 18446744073709551616) (hb : b < 18446744073709551616) : band .u64 (a : Int) (b : Int) = ((a &&& b : Nat) : Int) := by
  unfold band
  rw [show IntKind.u64.bits = 64 from rfl, BitVec.toNat_and, bv_nat (by simpa using ha), bv_nat (by simpa using hb)]
  have : a &&& b ≤ a := Nat.and_le_left
  exact u64_eq (by omega) (by omega)
theorem and_nat32 {a b : Nat} (ha : a < 4294967296) (hb : b < 4294967296) : band .u32 (a : Int) (b : Int) = ((a &&& b : Nat) : Int) := by
  unfold band
  rw [show IntKind.u32.bits = 32 from rfl, BitVec.toNat_and, bv_nat (by simpa using ha), bv_nat (by simpa using hb)]
  have : a &&& b ≤ a := Nat.and_le_left
  exact u32_eq (by omega) (by omega)
theorem mask_nat {a j : Nat} (hj : j ≤ 64) (ha : a < 18446744073709551616) : band .u64 (a : Int) ((2 ^ j - 1 : Nat) : Int) = ((a % 2 ^ j : Nat) : Int) := by
  have : (2 : Nat) ^ j ≤ 2 ^ 64 := two_mono hj
  rw [and_nat ha (by omega), Nat.and_two_pow_sub_one_eq_mod]
theorem mask_nat32 {a j : Nat} (hj : j ≤ 32) (ha : a < 4294967296) : band .u32 (a : Int) ((2 ^ j - 1 : Nat) : Int) = ((a % 2 ^ j : Nat) : Int) := by
  have : (2 : Nat) ^ j ≤ 2 ^ 32 := two_mono hj
  rw [and_nat32 ha (by omega), Nat.and_two_pow_sub_one_eq_mod]
theorem or_low {f j : Nat} (c : Nat) (hf : f < 2 ^ j) : f ||| 2 ^ j * c = f + 2 ^ j * c := by
  rw [Nat.or_comm, ← Nat.two_pow_add_eq_or_of_lt hf, Nat.add_comm]
theorem or_nat {a b : Nat} (ha : a < 18446744073709551616) (hb : b < 18446744073709551616) (hs : a ||| b < 18446744073709551616) : bor .u64 (a : Int) (b : Int) = ((a ||| b : Nat) : Int) := by
  unfold bor
  rw [show IntKind.u64.bits = 64 from rfl, BitVec.toNat_or, bv_nat (by simpa using ha), bv_nat (by simpa using hb)]
  exact u64_eq (by omega) (by omega)
theorem or_nat32 {a b : Nat} (ha : a < 4294967296) (hb : b < 4294967296) (hs : a ||| b < 4294967296) : bor .u32 (a : Int) (b : Int) = ((a ||| b : Nat) : Int) := by
  unfold bor
  rw [show IntKind.u32.bits = 32 from rfl, BitVec.toNat_or, bv_nat (by simpa using ha), bv_nat (by simpa using hb)]
  exact u32_eq (by omega) (by omega)
def sgN (neg : Bool) : Nat := if neg then 2147483648 else 0
theorem sign_spec {fu : Nat} {neg : Bool} : soft_sign fu neg = some ((sgN neg : Nat) : Int) := by
  unfold soft_sign sgN
  cases neg <;> rfl
theorem sign_or {neg : Bool} {m : Nat} (hm : m < 2147483648) : bor .u32 ((sgN neg : Nat) : Int) (m : Int) = ((sgN neg + m : Nat) : Int) := by
  have h : sgN neg ||| m = sgN neg + m := by
    unfold sgN
    cases neg with
    | false => simp
    | true =>
      have := or_low (f := m) (j := 31) 1 (by simpa using hm)
      rw [Nat.or_comm]
      simpa [Nat.add_comm] using this
  have hs : sgN neg ≤ 2147483648 := by unfold sgN; split <;> omega
  rw [or_nat32 (by omega) (by omega) (by omega), h]
end Go.Av.Rf
set_option linter.unusedVariables false
namespace Go.Av.Rf
def lenOk (T : ByteArray) : Bool := (List.range 256).all fun i => match sat? T (i : Int) with
  | some n => decide (0 ≤ n) && decide (n ≤ 8) && decide (i < 2 ^ n.toNat) && (decide (n = 0) || decide (2 ^ (n.toNat - 1) ≤ i))
  | none => false
theorem lenOk_spec {T : ByteArray} (h : lenOk T = true) {i : Nat} (hi : i < 256) : ∃ n : Nat, sat? T (i : Int) = some (n : Int) ∧ n ≤ 8 ∧ i < 2 ^ n ∧ (n = 0 ∨ 2 ^ (n - 1) ≤ i) := by
  have := List.all_eq_true.1 h i (List.mem_range.2 hi)
  split at this
  · rename_i n hn
    simp only [Bool.and_eq_true, decide_eq_true_eq, Bool.or_eq_true] at this
    obtain ⟨⟨⟨a, b⟩, c⟩, d⟩ := this
    refine ⟨n.toNat, by rw [hn, Int.toNat_of_nonneg a], by omega, c, ?_⟩
    rcases d with d | d
    · exact .inl (by omega)
    · exact .inr d
  · cases this
def Bits (x n : Nat) : Prop := x < 2 ^ n ∧ (n = 0 ∨ 2 ^ (n - 1) ≤ x)
theorem Bits.shift {x n k : Nat} (h : Bits (x / 2 ^ k) n) (h0 : 2 ^ k ≤ x) : Bits x (k + n) := by
  have hk : 0 < 2 ^ k := Nat.pos_of_ne_zero (by simp)
  obtain ⟨h1, h2⟩ := h
  have h3 : 1 ≤ x / 2 ^ k := (Nat.le_div_iff_mul_le hk).2 (by omega)
  refine ⟨?_, .inr ?_⟩
  · rw [Nat.pow_add]
    have h := (Nat.div_lt_iff_lt_mul hk).1 h1
    rw [Nat.mul_comm]; exact h
  · rcases h2 with h2 | h2
    · subst h2; simp at h1; omega
    · by_cases hn : n = 0
      · subst hn; simp at h1; omega
      · rw [show k + n - 1 = (n - 1) + k by omega, Nat.pow_add]
        exact (Nat.le_div_iff_mul_le hk).1 h2
theorem Len_k2 {fu x c : Nat} (hx : x < 65536) (hc : c ≤ 1000) : ∃ n : Nat, math_bits_Len64.k2 fu (x : Int) (c : Int) = some ((c + n : Nat) : Int) ∧ Bits x n ∧ n ≤ 16 := by
  unfold math_bits_Len64.k2
  generalize hT : (ByteArray.mk _ : ByteArray) = T
  have hok : lenOk T = true := by subst hT; kernel_rfl
  clear hT
  by_cases h : 256 ≤ x
  · rw [if_pos (by omega), show ((8 : Int)) = ((8 : Nat) : Int) from rfl, shr_nat (by omega)]
    have h8 : x / 2 ^ 8 < 256 := by omega
    obtain ⟨n, e1, e2, e3, e4⟩ := lenOk_spec hok h8
    have hw : wk .u8 ((x / 2 ^ 8 : Nat) : Int) = ((x / 2 ^ 8 : Nat) : Int) := by
      have : ∀ z : Int, wk .u8 z = z % 256 := fun z => by simp [wk, IntKind.wrap, IntKind.signed, IntKind.bits]
      rw [this, Int.emod_eq_of_lt (by omega) (by omega)]
    rw [hw, e1, ob_some]
    refine ⟨8 + n, ?_, Bits.shift ⟨e3, e4⟩ (by omega), by omega⟩
    rw [wk_eq (x := ((c : Nat) : Int) + ((8 : Nat) : Int)) (by omega) (by omega), wk_eq (x := ((n : Nat) : Int)) (by omega) (by omega), wk_eq (by omega) (by omega)]
    congr 1
    omega
  · rw [if_neg (by omega)]
    have hw : wk .u8 ((x : Nat) : Int) = ((x : Nat) : Int) := by
      have : ∀ z : Int, wk .u8 z = z % 256 := fun z => by simp [wk, IntKind.wrap, IntKind.signed, IntKind.bits]
      rw [this, Int.emod_eq_of_lt (by omega) (by omega)]
    obtain ⟨n, e1, e2, e3, e4⟩ := lenOk_spec hok (i := x) (by omega)
    refine ⟨n, ?_, ⟨e3, e4⟩, by omega⟩
    rw [hw, e1, ob_some, wk_eq (x := ((n : Nat) : Int)) (by omega) (by omega), wk_eq (by omega) (by omega)]
    congr 1
theorem Len_k1 {fu x c : Nat} (hx : x < 4294967296) (hc : c ≤ 100) : ∃ n : Nat, math_bits_Len64.k1 fu (x : Int) (c : Int) = some ((c + n : Nat) : Int) ∧ Bits x n ∧ n ≤ 32 := by
  unfold math_bits_Len64.k1; try unfold jn
  by_cases h : 65536 ≤ x
  · rw [if_pos (by omega), show ((16 : Int)) = ((16 : Nat) : Int) from rfl, shr_nat (by omega)]
    obtain ⟨n, e1, e2, e3⟩ := Len_k2 (fu := fu) (x := x / 2 ^ 16) (c := c + 16) (by omega) (by omega)
    refine ⟨16 + n, ?_, e2.shift (by omega), by omega⟩
    rw [wk_eq (x := ((c : Nat) : Int) + ((16 : Nat) : Int)) (by omega) (by omega), show ((c : Nat) : Int) + ((16 : Nat) : Int) = ((c + 16 : Nat) : Int) by omega, e1]
    congr 1; omega
  · rw [if_neg (by omega)]
    obtain ⟨n, e1, e2, e3⟩ := Len_k2 (fu := fu) (x := x) (c := c) (by omega) (by omega)
    exact ⟨n, e1, e2, by omega⟩
theorem Len64_spec {fu x : Nat} (hx : x < 18446744073709551616) : ∃ n : Nat, math_bits_Len64 fu (x : Int) = some (n : Int) ∧ Bits x n ∧ n ≤ 64 := by
  unfold math_bits_Len64; try unfold jn
  by_cases h : 4294967296 ≤ x
  · rw [if_pos (by omega), show ((32 : Int)) = ((32 : Nat) : Int) from rfl, shr_nat (by omega)]
    obtain ⟨n, e1, e2, e3⟩ := Len_k1 (fu := fu) (x := x / 2 ^ 32) (c := 32) (by omega) (by omega)
    exact ⟨32 + n, e1, e2.shift (by omega), by omega⟩
  · rw [if_neg (by omega), show ((0 : Int)) = ((0 : Nat) : Int) from rfl]
    obtain ⟨n, e1, e2, e3⟩ := Len_k1 (fu := fu) (x := x) (c := 0) (by omega) (by omega)
    exact ⟨n, by rw [e1]; congr 1; omega, e2, by omega⟩
end Go.Av.Rf
set_option linter.unusedVariables false
namespace Go.Av.Rf
theorem isLeast_one {p q m m' : Nat} (h : IsLeast p q m) (h' : IsLeast p q m') : m = m' := by
  have lt : ∀ {m m' : Nat}, IsLeast p q m → IsLeast p q m' → ¬ m < m' := fun {m m'} a b hlt => by
    have h1 := a.2.2 (by have := b.1; omega)
    have h2 := Nat.mul_le_mul_right q (amt_mono (show m + 1 ≤ m' by omega))
    have h3 := b.2.1
    omega
  have := lt h h'
  have := lt h' h
  omega
open Classical in
noncomputable def fl (p q : Nat) : Nat := if h : ∃ m, IsLeast p q m then rnd p q h.choose else 0
theorem fl_eq {p q m : Nat} (h : IsLeast p q m) : fl p q = rnd p q m := by
  have hx : ∃ m, IsLeast p q m := ⟨m, h⟩
  unfold fl
  rw [dif_pos hx, isLeast_one hx.choose_spec h]
theorem rnd_le {p q m : Nat} (h : IsLeast p q m) : rnd p q m ≤ 2139095040 := by
  have := h.1
  unfold rnd
  split
  · omega
  · split
    · omega
    · split <;> omega
theorem dig_len_mono {a b : Nat} (h : a ≤ b) : (dig a).length ≤ (dig b).length := dig_length_le (by
  have := val_lt (dig_wds b)
  rw [val_dig] at this
  omega)
theorem dig_len_mul (a b : Nat) : (dig (a * b)).length ≤ (dig a).length + (dig b).length := dig_length_le (by
  have h1 := val_lt (dig_wds a)
  have h2 := val_lt (dig_wds b)
  rw [val_dig] at h1 h2
  have c0 := pow32_pos (dig a).length
  have c1 : (a : Int) * (b : Int) ≤ 4294967296 ^ (dig a).length * (b : Int) := Int.mul_le_mul_of_nonneg_right (by omega) (by omega)
  have c2 : (4294967296 : Int) ^ (dig a).length * (b : Int) < 4294967296 ^ (dig a).length * 4294967296 ^ (dig b).length := Int.mul_lt_mul_of_pos_left (by omega) c0
  rw [Int.pow_add, Int.natCast_mul]
  omega)
theorem amt2_length {m : Nat} (h : m < 2139095040) : (dig (amt m + amt (m + 1))).length ≤ 9 := dig_length_le (by
  have h1 := amt_lt (m := m) (by omega)
  have h2 := amt_lt (m := m + 1) (by omega)
  have e : ((16777216 * 2 ^ 254 + 16777216 * 2 ^ 254 : Nat) : Int) ≤ 4294967296 ^ 9 := by decide
  omega)
theorem cmpZ_zero {a b : Nat} : cmpZ a b = 0 ↔ a = b := by unfold cmpZ; split <;> (try split) <;> constructor <;> intro h <;> omega
theorem cmpZ_neg {a b : Nat} : cmpZ a b < 0 ↔ a < b := by unfold cmpZ; split <;> (try split) <;> constructor <;> intro h <;> omega
theorem Rounded_spec {fu : Nat} {p q : Nat} {neg : Bool} (hp : (dig p).length ≤ 900) (hq : (dig q).length ≤ 900) (hf : 4000 < fu) :
    ref01_Rounded fu 0 neg (dig p) (dig q) = some ((sgN neg + fl p q : Nat) : Int) ∧ fl p q ≤ 2139095040 := by
  obtain ⟨m, hm, hl⟩ := least_spec (fu := fu) (p := p) (q := q) (by omega) (by omega)
  have hfl := fl_eq hm
  have hle := rnd_le hm
  refine ⟨?_, by omega⟩
  have hsg : sgN neg ≤ 2147483648 := by unfold sgN; split <;> omega
  have hk3 : ref01_Rounded.k3 fu (dig p) (dig q) (m : Int) ((sgN neg : Nat) : Int) false false = some ((sgN neg + fl p q : Nat) : Int) := by
    have hm1 := hm.1
    unfold ref01_Rounded.k3; try unfold jn
    have la := amt_length (m := m) (by omega)
    have lm := dig_len_mul (amt m) q
    rw [Amount_spec (by omega) (by omega), ob_some, Times_spec (by omega) (by omega) (by omega), ob_some, Compare_spec (by omega) (by omega), ob_some, hfl]
    unfold rnd
    by_cases h1 : m = 2139095040
    · rw [if_pos (by omega), if_pos h1, if_neg (by decide), u32_eq (by omega) (by omega)]
      congr 1; omega
    · rw [if_neg (by omega), if_neg h1]
      by_cases h2 : amt m * q = p
      · rw [if_pos (cmpZ_zero.2 h2), if_pos h2, u32_eq (by omega) (by omega)]
        congr 1
      · rw [if_neg (fun h => h2 (cmpZ_zero.1 h)), if_neg h2, if_neg (by decide)]
        unfold ref01_Rounded.k4
        have l1 := amt_length (m := m + 1) (by omega)
        have l2 := amt2_length (m := m) (by omega)
        have l3 := dig_len_mul (amt m + amt (m + 1)) q
        have e1 : wk .u32 ((m : Int) + 1) = ((m + 1 : Nat) : Int) := by rw [u32_eq (by omega) (by omega)]; omega
        rw [if_neg (by decide), e1, Amount_spec (by omega) (by omega), ob_some, Plus_spec (by omega) (by omega) (by omega), ob_some, Times_spec (by omega) (by omega) (by omega), ob_some,
          show ((1 : Int)) = ((1 : Nat) : Int) from rfl, Twice_spec (by omega) (by omega) (by omega), ob_some, Compare_spec (by omega) (by omega), ob_some]
        have hpar : Int.tmod (m : Int) 2 = ((m % 2 : Nat) : Int) := by rw [Int.tmod_eq_emod_of_nonneg (by omega)]; omega
        have w1 : wk .u32 (((sgN neg : Nat) : Int) + (m : Int)) = ((sgN neg + m : Nat) : Int) := by rw [u32_eq (by omega) (by omega)]; omega
        have w2 : wk .u32 (((sgN neg + m : Nat) : Int) + ((1 : Nat) : Int)) = ((sgN neg + (m + 1) : Nat) : Int) := by rw [u32_eq (by omega) (by omega)]; omega
        rw [w1, w2, hpar, Nat.pow_one, Nat.mul_comm p 2]
        by_cases h3 : (amt m + amt (m + 1)) * q < 2 * p
        · rw [if_pos (cmpZ_neg.2 h3), if_pos (.inl h3)]
        · rw [if_neg (fun h => h3 (cmpZ_neg.1 h))]
          by_cases h4 : (amt m + amt (m + 1)) * q = 2 * p
          · rw [if_pos (cmpZ_zero.2 h4)]
            by_cases h5 : m % 2 = 1
            · rw [if_pos (by omega), if_pos (.inr ⟨h4, h5⟩)]
            · rw [if_neg (by omega), if_neg (fun h => by rcases h with h | h <;> omega)]
          · rw [if_neg (fun h => h4 (cmpZ_zero.1 h)), if_neg (fun h => by rcases h with h | h <;> omega)]
  have hk1 : ref01_Rounded.k1 fu 0 (dig p) (dig q) (m : Int) neg ((sgN neg : Nat) : Int) = some ((sgN neg + fl p q : Nat) : Int) := by
    unfold ref01_Rounded.k1; try unfold jn
    rw [if_neg (by decide), if_neg (by decide)]
    unfold ref01_Rounded.k2; try unfold jn
    rw [if_neg (by decide), if_neg (by decide)]
    exact hk3
  unfold ref01_Rounded; try unfold jn
  rw [hl, ob_some]
  cases neg with
  | true => rw [if_pos rfl]; exact hk1
  | false => rw [if_neg (by decide)]; exact hk1
theorem fl_zero {q : Nat} (hq : 0 < q) : fl 0 q = 0 := by
  have h0 : amt 0 = 0 := rfl
  have h : IsLeast 0 q 0 := ⟨by decide, by rw [h0]; omega, fun _ => Nat.mul_pos (by decide) hq⟩
  rw [fl_eq h]
  unfold rnd
  rw [if_neg (by decide), if_pos (by rw [h0]; omega)]
end Go.Av.Rf
set_option linter.unusedVariables false
namespace Go.Av.Rf
theorem imax_cast {a b : Int} : imax a b = max a b := by unfold imax; split <;> omega
theorem huge_spec {fu : Nat} {neg : Bool} : soft_huge fu 0 neg = some ((sgN neg + 2139095040 : Nat) : Int) := by
  unfold soft_huge soft_huge.k1; try unfold jn
  rw [chk_pos rfl, sign_spec, ob_some, show ((2139095040 : Int)) = ((2139095040 : Nat) : Int) from rfl, sign_or (by decide)]
theorem Round_k3_spec {fu : Nat} {neg : Bool} {e n : Int} {M u : Nat} {drop : Int} (hd : imax (wk .i64 (n - 24)) (wk .i64 ((-149) - e)) = drop) (hu : e + drop + 149 = (u : Int)) (hu2 : u ≤ 100000) (hM : M ≤ 16777216) (hM2 : u = 0 ∨ 8388608 ≤ M)
    (he1 : -100000 ≤ e) (he2 : e ≤ 100000) : soft_Round.k3 fu neg e n (M : Int) = some ((sgN neg + capN (u * 8388608 + M) : Nat) : Int) := by
  unfold soft_Round.k3
  rw [hd]
  by_cases h0 : M = 0
  · have : u = 0 := by omega
    subst this; subst h0
    rw [if_pos (show ((0 : Nat) : Int) = 0 from rfl), sign_spec, ob_some]
    rfl
  · rw [if_neg (by omega)]
    have hunit : wk .i64 (e + drop) = (u : Int) - 149 := by rw [wk_eq (by omega) (by omega)]; omega
    rw [hunit]
    by_cases h1 : 104 < (u : Int) - 149
    · rw [if_pos h1, huge_spec, ob_some, capN_ge (by omega)]
    · rw [if_neg h1]
      have e1 : wk .u64 (wk .i64 ((u : Int) - 149 + 149)) = ((u : Nat) : Int) := by rw [wk_eq (by omega) (by omega), u64_eq (by omega) (by omega)]; omega
      have e2 : shlk .u64 ((u : Nat) : Int) 23 = ((u * 8388608 : Nat) : Int) := shl_nat (k := 23) (by decide) (by omega)
      have e3 : wk .u64 (((u * 8388608 : Nat) : Int) + (M : Int)) = ((u * 8388608 + M : Nat) : Int) := by rw [u64_eq (by omega) (by omega)]; omega
      rw [e1, e2, e3]
      by_cases h2 : 2139095040 ≤ u * 8388608 + M
      · rw [if_pos (by omega), huge_spec, ob_some, capN_ge h2]
      · rw [if_neg (by omega), sign_spec, ob_some, u32_eq (by omega) (by omega), sign_or (by omega), capN_lt (by omega)]
theorem Round_k2_spec {fu : Nat} {neg : Bool} {e n : Int} {M : Nat} {above tie rest : Bool} (hM : M < 16777216) :
    soft_Round.k2 fu neg e n (M : Int) above tie rest = soft_Round.k3 fu neg e n ((M + if above = true ∨ tie = true ∧ M % 2 = 1 then 1 else 0 : Nat) : Int) := by
  unfold soft_Round.k2; try unfold jn
  have e1 : wk .u64 ((M : Int) + 1) = ((M + 1 : Nat) : Int) := by rw [u64_eq (by omega) (by omega)]; omega
  have e2 : band .u64 (M : Int) 1 = ((M % 2 : Nat) : Int) := mask_nat (j := 1) (by decide) (by omega)
  rw [e1, e2]
  cases above with
  | true => rw [if_pos rfl, if_pos (.inl rfl)]
  | false =>
    rw [if_neg (by decide)]
    cases tie with
    | true =>
      rw [if_pos rfl]
      by_cases h : M % 2 = 1
      · rw [if_pos (by omega), if_pos (.inr ⟨rfl, h⟩)]
      · rw [if_neg (by omega), if_neg (fun hh => by rcases hh with hh | hh; cases hh; exact h hh.2)]; rfl
    | false => rw [if_neg (by decide), if_neg (fun hh => by rcases hh with hh | hh; cases hh; cases hh.1)]; rfl
theorem Round_spec {fu : Nat} {neg : Bool} {e : Int} {sig p r e1 e2 : Nat} {more : Bool} (h0 : 0 < sig) (h63 : sig < 9223372036854775808) (he : e = (e1 : Int) - e2 - 149) (h300 : -300 ≤ e) (h301 : e ≤ 1000) (hr : r < 2 ^ e1)
    (hmore : more = true ↔ r ≠ 0) (hbig : r ≠ 0 → 33554432 ≤ sig) (hp : p = sig * 2 ^ e1 + r) (hx : ∃ m, IsLeast p (2 ^ e2) m) :
    soft_Round fu 0 neg e (sig : Int) more = some ((sgN neg + fl p (2 ^ e2) : Nat) : Int) := by
  obtain ⟨m, hm⟩ := hx
  rw [fl_eq hm]
  unfold soft_Round; try unfold jn
  rw [chk_pos rfl]
  obtain ⟨n, hn, ⟨b1, b2⟩, hn64⟩ := Len64_spec (fu := fu) (x := sig) (by omega)
  have hn0 : n ≠ 0 := fun h => by subst h; simp at b1; omega
  have b2 : 2 ^ (n - 1) ≤ sig := by
    rcases b2 with h | h
    · exact absurd h hn0
    · exact h
  have hn63 : n ≤ 63 := by
    by_cases h : n ≤ 63
    · exact h
    · have : (2 : Nat) ^ 63 ≤ 2 ^ (n - 1) := two_mono (by omega)
      omega
  rw [hn, ob_some, if_neg (by omega), if_neg (by omega)]
  by_cases h200 : 200 < e
  · rw [if_pos h200, huge_spec, ob_some]
    have hinf : m = 2139095040 := isLeast_inf hm (c := 2139095040) (Nat.le_refl _) (by
      have ha : amt 2139095040 = 8388608 * 2 ^ 254 := by decide
      have hb : (8388608 : Nat) = 2 ^ 23 := by decide
      rw [ha, hb, Nat.mul_assoc, ← Nat.pow_add, ← Nat.pow_add]
      have h1 : (2 : Nat) ^ (23 + (254 + e2)) ≤ 2 ^ e1 := two_mono (by omega)
      have h2 : 1 * 2 ^ e1 ≤ sig * 2 ^ e1 := Nat.mul_le_mul_right _ h0
      omega)
    unfold rnd
    rw [if_pos hinf, hinf]
  · rw [if_neg h200]
    unfold soft_Round.k1; try unfold jn
    obtain ⟨drop, hd⟩ : ∃ d, imax (wk .i64 ((n : Int) - 24)) (wk .i64 ((-149) - e)) = d := ⟨_, rfl⟩
    have hd' : drop = max ((n : Int) - 24) ((-149) - e) := by rw [← hd, imax_cast, wk_eq (by omega) (by omega), wk_eq (by omega) (by omega)]
    rw [hd]
    by_cases hneg : drop ≤ 0
    · -- exact
      rw [if_pos hneg]
      obtain ⟨k, hk⟩ : ∃ k : Nat, drop = -(k : Int) := ⟨(-drop).toNat, by omega⟩
      obtain ⟨u, hu⟩ : ∃ u : Nat, e + drop + 149 = (u : Int) := ⟨(e + drop + 149).toNat, by omega⟩
      have hr0 : r = 0 := by
        by_cases h : r = 0
        · exact h
        · have h1 := hbig h
          have h2 : n ≤ 24 := by omega
          have h3 : (2 : Nat) ^ n ≤ 2 ^ 24 := two_mono h2
          omega
      subst hr0
      have e4 : wk .i64 (0 - drop) = (k : Int) := by rw [wk_eq (by omega) (by omega)]; omega
      have hM1 : sig * 2 ^ k < 16777216 := by
        have h1 : (2 : Nat) ^ n * 2 ^ k ≤ 2 ^ 24 := by rw [← Nat.pow_add]; exact two_mono (by omega)
        have h2 : sig * 2 ^ k < 2 ^ n * 2 ^ k := Nat.mul_lt_mul_of_pos_right b1 (Nat.pos_of_ne_zero (by simp))
        omega
      have hM2 : u = 0 ∨ 8388608 ≤ sig * 2 ^ k := by
        by_cases h : u = 0
        · exact .inl h
        · refine .inr ?_
          have h1 : (2 : Nat) ^ 23 ≤ 2 ^ (n - 1) * 2 ^ k := by rw [← Nat.pow_add]; exact two_mono (by omega)
          have h2 : 2 ^ (n - 1) * 2 ^ k ≤ sig * 2 ^ k := Nat.mul_le_mul_right _ b2
          omega
      rw [e4, chk_pos (by omega), shl_nat (by omega) (by omega), Round_k2_spec hM1, Round_k3_spec hd hu (by omega) (by split <;> omega) (by simpa using hM2) (by omega) (by omega)]
      rw [rnd_exact (by rw [hp, Nat.add_zero]) (by omega) rfl (by omega) hM2 hm]
      simp
    · rw [if_neg hneg]
      obtain ⟨dn, hdn⟩ : ∃ k : Nat, drop = (k : Int) := ⟨drop.toNat, by omega⟩
      obtain ⟨u, hu⟩ : ∃ u : Nat, e + drop + 149 = (u : Int) := ⟨(e + drop + 149).toNat, by omega⟩
      have hhalf : (2 : Nat) ^ dn = 2 * 2 ^ (dn - 1) := by rw [← Nat.pow_succ']; congr 1; omega
      have hhpos : 0 < 2 ^ (dn - 1) := Nat.pos_of_ne_zero (by simp)
      by_cases hbelow : (n : Int) < drop
      · -- less than half the least
        rw [if_pos hbelow]
        have hu0 : u = 0 := by omega
        have hsm : sig < 2 ^ (dn - 1) := by
          have : (2 : Nat) ^ n ≤ 2 ^ (dn - 1) := two_mono (by omega)
          omega
        have hdiv : sig / 2 ^ dn = 0 := Nat.div_eq_of_lt (by omega)
        have hmod : sig % 2 ^ dn = sig := Nat.mod_eq_of_lt (by omega)
        have h9 := Round_k2_spec (fu := fu) (neg := neg) (e := e) (n := (n : Int)) (M := 0) (above := false) (tie := false) (rest := true) (by decide)
        rw [if_neg (by simp), Nat.add_zero] at h9
        have h10 := Round_k3_spec (fu := fu) (neg := neg) (M := 0) hd hu (by omega) (by decide) (.inl hu0) (by omega) (by omega)
        rw [show (((0 : Nat)) : Int) = 0 from rfl] at h9 h10
        rw [h9, h10]
        rw [rnd_down (drop := dn) (u := u) (M := 0) (by omega) hr hp (by omega) hdiv.symm (by decide) (.inl hu0) hm, hmod]
        rw [if_neg (by omega)]
      · rw [if_neg hbelow]
        have hdn63 : dn ≤ 63 := by omega
        have hp64 : (2 : Nat) ^ dn ≤ 2 ^ 63 := two_mono hdn63
        have e5 : wk .i64 (drop - 1) = ((dn - 1 : Nat) : Int) := by rw [wk_eq (by omega) (by omega)]; omega
        have e6 : shlk .u64 1 ((dn - 1 : Nat) : Int) = ((2 ^ (dn - 1) : Nat) : Int) := by
          have := shl_nat (a := 1) (k := dn - 1) (by omega) (by omega)
          rw [Nat.one_mul] at this
          exact this
        have e7 : wk .u64 (shlk .u64 1 (drop : Int) - 1) = ((2 ^ dn - 1 : Nat) : Int) := by
          have := shl_nat (a := 1) (k := dn) (by omega) (by omega)
          rw [Nat.one_mul] at this
          rw [hdn, show ((1 : Int)) = ((1 : Nat) : Int) from rfl, this, u64_eq (by omega) (by omega)]
          omega
        have e8 : shrk .u64 (sig : Int) drop = ((sig / 2 ^ dn : Nat) : Int) := by rw [hdn]; exact shr_nat (by omega)
        have hM1 : sig / 2 ^ dn < 16777216 := by
          refine (Nat.div_lt_iff_lt_mul (Nat.pos_of_ne_zero (by simp))).2 ?_
          have h1 : (2 : Nat) ^ n ≤ 2 ^ 24 * 2 ^ dn := by rw [← Nat.pow_add]; exact two_mono (by omega)
          omega
        have hM2 : u = 0 ∨ 8388608 ≤ sig / 2 ^ dn := by
          by_cases h : u = 0
          · exact .inl h
          · refine .inr ((Nat.le_div_iff_mul_le (Nat.pos_of_ne_zero (by simp))).2 ?_)
            have h1 : (2 : Nat) ^ 23 * 2 ^ dn ≤ 2 ^ (n - 1) := by rw [← Nat.pow_add]; exact two_mono (by omega)
            omega
        have hrn := rnd_down (drop := dn) (u := u) (M := sig / 2 ^ dn) (by omega) hr hp (by omega) rfl hM1 hM2 hm
        rw [hrn, chk_pos (by omega), e5, chk_pos (by omega), e6, e7, mask_nat (by omega) (by omega)]
        have hk4 : ∀ above : Bool, soft_Round.k4 fu neg e (sig : Int) more (n : Int) above = soft_Round.k3 fu neg e (n : Int)
            ((sig / 2 ^ dn + if above = true ∨ (decide (sig % 2 ^ dn = 2 ^ (dn - 1)) && !more) = true ∧ sig / 2 ^ dn % 2 = 1 then 1 else 0 : Nat) : Int) := fun above => by
          unfold soft_Round.k4
          rw [hd, e5, e6, e7, mask_nat (by omega) (by omega), e8]
          by_cases h1 : sig % 2 ^ dn = 2 ^ (dn - 1)
          · rw [if_pos (by omega), if_neg (by omega), Round_k2_spec hM1]
            simp [h1]
          · rw [if_neg (by omega)]
            have : (decide (sig % 2 ^ dn = 2 ^ (dn - 1)) && !more) = false := by simp [h1]
            rw [this]
            split <;> rw [Round_k2_spec hM1]
        have hfin : ∀ above : Bool, (above = true ↔ 2 ^ (dn - 1) < sig % 2 ^ dn ∨ 2 ^ (dn - 1) = sig % 2 ^ dn ∧ r ≠ 0) → soft_Round.k4 fu neg e (sig : Int) more (n : Int) above =
            some ((sgN neg + capN (u * 8388608 + sig / 2 ^ dn + if (2 ^ (dn - 1) < sig % 2 ^ dn ∨ 2 ^ (dn - 1) = sig % 2 ^ dn ∧ r ≠ 0) ∨ (2 ^ (dn - 1) = sig % 2 ^ dn ∧ r = 0) ∧ sig / 2 ^ dn % 2 = 1 then 1 else 0) : Nat) : Int) := fun above ha => by
          rw [hk4, Round_k3_spec hd hu (by omega) (by split <;> omega) (by rcases hM2 with h | h; exact .inl h; exact .inr (by omega)) (by omega) (by omega), Nat.add_assoc]
          have htie : ((decide (sig % 2 ^ dn = 2 ^ (dn - 1)) && !more) = true) ↔ (2 ^ (dn - 1) = sig % 2 ^ dn ∧ r = 0) := by
            simp only [Bool.and_eq_true, decide_eq_true_eq, Bool.not_eq_true']
            constructor
            · rintro ⟨h1, h2⟩
              refine ⟨h1.symm, ?_⟩
              by_cases h : r = 0
              · exact h
              · rw [hmore.2 h] at h2; cases h2
            · rintro ⟨h1, h2⟩
              refine ⟨h1.symm, ?_⟩
              cases hmm : more with
              | false => rfl
              | true => exact absurd h2 (hmore.1 hmm)
          simp only [ha, htie]
        by_cases c1 : 2 ^ (dn - 1) < sig % 2 ^ dn
        · rw [if_pos (by omega)]
          exact hfin true ⟨fun _ => .inl c1, fun _ => rfl⟩
        · rw [if_neg (by omega)]
          by_cases c2 : sig % 2 ^ dn = 2 ^ (dn - 1)
          · rw [if_pos (by omega)]
            refine hfin more ⟨fun h => .inr ⟨c2.symm, hmore.1 h⟩, fun h => ?_⟩
            rcases h with h | h
            · omega
            · exact hmore.2 h.2
          · rw [if_neg (by omega)]
            refine hfin false ⟨fun h => (by cases h), fun h => ?_⟩
            rcases h with h | h <;> omega
theorem Round_zero {fu : Nat} {neg : Bool} {e : Int} : soft_Round fu 0 neg e 0 false = some ((sgN neg : Nat) : Int) := by
  unfold soft_Round; try unfold jn
  rw [chk_pos rfl]
  obtain ⟨n, hn, ⟨b1, b2⟩, hn64⟩ := Len64_spec (fu := fu) (x := 0) (by omega)
  have hn0 : n = 0 := by
    rcases b2 with h | h
    · exact h
    · have : 0 < 2 ^ (n - 1) := Nat.pos_of_ne_zero (by simp)
      omega
  subst hn0
  rw [show ((0 : Int)) = ((0 : Nat) : Int) from rfl, hn, ob_some, if_pos rfl, if_neg (by decide), sign_spec, ob_some]
end Go.Av.Rf
set_option linter.unusedVariables false
namespace Go.Av.Rf
theorem amt_zero {m : Nat} (h : amt m = 0) : m = 0 := by
  rcases Nat.eq_zero_or_pos m with h0 | h0
  · exact h0
  · have h1 := amt_mono (show 1 ≤ m from h0)
    have h2 : amt 1 = 1 := by decide
    omega
theorem open_spec {fu a : Nat} (ha : a < 4294967296) : ∃ x, soft_open fu (a : Int) = some x ∧ x.fneg = decide (2147483648 ≤ a) ∧ x.fnan = decide (2139095040 < a % 2147483648) ∧ x.finf = decide (a % 2147483648 = 2139095040) ∧
    (a % 2147483648 < 2139095040 → ∃ s e : Nat, x.fsig = (s : Int) ∧ x.fexp = (e : Int) - 149 ∧ s < 16777216 ∧ e ≤ 253 ∧ amt (a % 2147483648) = s * 2 ^ e ∧ (e = 0 ∨ 8388608 ≤ s) ∧ (s = 0 ↔ a % 2147483648 = 0)) := by
  have g1 : shrk .u32 (a : Int) 23 = ((a / 8388608 : Nat) : Int) := shr_nat32 (k := 23) ha
  have g2 : band .u32 ((a / 8388608 : Nat) : Int) 255 = ((a / 8388608 % 256 : Nat) : Int) := mask_nat32 (j := 8) (by decide) (by omega)
  have g3 : shrk .u32 (a : Int) 31 = ((a / 2147483648 : Nat) : Int) := shr_nat32 (k := 31) ha
  have g4 : band .u32 (a : Int) 8388607 = ((a % 8388608 : Nat) : Int) := mask_nat32 (j := 23) (by decide) ha
  have g5 : wk .u64 ((a % 8388608 : Nat) : Int) = ((a % 8388608 : Nat) : Int) := u64_eq (by omega) (by omega)
  have g6 : wk .i64 ((a / 8388608 % 256 : Nat) : Int) = ((a / 8388608 % 256 : Nat) : Int) := wk_eq (by omega) (by omega)
  have g7 : bor .u64 ((a % 8388608 : Nat) : Int) 8388608 = ((a % 8388608 + 8388608 : Nat) : Int) := by
    have h := or_low (f := a % 8388608) (j := 23) 1 (by omega)
    have h2 := or_nat (a := a % 8388608) (b := 8388608) (by omega) (by decide) (by
      rw [show (8388608 : Nat) = 2 ^ 23 * 1 from rfl] at *
      rw [h]; omega)
    rw [show ((8388608 : Int)) = ((8388608 : Nat) : Int) from rfl, h2]
    congr 1
  have gneg : decide (((a / 2147483648 : Nat) : Int) = 1) = decide (2147483648 ≤ a) := decide_eq_decide.2 ⟨fun h => by omega, fun h => by omega⟩
  unfold soft_open
  rw [g1, g2, g3, g4, g5, g6, gneg]
  by_cases h1 : ((a / 8388608 % 256 : Nat) : Int) = 255
  · rw [if_pos h1]
    refine ⟨_, rfl, rfl, ?_, ?_, fun h => by omega⟩
    · simp only []
      by_cases h2 : ((a % 8388608 : Nat) : Int) = 0
      · rw [decide_eq_true h2, decide_eq_false (by omega)]; rfl
      · rw [decide_eq_false h2, decide_eq_true (by omega)]; rfl
    · simp only []
      exact decide_eq_decide.2 ⟨fun h => by omega, fun h => by omega⟩
  · rw [if_neg h1]
    by_cases h2 : ((a / 8388608 % 256 : Nat) : Int) = 0
    · rw [if_pos h2]
      refine ⟨_, rfl, rfl, (decide_eq_false (by omega)).symm, (decide_eq_false (by omega)).symm, fun h => ⟨a % 8388608, 0, rfl, rfl, by omega, by omega, ?_, .inl rfl, by omega⟩⟩
      unfold amt
      rw [if_pos (by omega)]
      simp
    · rw [if_neg h2, g7]
      refine ⟨_, rfl, rfl, (decide_eq_false (by omega)).symm, (decide_eq_false (by omega)).symm, fun h => ⟨a % 8388608 + 8388608, a / 8388608 % 256 - 1, rfl, ?_, by omega, by omega, ?_, .inr (by omega), by omega⟩⟩
      · simp only []
        rw [wk_eq (by omega) (by omega)]
        omega
      · unfold amt
        rw [if_neg (by omega), show a % 2147483648 / 8388608 = a / 8388608 % 256 by omega, show a % 2147483648 % 8388608 = a % 8388608 by omega, Nat.add_comm]
theorem Abs_spec {fu a : Nat} : ref01_Abs fu (a : Int) = some ((a % 2147483648 : Nat) : Int) := by
  unfold ref01_Abs
  rw [Int.tmod_eq_emod_of_nonneg (by omega)]
  congr 1
theorem Below_spec {fu a : Nat} : ref01_Below fu (a : Int) = some (decide (2147483648 ≤ a)) := by
  unfold ref01_Below
  exact congrArg some (decide_eq_decide.2 ⟨fun h => by omega, fun h => by omega⟩)
theorem IsNone_spec {fu a : Nat} : ref01_IsNone fu (a : Int) = some (decide (2139095040 < a % 2147483648)) := by
  unfold ref01_IsNone
  rw [Abs_spec, ob_some]
  exact congrArg some (decide_eq_decide.2 ⟨fun h => by omega, fun h => by omega⟩)
theorem sgN_le (neg : Bool) : sgN neg ≤ 2147483648 := by unfold sgN; split <;> omega
theorem least_ex {p k : Nat} (hk : k ≤ 1000) : ∃ m, IsLeast p (2 ^ k) m := by
  have : (dig (2 ^ k)).length ≤ 1000 := dig_length_le (by
    obtain ⟨K, hK⟩ : ∃ K : Nat, 32 * 1000 = K := ⟨_, rfl⟩
    have h1 : (2 : Nat) ^ k < 2 ^ K := Nat.pow_lt_pow_right (by decide) (by omega)
    rw [pow_32, hK, ← two_cast]
    exact Int.ofNat_lt.2 h1)
  obtain ⟨m, h, _⟩ := least_spec (fu := 4000) (p := p) (q := 2 ^ k) this (by omega)
  exact ⟨m, h⟩
end Go.Av.Rf
set_option linter.unusedVariables false
namespace Go.Av.Rf
noncomputable def addN (na : Bool) (A : Nat) (nb : Bool) (B : Nat) : Nat :=
  if na = nb then sgN na + fl (A + B) 1 else if B < A then sgN na + fl (A - B) 1 else if A < B then sgN nb + fl (B - A) 1 else 0
theorem addN_comm {na nb : Bool} {A B : Nat} : addN na A nb B = addN nb B na A := by
  unfold addN
  by_cases h : na = nb
  · subst h; rw [if_pos rfl, if_pos rfl, Nat.add_comm A B]
  · have h' : ¬ nb = na := fun e => h e.symm
    rw [if_neg h, if_neg h']
    rcases Nat.lt_trichotomy A B with h1 | h1 | h1
    · have h2 : ¬ B < A := by omega
      rw [if_neg h2, if_pos h1, if_pos h1]
    · subst h1
      have h2 : ¬ A < A := by omega
      rw [if_neg h2, if_neg h2, if_neg h2, if_neg h2]
    · have h2 : ¬ A < B := by omega
      rw [if_pos h1, if_neg h2, if_pos h1]
theorem fl1_eq {p : Nat} : fl p (2 ^ 0) = fl p 1 := rfl
theorem beq_t {a b : Bool} (h : a = b) : (a == b) = true := by subst h; cases a <;> rfl
theorem beq_f {a b : Bool} (h : ¬ a = b) : ¬ (a == b) = true := by cases a <;> cases b <;> simp_all
theorem Add_k3_spec {fu : Nat} {na nb : Bool} {e : Int} {E H L r : Nat} {lost : Bool} (hH : H < 4611686018427387904) (hL : L < 16777216) (he : e = (E : Int) - 149) (hE : E ≤ 1000) (hr : r < 2 ^ E) (hlost : lost = true ↔ r ≠ 0) (hbig : r ≠ 0 → 2305843009213693952 ≤ H)
    (h0 : H ≠ 0 ∨ L ≠ 0) : soft_AddBy.k3 fu na nb e (H : Int) (L : Int) lost = some ((addN na (H * 2 ^ E) nb (L * 2 ^ E + r) : Nat) : Int) := by
  have hW : 0 < 2 ^ E := Nat.pos_of_ne_zero (by simp)
  have hez : e = (E : Int) - ((0 : Nat) : Int) - 149 := by omega
  have hbind : ∀ z : Option Int, (z.bind fun x3 => some x3) = z := fun z => by cases z <;> rfl
  unfold soft_AddBy.k3 addN
  simp only [hbind]
  by_cases hn : na = nb
  · rw [if_pos (beq_t hn), if_pos hn]
    have e1 : wk .u64 ((H : Int) + (L : Int)) = ((H + L : Nat) : Int) := by rw [u64_eq (by omega) (by omega)]; omega
    have hp : H * 2 ^ E + (L * 2 ^ E + r) = (H + L) * 2 ^ E + r := by rw [Nat.add_mul]; omega
    rw [e1, Round_spec (r := r) (e1 := E) (e2 := 0) (by omega) (by omega) hez (by omega) (by omega) hr hlost (fun h => by have := hbig h; omega) hp (least_ex (by decide)), fl1_eq]
  · rw [if_neg (beq_f hn), if_neg hn]
    by_cases hl : r = 0
    · have hlf : ¬ lost = true := fun h => hlost.1 h hl
      subst hl
      have hlf2 : lost = false := by simpa using hlf
      rw [if_neg hlf, Nat.add_zero]
      rcases Nat.lt_trichotomy H L with h1 | h1 | h1
      · have c1 : H * 2 ^ E < L * 2 ^ E := Nat.mul_lt_mul_of_pos_right h1 hW
        have e1 : wk .u64 ((L : Int) - (H : Int)) = ((L - H : Nat) : Int) := by rw [u64_eq (by omega) (by omega)]; omega
        have hne : ¬ (H : Int) = (L : Int) := by omega
        have hnl : ¬ (L : Int) < (H : Int) := by omega
        have c2 : ¬ L * 2 ^ E < H * 2 ^ E := by omega
        rw [if_neg hne, if_neg hnl, if_neg c2, if_pos c1, e1, Round_spec (r := 0) (e1 := E) (e2 := 0) (p := L * 2 ^ E - H * 2 ^ E) (by omega) (by omega) hez (by omega) (by omega) hW (by simp) (fun h => absurd rfl h) (by rw [Nat.sub_mul, Nat.add_zero]) (least_ex (by decide)), fl1_eq]
      · subst h1
        have hno : soft_nought fu 0 = some 0 := by
          unfold soft_nought
          rw [sign_spec]; rfl
        have c2 : ¬ H * 2 ^ E < H * 2 ^ E := by omega
        rw [if_pos rfl, if_neg c2, if_neg c2, hno]
        rfl
      · have c1 : L * 2 ^ E < H * 2 ^ E := Nat.mul_lt_mul_of_pos_right h1 hW
        have e1 : wk .u64 ((H : Int) - (L : Int)) = ((H - L : Nat) : Int) := by rw [u64_eq (by omega) (by omega)]; omega
        have hne : ¬ (H : Int) = (L : Int) := by omega
        have hnl : (L : Int) < (H : Int) := by omega
        rw [if_neg hne, if_pos hnl, if_pos c1, e1, Round_spec (r := 0) (e1 := E) (e2 := 0) (p := H * 2 ^ E - L * 2 ^ E) (by omega) (by omega) hez (by omega) (by omega) hW (by simp) (fun h => absurd rfl h) (by rw [Nat.sub_mul, Nat.add_zero]) (least_ex (by decide)), fl1_eq]
    · have hlt : lost = true := hlost.2 hl
      have hb := hbig hl
      rw [if_pos hlt]
      have hHL : (L + 1 + 33554432) * 2 ^ E ≤ H * 2 ^ E := Nat.mul_le_mul_right _ (by omega)
      have c1 : L * 2 ^ E + r < H * 2 ^ E := by
        rw [Nat.add_mul, Nat.add_mul, Nat.one_mul] at hHL
        omega
      have e1 : wk .u64 (wk .u64 ((H : Int) - (L : Int)) - 1) = ((H - L - 1 : Nat) : Int) := by rw [u64_eq (x := (H : Int) - (L : Int)) (by omega) (by omega), u64_eq (by omega) (by omega)]; omega
      have hp : H * 2 ^ E - (L * 2 ^ E + r) = (H - L - 1) * 2 ^ E + (2 ^ E - r) := by
        have : H = (H - L - 1) + L + 1 := by omega
        have h2 : H * 2 ^ E = (H - L - 1) * 2 ^ E + L * 2 ^ E + 2 ^ E := by
          have h3 : (H - L - 1 + L + 1) * 2 ^ E = (H - L - 1) * 2 ^ E + L * 2 ^ E + 1 * 2 ^ E := by rw [Nat.add_mul, Nat.add_mul]
          rw [← this, Nat.one_mul] at h3
          exact h3
        omega
      rw [if_pos c1, e1, Round_spec (r := 2 ^ E - r) (e1 := E) (e2 := 0) (more := true) (by omega) (by omega) hez (by omega) (by omega) (by omega) ⟨fun _ => by omega, fun _ => rfl⟩ (fun h => by omega) hp (least_ex (by decide)), fl1_eq]
theorem Add_k2_spec {fu : Nat} {na nb : Bool} {s e t d : Nat} (hs : s < 16777216) (ht : t < 16777216) (he : e ≤ 253) (hd : d ≤ e) (hnorm : e = 0 ∨ 8388608 ≤ s) (h0 : s ≠ 0 ∨ t ≠ 0) :
    soft_AddBy.k2 fu na ((e : Int) - 149) (s : Int) nb ((d : Int) - 149) (t : Int) = some ((addN na (s * 2 ^ e) nb (t * 2 ^ d) : Nat) : Int) := by
  unfold soft_AddBy.k2; try unfold jn
  have e1 : wk .i64 ((e : Int) - 149 - ((d : Int) - 149)) = ((e - d : Nat) : Int) := by rw [wk_eq (by omega) (by omega)]; omega
  rw [e1]
  by_cases h : e - d ≤ 38
  · have h' : ((e - d : Nat) : Int) ≤ 38 := by omega
    have hpw : (2 : Nat) ^ (e - d) ≤ 2 ^ 38 := two_mono h
    have hsh : s * 2 ^ (e - d) < 16777216 * 2 ^ 38 := Nat.lt_of_lt_of_le (Nat.mul_lt_mul_of_pos_right hs (Nat.pos_of_ne_zero (by simp))) (Nat.mul_le_mul_left _ hpw)
    have hpos : 0 < 2 ^ (e - d) := Nat.pos_of_ne_zero (by simp)
    rw [if_pos h', chk_pos (by omega), shl_nat (by omega) (by omega)]
    rw [Add_k3_spec (E := d) (r := 0) (by omega) ht (by omega) (by omega) (Nat.pos_of_ne_zero (by simp)) (by simp) (fun h => absurd rfl h) (by
      rcases h0 with h0 | h0
      · exact .inl (Nat.pos_iff_ne_zero.1 (Nat.mul_pos (Nat.pos_of_ne_zero h0) hpos))
      · exact .inr h0), Nat.mul_assoc, ← Nat.pow_add, Nat.add_zero, show e - d + d = e by omega]
  · have h' : ¬ ((e - d : Nat) : Int) ≤ 38 := by omega
    obtain ⟨D, hD⟩ : ∃ D, e - d = D + 38 := ⟨e - d - 38, by omega⟩
    have e2 : wk .i64 (((e - d : Nat) : Int) - 38) = (D : Int) := by rw [wk_eq (by omega) (by omega)]; omega
    have e3 : wk .i64 ((e : Int) - 149 - 38) = ((d + D : Nat) : Int) - 149 := by rw [wk_eq (by omega) (by omega)]; omega
    have hdm := Nat.div_add_mod t (2 ^ D)
    have hlow : t / 2 ^ D * 2 ^ D ≤ t := Nat.div_mul_le_self t (2 ^ D)
    have hlow2 : t / 2 ^ D ≤ t := Nat.div_le_self _ _
    have e4 : shrk .u64 (t : Int) (D : Int) = ((t / 2 ^ D : Nat) : Int) := shr_nat (by omega)
    have e5 : shlk .u64 ((t / 2 ^ D : Nat) : Int) (D : Int) = ((t / 2 ^ D * 2 ^ D : Nat) : Int) := by
      by_cases hDk : D ≤ 64
      · exact shl_nat hDk (by omega)
      · have hz : t / 2 ^ D = 0 := pow_big (b := 24) (by simpa using ht) (by omega)
        rw [hz, Nat.zero_mul]
        unfold shlk
        simp [IntKind.wrap, IntKind.signed, IntKind.bits]
    have e6 : shlk .u64 (s : Int) 38 = ((s * 2 ^ 38 : Nat) : Int) := shl_nat (k := 38) (by decide) (by omega)
    have hW : 0 < 2 ^ d := Nat.pos_of_ne_zero (by simp)
    have hmod : t % 2 ^ D < 2 ^ D := Nat.mod_lt _ (Nat.pos_of_ne_zero (by simp))
    have hr : t % 2 ^ D * 2 ^ d < 2 ^ (d + D) := by
      rw [Nat.pow_add, Nat.mul_comm (2 ^ d)]
      exact Nat.mul_lt_mul_of_pos_right hmod hW
    have hlost : (!(decide (((t / 2 ^ D * 2 ^ D : Nat) : Int) = (t : Int)))) = true ↔ t % 2 ^ D * 2 ^ d ≠ 0 := by
      have hmc : t / 2 ^ D * 2 ^ D = 2 ^ D * (t / 2 ^ D) := Nat.mul_comm _ _
      simp only [Bool.not_eq_true', decide_eq_false_iff_not]
      constructor
      · intro hne hz
        rcases Nat.mul_eq_zero.1 hz with hz | hz
        · exact hne (by omega)
        · omega
      · intro hne heq
        refine hne ?_
        rw [show t % 2 ^ D = 0 by omega, Nat.zero_mul]
    rw [if_neg h', e2, chk_pos (by omega), e3, e4, e5, e6]
    rw [Add_k3_spec (E := d + D) (r := t % 2 ^ D * 2 ^ d) (by omega) (by omega) (by omega) (by omega) hr hlost (fun _ => by omega) (.inl (by omega))]
    have hA : s * 2 ^ 38 * 2 ^ (d + D) = s * 2 ^ e := by rw [Nat.mul_assoc, ← Nat.pow_add, show 38 + (d + D) = e by omega]
    have hB : t / 2 ^ D * 2 ^ (d + D) + t % 2 ^ D * 2 ^ d = t * 2 ^ d := by
      rw [Nat.pow_add, Nat.mul_comm (2 ^ d), ← Nat.mul_assoc, ← Nat.add_mul, Nat.mul_comm (t / 2 ^ D), hdm]
    rw [hA, hB]
end Go.Av.Rf
set_option linter.unusedVariables false
namespace Go.Av.Rf
theorem dig_nil {n : Nat} : ((dig n).length : Int) = 0 ↔ n = 0 := by
  constructor
  · intro h
    by_cases h0 : n = 0
    · exact h0
    · rw [dig_pos h0] at h
      simp at h
      omega
  · intro h; subst h; rw [dig_zero]; rfl
theorem addN_lt {na nb : Bool} {A B : Nat} (h : ∀ p, fl p 1 ≤ 2139095040) : addN na A nb B < 4294967296 := by
  have h1 := sgN_le na
  have h2 := sgN_le nb
  have a := h (A + B)
  have b := h (A - B)
  have c := h (B - A)
  unfold addN
  split
  · omega
  · split
    · omega
    · split <;> omega
theorem fl_le1 (p : Nat) : fl p 1 ≤ 2139095040 := by
  obtain ⟨m, hm⟩ := least_ex (p := p) (k := 0) (by decide)
  have hm' : IsLeast p 1 m := hm
  rw [fl_eq hm']
  exact rnd_le hm'
theorem AddBy_ref {fu a b : Nat} (ha : a % 2147483648 < 2139095040) (hb : b % 2147483648 < 2139095040) (h0 : amt (a % 2147483648) ≠ 0 ∨ amt (b % 2147483648) ≠ 0) (hf : 4000 < fu) :
    ref01_AddBy.k2 fu 0 (a : Int) (b : Int) = some ((addN (decide (2147483648 ≤ a)) (amt (a % 2147483648)) (decide (2147483648 ≤ b)) (amt (b % 2147483648)) : Nat) : Int) := by
  unfold ref01_AddBy.k2 ref01_AddBy.k3; try unfold jn
  have hl1 := amt_length (m := a % 2147483648) (by omega)
  have hl2 := amt_length (m := b % 2147483648) (by omega)
  rw [Abs_spec, ob_some, Amount_spec (by omega) (by omega), ob_some, Abs_spec, ob_some, Amount_spec (by omega) (by omega), ob_some]
  simp only [Below_spec, ob_some]
  generalize decide (2147483648 ≤ a) = na
  generalize decide (2147483648 ≤ b) = nb
  generalize amt (a % 2147483648) = A at *
  generalize amt (b % 2147483648) = B at *
  have h1 : (dig 1).length ≤ 1 := dig_length_le (by decide)
  have hof : ref01_Of fu 1 = some (dig 1) := Of_spec (n := 1) (by decide) (by omega)
  have hbind : ∀ z : Option Int, (z.bind fun x3 => some x3) = z := fun z => by cases z <;> rfl
  have hsum : (dig (A + B)).length ≤ 900 := by
    have hm : A + B ≤ (A + 1) * (B + 1) := by rw [Nat.add_mul, Nat.mul_add]; omega
    have g1 := dig_len_mono hm
    have g2 := dig_len_mul (A + 1) (B + 1)
    have g3 : ∀ {C : Nat}, (dig C).length ≤ 9 → (dig (C + 1)).length ≤ 18 := fun {C} hC => dig_length_le (by
      have := val_lt (dig_wds C)
      rw [val_dig] at this
      have h9 := pow32_mono hC
      have h18 : (4294967296 : Int) ^ 9 < 4294967296 ^ 18 := by decide
      omega)
    have g4 := g3 hl1
    have g5 := g3 hl2
    omega
  unfold addN
  by_cases hn : na = nb
  · rw [if_pos (beq_t hn), if_pos hn]
    have hr := (Rounded_spec (fu := fu) (p := A + B) (q := 1) (neg := na) hsum (by omega) hf).1
    have hk : (ref01_Plus fu (dig A) (dig B)).bind (fun x11 => (ref01_Of fu 1).bind fun x12 => (ref01_Rounded fu 0 na x11 x12).bind fun x13 => some x13) = some ((sgN na + fl (A + B) 1 : Nat) : Int) := by
      rw [Plus_spec (by omega) (by omega) (by omega), ob_some, hof, ob_some, hbind, hr]
    rw [hk]
    by_cases hA : A = 0
    · have hB : ¬ ((dig B).length : Int) = 0 := fun h => by have := dig_nil.1 h; omega
      rw [if_pos (dig_nil.2 hA), if_neg hB]
    · rw [if_neg (fun h => hA (dig_nil.1 h))]
  · rw [if_neg (beq_f hn), if_neg hn, Compare_spec (by omega) (by omega), ob_some]
    rcases Nat.lt_trichotomy A B with h | h | h
    · have c1 : cmpZ A B = -1 := if_pos h
      have c2 : ¬ B < A := by omega
      have d1 := dig_len_mono (show B - A ≤ B by omega)
      have hr := (Rounded_spec (fu := fu) (p := B - A) (q := 1) (neg := nb) (by omega) (by omega) hf).1
      rw [c1, if_neg (by decide), if_pos rfl, Minus_spec (by omega) (by omega) (by omega), ob_some, hof, ob_some, hbind, hr, if_neg c2, if_pos h]
    · subst h
      have c1 : cmpZ A A = 0 := cmpZ_zero.2 rfl
      have c2 : ¬ A < A := by omega
      rw [c1, if_neg (by decide), if_neg (by decide), if_neg (by decide), if_neg c2, if_neg c2]
      rfl
    · have c0 : ¬ A < B := by omega
      have c1 : cmpZ A B = 1 := by unfold cmpZ; rw [if_neg c0, if_pos h]
      have d1 := dig_len_mono (show A - B ≤ A by omega)
      have hr := (Rounded_spec (fu := fu) (p := A - B) (q := 1) (neg := na) (by omega) (by omega) hf).1
      rw [c1, if_pos rfl, Minus_spec (by omega) (by omega) (by omega), ob_some, hof, ob_some, hbind, hr, if_pos h]
theorem Add_spec {fu a b : Nat} (ha : a < 4294967296) (hb : b < 4294967296) (hf : 4000 < fu) : ∃ r : Nat, soft_Add fu (a : Int) (b : Int) = some (r : Int) ∧ ref01_Add fu (a : Int) (b : Int) = some (r : Int) ∧ r < 4294967296 := by
  have hbind : ∀ z : Option Int, (z.bind fun x3 => some x3) = z := fun z => by cases z <;> rfl
  unfold soft_Add ref01_Add soft_AddBy ref01_AddBy; try unfold jn
  rw [chk_pos rfl]
  obtain ⟨x, hx, x1, x2, x3, x4⟩ := open_spec (fu := fu) ha
  obtain ⟨y, hy, y1, y2, y3, y4⟩ := open_spec (fu := fu) hb
  rw [hx, ob_some, hy, ob_some, x2, y2, x3, y3]
  simp only [IsNone_spec, ob_some, decide_eq_true_eq, hbind]
  by_cases na : 2139095040 < a % 2147483648
  · rw [if_pos na, if_pos na]
    exact ⟨2143289344, rfl, rfl, by decide⟩
  rw [if_neg na, if_neg na]
  by_cases nb : 2139095040 < b % 2147483648
  · rw [if_pos nb, if_pos nb]
    exact ⟨2143289344, rfl, rfl, by decide⟩
  rw [if_neg nb, if_neg nb, x1, y1]
  unfold ref01_AddBy.k1 ref01_AddBy.k4 ref01_AddBy.k5; try unfold jn
  simp only [Abs_spec, ob_some]
  by_cases ia : a % 2147483648 = 2139095040
  · have ia' : ((a % 2147483648 : Nat) : Int) = 2139095040 := by omega
    rw [if_pos ia, if_pos ia']
    by_cases ib : b % 2147483648 = 2139095040
    · have ib' : ((a % 2147483648 : Nat) : Int) = ((b % 2147483648 : Nat) : Int) := by omega
      rw [if_pos ib, if_pos ib']
      by_cases hs : a = b
      · subst hs
        rw [if_pos (by simp), if_pos rfl]
        exact ⟨a, rfl, rfl, ha⟩
      · have hs' : ¬ (a : Int) = (b : Int) := by omega
        have hd : ¬ (decide (2147483648 ≤ a) = decide (2147483648 ≤ b)) := fun h => by
          have := decide_eq_decide.1 h
          omega
        rw [if_neg (beq_f hd), if_neg hs']
        exact ⟨2143289344, rfl, rfl, by decide⟩
    · have ib' : ¬ ((a % 2147483648 : Nat) : Int) = ((b % 2147483648 : Nat) : Int) := by omega
      rw [if_neg ib, if_neg ib']
      exact ⟨a, rfl, rfl, ha⟩
  · have ia' : ¬ ((a % 2147483648 : Nat) : Int) = 2139095040 := by omega
    rw [if_neg ia, if_neg ia']
    by_cases ib : b % 2147483648 = 2139095040
    · have ib' : ((b % 2147483648 : Nat) : Int) = 2139095040 := by omega
      have ie : ¬ ((a % 2147483648 : Nat) : Int) = ((b % 2147483648 : Nat) : Int) := by omega
      rw [if_pos ib, if_pos ib', if_neg ie]
      exact ⟨b, rfl, rfl, hb⟩
    · have ib' : ¬ ((b % 2147483648 : Nat) : Int) = 2139095040 := by omega
      rw [if_neg ib, if_neg ib']
      obtain ⟨s, e, s1, s2, s3, s4, s5, s6, s7⟩ := x4 (by omega)
      obtain ⟨t, d, t1, t2, t3, t4, t5, t6, t7⟩ := y4 (by omega)
      have hk1 : s ≠ 0 ∨ t ≠ 0 → soft_AddBy.k1 fu x y = some ((addN (decide (2147483648 ≤ a)) (amt (a % 2147483648)) (decide (2147483648 ≤ b)) (amt (b % 2147483648)) : Nat) : Int) := fun h0 => by
        unfold soft_AddBy.k1; try unfold jn
        rw [x1, y1, s1, s2, t1, t2, s5, t5]
        by_cases hed : e < d
        · have hed' : (e : Int) - 149 < (d : Int) - 149 := by omega
          rw [if_pos hed', Add_k2_spec t3 s3 t4 (by omega) t6 (by omega), addN_comm]
        · have hed' : ¬ (e : Int) - 149 < (d : Int) - 149 := by omega
          rw [if_neg hed', Add_k2_spec s3 t3 s4 (by omega) s6 (by omega)]
      rw [s1, t1]
      by_cases hz : s = 0 ∧ t = 0
      · obtain ⟨za, zb⟩ := hz
        have za' : (s : Int) = 0 := by omega
        have zb' : (t : Int) = 0 := by omega
        rw [if_pos za', if_pos zb']
        have am : a % 2147483648 = 0 := s7.1 za
        have bm : b % 2147483648 = 0 := t7.1 zb
        unfold ref01_AddBy.k2; try unfold jn
        have hno : soft_nought fu 0 = some 0 := by
          unfold soft_nought
          rw [sign_spec]; rfl
        have h00 : ref01_Amount fu ((0 : Nat) : Int) = some (dig 0) := Amount_spec (m := 0) (by decide) (by omega)
        have hl0 : ((dig 0).length : Int) = 0 := by rw [dig_zero]; rfl
        rw [Abs_spec, ob_some, am, h00, ob_some, Abs_spec, ob_some, bm, h00, ob_some]
        simp only [Below_spec, ob_some]
        by_cases hs : a = b
        · subst hs
          rw [if_pos rfl, if_pos (by simp), if_pos hl0, if_pos hl0]
          exact ⟨a, rfl, rfl, ha⟩
        · have hs' : ¬ (a : Int) = (b : Int) := by omega
          have hd : ¬ (decide (2147483648 ≤ a) = decide (2147483648 ≤ b)) := fun h => by
            have := decide_eq_decide.1 h
            omega
          rw [if_neg hs', if_neg (beq_f hd), hno, Compare_spec (by rw [dig_zero]; simp) (by rw [dig_zero]; simp; omega), ob_some, show cmpZ 0 0 = 0 from rfl, if_neg (by decide), if_neg (by decide), if_neg (by decide)]
          exact ⟨0, rfl, rfl, by decide⟩
      · have h0 : s ≠ 0 ∨ t ≠ 0 := by omega
        have ham : amt (a % 2147483648) ≠ 0 ∨ amt (b % 2147483648) ≠ 0 := by
          rcases h0 with h | h
          · exact .inl fun hh => h (s7.2 (amt_zero hh))
          · exact .inr fun hh => h (t7.2 (amt_zero hh))
        rw [AddBy_ref (by omega) (by omega) ham hf]
        refine ⟨_, ?_, rfl, addN_lt fl_le1⟩
        rw [hk1 h0]
        by_cases za' : (s : Int) = 0
        · have zb' : ¬ (t : Int) = 0 := by omega
          rw [if_pos za', if_neg zb']
        · rw [if_neg za']
end Go.Av.Rf
