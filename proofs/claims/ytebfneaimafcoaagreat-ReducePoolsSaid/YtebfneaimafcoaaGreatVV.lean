/- Floats: a sum and a quotient always come to something. Layer 4, shapes: what the plain functions come to. Strides, indices, offsets. Copies. Layer 5: sameness, whether a tensor may be, copies whose no numbers are one. Lists of numbers alike. Sameness of two tensors. Any tensors: as constant values; whether each may be. New tensors, elements picked. Axes. Indices of a place. The mean of an image and of a pool's window: what infer tells of each. The places of two dims, rows of them, and what is made of each. What the two operators make of an image: the mean of each channel. The pool of an image, channel by channel; both operators as a whole. Conditions: those that each names. -/
import Derived.Test.YtebfneaimafcoaaGreatQS
import Derived.Test.YtebfneaimafcoaaGreatPl
set_option linter.unusedVariables false
namespace Go.Av
theorem u64_eq {x : Int} (h0 : 0 ≤ x) (h1 : x < 18446744073709551616) : wk .u64 x = x := by
  have : wk .u64 x = x % 18446744073709551616 := by simp [wk, IntKind.wrap, IntKind.signed, IntKind.bits]
  rw [this, Int.emod_eq_of_lt h0 h1]
theorem u32_eq {x : Int} (h0 : 0 ≤ x) (h1 : x < 4294967296) : wk .u32 x = x := by
  have : wk .u32 x = x % 4294967296 := by simp [wk, IntKind.wrap, IntKind.signed, IntKind.bits]
  rw [this, Int.emod_eq_of_lt h0 h1]
theorem two_mono {i j : Nat} (h : i ≤ j) : (2 : Nat) ^ i ≤ 2 ^ j := Nat.pow_le_pow_right (by decide) h
theorem min64 {k : Nat} (hk : k ≤ 64) : min ((k : Nat) : Int).toNat IntKind.u64.bits = k := by simp [IntKind.bits]; omega
theorem two_cast (k : Nat) : ((2 ^ k : Nat) : Int) = (2 : Int) ^ k := by rw [Int.natCast_pow]; rfl
theorem shr_at {a n : Nat} : (a : Int).fdiv ((2 : Int) ^ n) = ((a / 2 ^ n : Nat) : Int) := by
  rw [← two_cast, Int.fdiv_eq_ediv_of_nonneg _ (Int.natCast_nonneg _)]
  exact (Int.natCast_ediv a (2 ^ n)).symm
theorem pow_big {a k : Nat} {b : Nat} (ha : a < 2 ^ b) (hk : b ≤ k) : a / 2 ^ k = 0 := Nat.div_eq_of_lt (Nat.lt_of_lt_of_le ha (two_mono hk))
theorem shr_nat {a k : Nat} (h : a < 18446744073709551616) : shrk .u64 (a : Int) (k : Int) = ((a / 2 ^ k : Nat) : Int) := by
  unfold shrk
  rw [shr_at]
  by_cases hk : k ≤ 64
  · rw [min64 hk]
  · rw [show min ((k : Nat) : Int).toNat IntKind.u64.bits = 64 by simp [IntKind.bits]; omega, pow_big (b := 64) (by simpa using h) (Nat.le_refl _), pow_big (b := 64) (by simpa using h) (by omega)]
def lenOk (T : ByteArray) : Bool := (List.range 256).all fun i => match sat? T (i : Int) with
  | some n => decide (0 ≤ n) && decide (n ≤ 8) && decide (i < 2 ^ n.toNat) && (decide (n = 0) || decide (2 ^ (n.toNat - 1) ≤ i))
  | none => false
theorem lenOk_spec {T : ByteArray} (h : lenOk T = true) {i : Nat} (hi : i < 256) : ∃ n : Nat, sat? T (i : Int) = some (n : Int) ∧ n ≤ 8 ∧ i < 2 ^ n ∧ (n = 0 ∨ 2 ^ (n - 1) ≤ i) := by
  have := List.all_eq_true.1 h i (List.mem_range.2 hi)
  split at this
  · rename_i n hn
    simp only [Bool.and_eq_true, decide_eq_true_eq, Bool.or_eq_true] at this
    obtain ⟨⟨⟨a, b⟩, c⟩, d⟩ := this
    refine ⟨n.toNat, by rw [hn, Int.toNat_of_nonneg a], by omega, c, ?_⟩
    rcases d with d | d
    · exact .inl (by omega)
    · exact .inr d
  · cases this
def Bits (x n : Nat) : Prop := x < 2 ^ n ∧ (n = 0 ∨ 2 ^ (n - 1) ≤ x)
theorem Bits.shift {x n k : Nat} (h : Bits (x / 2 ^ k) n) (h0 : 2 ^ k ≤ x) : Bits x (k + n) := by
  have hk : 0 < 2 ^ k := Nat.pos_of_ne_zero (by simp)
  obtain ⟨h1, h2⟩ := h
  have h3 : 1 ≤ x / 2 ^ k := (Nat.le_div_iff_mul_le hk).2 (by omega)
  refine ⟨?_, .inr ?_⟩
  · rw [Nat.pow_add]
    have h := (Nat.div_lt_iff_lt_mul hk).1 h1
    rw [Nat.mul_comm]; exact h
  · rcases h2 with h2 | h2
    · subst h2; simp at h1; omega
    · by_cases hn : n = 0
      · subst hn; simp at h1; omega
      · rw [show k + n - 1 = (n - 1) + k by omega, Nat.pow_add]
        exact (Nat.le_div_iff_mul_le hk).1 h2
theorem Len_k2 {fu x c : Nat} (hx : x < 65536) (hc : c ≤ 1000) : ∃ n : Nat, math_bits_Len64.k2 fu (x : Int) (c : Int) = some ((c + n : Nat) : Int) ∧ Bits x n ∧ n ≤ 16 := by
  unfold math_bits_Len64.k2
  generalize hT : (ByteArray.mk _ : ByteArray) = T
  have hok : lenOk T = true := by subst hT; kernel_rfl
  clear hT
  by_cases h : 256 ≤ x
  · rw [if_pos (by omega), show ((8 : Int)) = ((8 : Nat) : Int) from rfl, shr_nat (by omega)]
    have h8 : x / 2 ^ 8 < 256 := by omega
    obtain ⟨n, e1, e2, e3, e4⟩ := lenOk_spec hok h8
    have hw : wk .u8 ((x / 2 ^ 8 : Nat) : Int) = ((x / 2 ^ 8 : Nat) : Int) := by
      have : ∀ z : Int, wk .u8 z = z % 256 := fun z => by simp [wk, IntKind.wrap, IntKind.signed, IntKind.bits]
      rw [this, Int.emod_eq_of_lt (by omega) (by omega)]
    rw [hw, e1, ob_some]
    refine ⟨8 + n, ?_, Bits.shift ⟨e3, e4⟩ (by omega), by omega⟩
    rw [wk_eq (x := ((c : Nat) : Int) + ((8 : Nat) : Int)) (by omega) (by omega), wk_eq (x := ((n : Nat) : Int)) (by omega) (by omega), wk_eq (by omega) (by omega)]
    congr 1
    omega
  · rw [if_neg (by omega)]
    have hw : wk .u8 ((x : Nat) : Int) = ((x : Nat) : Int) := by
      have : ∀ z : Int, wk .u8 z = z % 256 := fun z => by simp [wk, IntKind.wrap, IntKind.signed, IntKind.bits]
      rw [this, Int.emod_eq_of_lt (by omega) (by omega)]
    obtain ⟨n, e1, e2, e3, e4⟩ := lenOk_spec hok (i := x) (by omega)
    refine ⟨n, ?_, ⟨e3, e4⟩, by omega⟩
    rw [hw, e1, ob_some, wk_eq (x := ((n : Nat) : Int)) (by omega) (by omega), wk_eq (by omega) (by omega)]
    congr 1
theorem Len_k1 {fu x c : Nat} (hx : x < 4294967296) (hc : c ≤ 100) : ∃ n : Nat, math_bits_Len64.k1 fu (x : Int) (c : Int) = some ((c + n : Nat) : Int) ∧ Bits x n ∧ n ≤ 32 := by
  unfold math_bits_Len64.k1; try unfold jn
  by_cases h : 65536 ≤ x
  · rw [if_pos (by omega), show ((16 : Int)) = ((16 : Nat) : Int) from rfl, shr_nat (by omega)]
    obtain ⟨n, e1, e2, e3⟩ := Len_k2 (fu := fu) (x := x / 2 ^ 16) (c := c + 16) (by omega) (by omega)
    refine ⟨16 + n, ?_, e2.shift (by omega), by omega⟩
    rw [wk_eq (x := ((c : Nat) : Int) + ((16 : Nat) : Int)) (by omega) (by omega), show ((c : Nat) : Int) + ((16 : Nat) : Int) = ((c + 16 : Nat) : Int) by omega, e1]
    congr 1; omega
  · rw [if_neg (by omega)]
    obtain ⟨n, e1, e2, e3⟩ := Len_k2 (fu := fu) (x := x) (c := c) (by omega) (by omega)
    exact ⟨n, e1, e2, by omega⟩
theorem Len64_spec {fu x : Nat} (hx : x < 18446744073709551616) : ∃ n : Nat, math_bits_Len64 fu (x : Int) = some (n : Int) ∧ Bits x n ∧ n ≤ 64 := by
  unfold math_bits_Len64; try unfold jn
  by_cases h : 4294967296 ≤ x
  · rw [if_pos (by omega), show ((32 : Int)) = ((32 : Nat) : Int) from rfl, shr_nat (by omega)]
    obtain ⟨n, e1, e2, e3⟩ := Len_k1 (fu := fu) (x := x / 2 ^ 32) (c := 32) (by omega) (by omega)
    exact ⟨32 + n, e1, e2.shift (by omega), by omega⟩
  · rw [if_neg (by omega), show ((0 : Int)) = ((0 : Nat) : Int) from rfl]
    obtain ⟨n, e1, e2, e3⟩ := Len_k1 (fu := fu) (x := x) (c := 0) (by omega) (by omega)
    exact ⟨n, by rw [e1]; congr 1; omega, e2, by omega⟩
theorem sign_tot {fu : Nat} {b : Bool} : ∃ r, soft_sign fu b = some r := by unfold soft_sign; split <;> exact ⟨_, rfl⟩
theorem tiny_tot {fu : Nat} {b : Bool} : ∃ r, soft_tiny fu 0 b = some r := by
  obtain ⟨s, hs⟩ := sign_tot (fu := fu) (b := b)
  unfold soft_tiny soft_outwards
  rw [chk_pos rfl, chk_pos rfl, ob_some, hs, ob_some]
  exact ⟨_, rfl⟩
theorem huge_tot {fu : Nat} {b : Bool} : ∃ r, soft_huge fu 0 b = some r := by
  obtain ⟨s, hs⟩ := sign_tot (fu := fu) (b := b)
  unfold soft_huge soft_huge.k1; try unfold jn
  rw [chk_pos rfl, hs, ob_some]
  exact ⟨_, rfl⟩
theorem k3_tot {fu : Nat} {a : Bool} {b c d : Int} : ∃ r, soft_Round.k3 fu a b c d = some r := by
  obtain ⟨s, hs⟩ := sign_tot (fu := fu) (b := a)
  obtain ⟨u, hu⟩ := huge_tot (fu := fu) (b := a)
  unfold soft_Round.k3
  rw [hs, hu]
  simp only [ob_some]
  repeat' split
  all_goals exact ⟨_, rfl⟩
theorem k2_tot {fu : Nat} {a e f g : Bool} {b c d : Int} : ∃ r, soft_Round.k2 fu a b c d e f g = some r := by
  unfold soft_Round.k2; try unfold jn
  repeat' split
  all_goals exact k3_tot
theorem k4_tot {fu : Nat} {a e f : Bool} {b c d : Int} : ∃ r, soft_Round.k4 fu a b c e d f = some r := by
  unfold soft_Round.k4
  repeat' split
  all_goals exact k2_tot
theorem k1_tot {fu : Nat} {a e : Bool} {b c : Int} {n : Nat} (hn : n ≤ 64) (hb : -300 ≤ b) (hb2 : b ≤ 200) : ∃ r, soft_Round.k1 fu a b c e (n : Int) = some r := by
  unfold soft_Round.k1; try unfold jn
  have e1 : wk .i64 ((n : Int) - 24) = (n : Int) - 24 := wk_eq (by omega) (by omega)
  have e2 : wk .i64 (-149 - b) = -149 - b := wk_eq (by omega) (by omega)
  rw [e1, e2]
  have h1 : (n : Int) - 24 ≤ imax ((n : Int) - 24) (-149 - b) := by unfold imax; split <;> omega
  have h2 : imax ((n : Int) - 24) (-149 - b) ≤ 151 := by unfold imax; split <;> omega
  generalize imax ((n : Int) - 24) (-149 - b) = m at h1 h2
  split
  · rw [chk_pos (by rw [wk_eq (by omega) (by omega)]; omega)]
    exact k2_tot
  · split
    · exact k2_tot
    · rw [chk_pos (by omega), chk_pos (by rw [wk_eq (by omega) (by omega)]; omega)]
      repeat' split
      all_goals exact k4_tot
theorem Round_tot {fu : Nat} {a e : Bool} {b c : Int} (h0 : 0 ≤ c) (h1 : c < 18446744073709551616) : ∃ r, soft_Round fu 0 a b c e = some r := by
  obtain ⟨k, rfl⟩ := Int.eq_ofNat_of_zero_le h0
  obtain ⟨n, hn, _, hn2⟩ := Len64_spec (fu := fu) (x := k) (by omega)
  obtain ⟨s, hs⟩ := sign_tot (fu := fu) (b := a)
  obtain ⟨u, hu⟩ := huge_tot (fu := fu) (b := a)
  obtain ⟨v, hv⟩ := tiny_tot (fu := fu) (b := a)
  unfold soft_Round; try unfold jn
  rw [chk_pos rfl, hn, ob_some, hs, hu, hv]
  simp only [ob_some]
  split
  · split <;> exact ⟨_, rfl⟩
  · split
    · exact ⟨_, rfl⟩
    · split
      · exact ⟨_, rfl⟩
      · exact k1_tot hn2 (by omega) (by omega)
theorem wk_u64 (x : Int) : 0 ≤ wk .u64 x ∧ wk .u64 x < 18446744073709551616 := by
  have : wk .u64 x = x % 18446744073709551616 := by simp [wk, IntKind.wrap, IntKind.signed, IntKind.bits]
  rw [this]; omega
theorem open_tot {fu : Nat} {x : Int} : ∃ r, soft_open fu x = some r ∧ -150 ≤ r.fexp ∧ r.fexp ≤ 200 := by
  have hb : 0 ≤ band .u32 (shrk .u32 x 23) 255 ∧ band .u32 (shrk .u32 x 23) 255 ≤ 255 := by
    unfold band
    rw [show IntKind.u32.bits = 32 from rfl, BitVec.toNat_and]
    have h : (BitVec.ofInt 32 (shrk .u32 x 23)).toNat &&& (BitVec.ofInt 32 255).toNat ≤ 255 := Nat.le_trans Nat.and_le_right (by decide)
    have hw := u32_eq (x := (((BitVec.ofInt 32 (shrk .u32 x 23)).toNat &&& (BitVec.ofInt 32 255).toNat : Nat) : Int)) (by omega) (by omega)
    unfold wk at hw
    rw [hw]
    omega
  unfold soft_open
  rw [wk_eq (x := band .u32 (shrk .u32 x 23) 255) (by omega) (by omega)]
  generalize band .u32 (shrk .u32 x 23) 255 = q at hb
  split
  · exact ⟨_, rfl, by show (-150 : Int) ≤ 0; omega, by show (0 : Int) ≤ 200; omega⟩
  · split
    · exact ⟨_, rfl, by show (-150 : Int) ≤ -149; omega, by show (-149 : Int) ≤ 200; omega⟩
    · refine ⟨_, rfl, ?_, ?_⟩
      · show -150 ≤ wk .i64 (q - 150)
        rw [wk_eq (by omega) (by omega)]; omega
      · show wk .i64 (q - 150) ≤ 200
        rw [wk_eq (by omega) (by omega)]; omega
theorem nought_tot {fu : Nat} : ∃ r, soft_nought fu 0 = some r := by
  obtain ⟨s, hs⟩ := sign_tot (fu := fu) (b := decide ((0 : Int) = 2))
  unfold soft_nought
  rw [chk_pos rfl, hs, ob_some]
  exact ⟨_, rfl⟩
theorem a3_tot {fu : Nat} {a b c : Bool} {x y z : Int} : ∃ r, soft_AddBy.k3 fu a b x y z c = some r := by
  obtain ⟨s, hs⟩ := nought_tot (fu := fu)
  obtain ⟨r1, h1⟩ := Round_tot (fu := fu) (a := a) (e := c) (b := x) (wk_u64 (y + z)).1 (wk_u64 _).2
  obtain ⟨r2, h2⟩ := Round_tot (fu := fu) (a := a) (e := true) (b := x) (wk_u64 (wk .u64 (y - z) - 1)).1 (wk_u64 _).2
  obtain ⟨r3, h3⟩ := Round_tot (fu := fu) (a := a) (e := false) (b := x) (wk_u64 (y - z)).1 (wk_u64 _).2
  obtain ⟨r4, h4⟩ := Round_tot (fu := fu) (a := b) (e := false) (b := x) (wk_u64 (z - y)).1 (wk_u64 _).2
  unfold soft_AddBy.k3
  rw [hs, h1, h2, h3, h4]
  simp only [ob_some]
  repeat' split
  all_goals exact ⟨_, rfl⟩
theorem a2_tot {fu : Nat} {a b : Bool} {x y z w : Int} (h : z ≤ x) (h1 : -1000 ≤ z) (h2 : x ≤ 1000) : ∃ r, soft_AddBy.k2 fu a x y b z w = some r := by
  unfold soft_AddBy.k2; try unfold jn
  rw [wk_eq (x := x - z) (by omega) (by omega)]
  split
  · rw [chk_pos (by omega)]; exact a3_tot
  · rw [chk_pos (by rw [wk_eq (by omega) (by omega)]; omega)]; exact a3_tot
theorem a1_tot {fu : Nat} {p q : T_soft_number} (h1 : -150 ≤ p.fexp) (h2 : p.fexp ≤ 200) (h3 : -150 ≤ q.fexp) (h4 : q.fexp ≤ 200) : ∃ r, soft_AddBy.k1 fu p q = some r := by
  unfold soft_AddBy.k1; try unfold jn
  split
  · exact a2_tot (by omega) (by omega) (by omega)
  · exact a2_tot (by omega) (by omega) (by omega)
theorem Add_tot {fu : Nat} {x y : Int} : ∃ r, soft_Add fu x y = some r := by
  obtain ⟨a, ha, a1, a2⟩ := open_tot (fu := fu) (x := x)
  obtain ⟨b, hb, b1, b2⟩ := open_tot (fu := fu) (x := y)
  obtain ⟨s, hs⟩ := nought_tot (fu := fu)
  obtain ⟨r, hr⟩ := a1_tot (fu := fu) a1 a2 b1 b2
  unfold soft_Add soft_AddBy; try unfold jn
  rw [chk_pos rfl, ha, ob_some, hb, ob_some, hs, hr]
  simp only [ob_some]
  repeat' split
  all_goals exact ⟨_, rfl⟩
theorem Add_fu {fu : Nat} {x y : Int} : soft_Add fu x y = soft_Add 0 x y := rfl
def addV (x y : Int) : Int := (soft_Add 0 x y).getD 0
theorem Add_spec {fu : Nat} {x y : Int} : soft_Add fu x y = some (addV x y) := by
  rw [Add_fu]; unfold addV
  obtain ⟨r, hr⟩ := Add_tot (fu := 0) (x := x) (y := y)
  rw [hr]; rfl
theorem band_rng {x m : Int} (h0 : 0 ≤ m) (h1 : m < 4294967296) : 0 ≤ band .u32 x m ∧ band .u32 x m ≤ m := by
  unfold band
  rw [show IntKind.u32.bits = 32 from rfl, BitVec.toNat_and]
  have e : (BitVec.ofInt 32 m).toNat = m.toNat := by rw [BitVec.toNat_ofInt]; omega
  have h : (BitVec.ofInt 32 x).toNat &&& (BitVec.ofInt 32 m).toNat ≤ m.toNat := by rw [e]; exact Nat.and_le_right
  have hw := u32_eq (x := (((BitVec.ofInt 32 x).toNat &&& (BitVec.ofInt 32 m).toNat : Nat) : Int)) (by omega) (by omega)
  unfold wk at hw
  rw [hw]
  omega
theorem bor_rng {a : Int} (h0 : 0 ≤ a) (h1 : a ≤ 8388607) : 0 ≤ bor .u64 a 8388608 ∧ bor .u64 a 8388608 < 16777216 := by
  unfold bor
  rw [show IntKind.u64.bits = 64 from rfl, BitVec.toNat_or]
  have e : (BitVec.ofInt 64 a).toNat = a.toNat := by rw [BitVec.toNat_ofInt]; omega
  have e2 : (BitVec.ofInt 64 8388608).toNat = 8388608 := by decide
  have h : (BitVec.ofInt 64 a).toNat ||| (BitVec.ofInt 64 8388608).toNat < 2 ^ 24 := by
    rw [e, e2]; exact Nat.or_lt_two_pow (by omega) (by decide)
  have hw := u64_eq (x := (((BitVec.ofInt 64 a).toNat ||| (BitVec.ofInt 64 8388608).toNat : Nat) : Int)) (by omega) (by omega)
  unfold wk at hw
  rw [hw]
  omega
theorem open_sig {fu : Nat} {x : Int} : ∃ r, soft_open fu x = some r ∧ 0 ≤ r.fsig ∧ r.fsig < 16777216 := by
  obtain ⟨b0, b1⟩ := band_rng (x := x) (m := 8388607) (by decide) (by decide)
  unfold soft_open
  rw [u64_eq (x := band .u32 x 8388607) b0 (by omega)]
  split
  · exact ⟨_, rfl, Int.le_refl _, by show (0 : Int) < 16777216; decide⟩
  · split
    · exact ⟨_, rfl, b0, by show band .u32 x 8388607 < _; omega⟩
    · exact ⟨_, rfl, (bor_rng b0 b1).1, (bor_rng b0 b1).2⟩
theorem full_tot {fu : Nat} {p : T_soft_number} (h0 : 0 ≤ p.fsig) (h1 : p.fsig < 16777216) (hz : p.fsig ≠ 0) : ∃ r, soft_number_full fu p = some r ∧ r.fsig ≠ 0 := by
  obtain ⟨k, hk⟩ := Int.eq_ofNat_of_zero_le h0
  obtain ⟨n, hn, ⟨hb1, hb2⟩, _⟩ := Len64_spec (fu := fu) (x := k) (by omega)
  have h24 : n ≤ 24 := by
    rcases hb2 with h | h
    · omega
    · rcases Nat.lt_or_ge 24 n with hh | hh
      · have := two_mono (i := 24) (j := n - 1) (by omega)
        have e : (2 : Nat) ^ 24 = 16777216 := by decide
        omega
      · exact hh
  unfold soft_number_full
  rw [hk, hn, ob_some, wk_eq (x := 24 - (n : Int)) (by omega) (by omega), chk_pos (by omega)]
  refine ⟨_, rfl, ?_⟩
  show shlk .u64 (k : Int) (24 - (n : Int)) ≠ 0
  have hm : (24 - (n : Int)) = ((24 - n : Nat) : Int) := by omega
  unfold shlk
  rw [hm, min64 (by omega), ← two_cast, ← Int.natCast_mul]
  have hlt : k * 2 ^ (24 - n) < 2 ^ 24 := by
    have := Nat.mul_lt_mul_of_pos_right hb1 (Nat.pow_pos (n := 24 - n) (show 0 < 2 by decide))
    rw [← Nat.pow_add, show n + (24 - n) = 24 by omega] at this
    exact this
  have hpos : 0 < k * 2 ^ (24 - n) := Nat.mul_pos (by omega) (Nat.pow_pos (by decide))
  have e : (2 : Nat) ^ 24 = 16777216 := by decide
  have hw := u64_eq (x := ((k * 2 ^ (24 - n) : Nat) : Int)) (by omega) (by omega)
  unfold wk at hw
  rw [hw]
  omega
theorem d2_tot {fu : Nat} {p q : T_soft_number} (h0 : 0 ≤ p.fsig) (h1 : p.fsig < 16777216) (hz : p.fsig ≠ 0) (g0 : 0 ≤ q.fsig) (g1 : q.fsig < 16777216) (gz : q.fsig ≠ 0) : ∃ r, soft_DivBy.k2 fu p q = some r := by
  obtain ⟨a, ha, _⟩ := full_tot (fu := fu) (p := ⟨p.fneg, false, false, p.fexp, p.fsig⟩) h0 h1 hz
  obtain ⟨b, hb, hb2⟩ := full_tot (fu := fu) (p := ⟨q.fneg, false, false, q.fexp, q.fsig⟩) g0 g1 gz
  unfold soft_DivBy.k2
  rw [ha, ob_some, hb, ob_some, chk_pos hb2]
  obtain ⟨r, hr⟩ := Round_tot (fu := fu) (a := !(p.fneg == q.fneg)) (e := !(decide ((Int.tmod (shlk .u64 a.fsig 38) b.fsig) = 0))) (b := wk .i64 ((wk .i64 (a.fexp - b.fexp)) - 38)) (wk_u64 (Int.tdiv (shlk .u64 a.fsig 38) b.fsig)).1 (wk_u64 _).2
  rw [hr]
  exact ⟨_, rfl⟩
theorem d1_tot {fu : Nat} {p q : T_soft_number} {x7 x6 : Bool} {x8 x9 : Bool} (h0 : 0 ≤ p.fsig) (h1 : p.fsig < 16777216) (hz : x8 = false → x6 = false → p.fsig ≠ 0) (g0 : 0 ≤ q.fsig) (g1 : q.fsig < 16777216) (gz : x9 = false → x7 = false → q.fsig ≠ 0) : ∃ r, soft_DivBy.k1 fu p q x6 x7 x8 x9 = some r := by
  obtain ⟨s, hs⟩ := sign_tot (fu := fu) (b := !(p.fneg == q.fneg))
  unfold soft_DivBy.k1; try unfold jn
  rw [hs]
  simp only [ob_some]
  cases x6 <;> cases x7 <;> cases x8 <;> cases x9 <;> simp only [if_true, if_false, reduceCtorEq]
  all_goals repeat' split
  all_goals first | exact ⟨_, rfl⟩ | exact d2_tot h0 h1 (hz rfl rfl) g0 g1 (gz rfl rfl)
theorem Div_tot {fu : Nat} {x y : Int} : ∃ r, soft_Div fu x y = some r := by
  obtain ⟨p, hp, p0, p1⟩ := open_sig (fu := fu) (x := x)
  obtain ⟨q, hq, q0, q1⟩ := open_sig (fu := fu) (x := y)
  have hk : ∃ r, soft_DivBy fu 0 x y = some r := by
    unfold soft_DivBy; try unfold jn
    rw [chk_pos rfl, hp, ob_some, hq, ob_some]
    split
    · split
      · exact d1_tot p0 p1 (by simp) q0 q1 (by simp)
      · exact d1_tot p0 p1 (by simp) q0 q1 (by simp)
    · split
      · exact d1_tot p0 p1 (by simp) q0 q1 (by simp)
      · exact d1_tot p0 p1 (by simp) q0 q1 (by simp)
  obtain ⟨r, hr⟩ := hk
  unfold soft_Div
  rw [hr]
  exact ⟨_, rfl⟩
theorem FromInt_tot {fu : Nat} {n : Int} : ∃ r, round_FromInt fu n = some r := by
  have hk : ∃ r, round_FromIntBy fu 0 n = some r := by
    unfold round_FromIntBy
    rw [chk_pos rfl]
    split
    · obtain ⟨r, hr⟩ := Round_tot (fu := fu) (a := true) (e := false) (b := 0) (wk_u64 (0 - wk .u64 n)).1 (wk_u64 _).2
      rw [hr]; exact ⟨_, rfl⟩
    · obtain ⟨r, hr⟩ := Round_tot (fu := fu) (a := false) (e := false) (b := 0) (wk_u64 n).1 (wk_u64 _).2
      rw [hr]; exact ⟨_, rfl⟩
  obtain ⟨r, hr⟩ := hk
  unfold round_FromInt
  rw [hr]
  exact ⟨_, rfl⟩
theorem Div_fu {fu : Nat} {x y : Int} : soft_Div fu x y = soft_Div 0 x y := rfl
theorem FromInt_fu {fu : Nat} {x : Int} : round_FromInt fu x = round_FromInt 0 x := rfl
def meanV (l : List Int) (n : Int) : Int := (soft_Div 0 (l.foldl addV 0) ((round_FromInt 0 n).getD 0)).getD 0
theorem FromInt_spec {fu : Nat} {n : Int} : round_FromInt fu n = some ((round_FromInt 0 n).getD 0) := by
  rw [FromInt_fu]
  obtain ⟨r, hr⟩ := FromInt_tot (fu := 0) (n := n)
  rw [hr]; rfl
theorem Div_spec {fu : Nat} {x y : Int} : soft_Div fu x y = some ((soft_Div 0 x y).getD 0) := by
  rw [Div_fu]
  obtain ⟨r, hr⟩ := Div_tot (fu := 0) (x := x) (y := y)
  rw [hr]; rfl
end Go.Av
set_option linter.unusedVariables false
namespace Go.Av
def fstAt (p : Int → Bool) : Nat → List Int → Int
  | _, [] => -1
  | i, x :: l => if p x = true then i else fstAt p (i + 1) l
theorem fstAt_any (p : Int → Bool) : ∀ (l : List Int) (i : Nat), decide (0 ≤ fstAt p i l) = l.any p
  | [], i => rfl
  | x :: l, i => by
    simp only [fstAt, List.any_cons]
    by_cases h : p x = true
    · simp [h]
    · simp [h, ← fstAt_any p l (i + 1)]
def Short (l : List Int) : Prop := l.length ≤ 140737488355328
theorem wk_succ {k : Nat} (h : k ≤ 140737488355328) : wk .i64 ((k : Int) + 1) = ((k + 1 : Nat) : Int) := by rw [wk_eq (by omega) (by omega)]; omega
theorem IndexFunc_spec {fu : Nat} {l : List Int} {p : Int → Option Bool} {q : Int → Bool} (hp : ∀ x, p x = some (q x)) (hl : Short l) (hf : l.length < fu) : slices_IndexFunc_int fu l p = some (fstAt q 0 l) := by
  unfold slices_IndexFunc_int slices_IndexFunc_int.W1
  refine cloop_ind (fun (i : Int) => some (fstAt q i.toNat (l.drop i.toNat))) (fun i => 0 ≤ i ∧ i ≤ l.length) (fun i => l.length - i.toNat) ?_ fu 0 (by omega) (by simp; omega)
  rintro i ⟨h0, h1⟩ next hn
  obtain ⟨k, rfl⟩ := Int.eq_ofNat_of_zero_le h0
  unfold slices_IndexFunc_int.L1
  simp only [Int.toNat_natCast]
  by_cases hk : k < l.length
  · rw [if_pos (by omega), at?_get hk, ob_some, hp, ob_some, List.drop_eq_getElem_cons hk]
    simp only [fstAt]
    by_cases hq : q l[k] = true
    · rw [if_pos hq, if_pos hq]
    · rw [if_neg hq, if_neg hq, wk_succ (by unfold Short at hl; omega), hn _ (by omega) (by simp; omega)]
      simp
  · rw [if_neg (by omega), List.drop_of_length_le (by omega)]; rfl
theorem ContainsFunc_spec {fu : Nat} {l : List Int} {p : Int → Option Bool} {q : Int → Bool} (hp : ∀ x, p x = some (q x)) (hl : Short l) (hf : l.length < fu) : slices_ContainsFunc_int fu l p = some (l.any q) := by
  unfold slices_ContainsFunc_int
  rw [IndexFunc_spec hp hl hf, ob_some, fstAt_any]
theorem IndexI_spec {fu : Nat} {l : List Int} {x : Int} (hl : Short l) (hf : l.length < fu) : slices_Index_int fu l x = some (fstAt (fun y => decide (x = y)) 0 l) := by
  unfold slices_Index_int slices_Index_int.W1
  refine cloop_ind (fun (i : Int) => some (fstAt (fun y => decide (x = y)) i.toNat (l.drop i.toNat))) (fun i => 0 ≤ i ∧ i ≤ l.length) (fun i => l.length - i.toNat) ?_ fu 0 (by omega) (by simp; omega)
  rintro i ⟨h0, h1⟩ next hn
  obtain ⟨k, rfl⟩ := Int.eq_ofNat_of_zero_le h0
  unfold slices_Index_int.L1
  simp only [Int.toNat_natCast]
  by_cases hk : k < l.length
  · rw [if_pos (by omega), at?_get hk, ob_some, List.drop_eq_getElem_cons hk]
    simp only [fstAt]
    by_cases hq : x = l[k]
    · rw [if_pos hq, if_pos (by simpa using hq)]
    · rw [if_neg hq, if_neg (by simpa using hq), wk_succ (by unfold Short at hl; omega), hn _ (by omega) (by simp; omega)]
      simp
  · rw [if_neg (by omega), List.drop_of_length_le (by omega)]; rfl
theorem Contains_spec {fu : Nat} {l : List Int} {x : Int} (hl : Short l) (hf : l.length < fu) : slices_Contains_int fu l x = some (l.any fun y => decide (x = y)) := by
  unfold slices_Contains_int
  rw [IndexI_spec hl hf, ob_some, fstAt_any]
def prod : List Int → Int
  | [] => 1
  | x :: l => x * prod l
def Rng (l : List Int) : Prop := ∀ x ∈ l, 0 ≤ x ∧ x ≤ 4096
def Good (l : List Int) : Prop := l.length ≤ 8 ∧ Rng l ∧ prod l ≤ 4096
instance (l : List Int) : Decidable (Rng l) := by unfold Rng; infer_instance
instance (l : List Int) : Decidable (Good l) := by unfold Good; infer_instance
def errS (l : List Int) : Int := if l.any (fun x => decide (x < 0)) = true then 1 else 4
def sizeV (l : List Int) : Int × Int := if Good l then (prod l, 0) else (0, errS l)
theorem errS_ne (l : List Int) : errS l ≠ 0 := by unfold errS; split <;> decide
theorem prod_nonneg : ∀ {l : List Int}, Rng l → 0 ≤ prod l
  | [], _ => by decide
  | x :: l, h => Int.mul_nonneg (h x (by simp)).1 (prod_nonneg fun y hy => h y (by simp [hy]))
theorem prod_pos : ∀ {l : List Int}, (∀ x ∈ l, 1 ≤ x) → 1 ≤ prod l
  | [], _ => by decide
  | x :: l, h => by
    have h1 := h x (by simp)
    have h2 := prod_pos (l := l) fun y hy => h y (by simp [hy])
    have := Int.mul_le_mul h1 h2 (by decide) (by omega)
    simpa [prod] using this
theorem prod_zero : ∀ {l : List Int}, 0 ∈ l → prod l = 0
  | x :: l, h => by
    rcases List.mem_cons.1 h with rfl | h
    · simp [prod]
    · simp [prod, prod_zero h]
theorem div_lt_iff {m d : Int} (hm : 1 ≤ m) (hd : 0 ≤ d) : (Int.tdiv 4096 m < d) ↔ 4096 < m * d := by
  rw [Int.tdiv_eq_ediv_of_nonneg (by decide)]
  constructor
  · intro h
    have := Int.lt_mul_of_ediv_lt (by omega : 0 < m) h
    rwa [Int.mul_comm] at this
  · intro h
    exact Int.ediv_lt_of_lt_mul (by omega) (by rwa [Int.mul_comm])
theorem SizeW_spec {fu : Nat} {l : List Int} (hp : ∀ x ∈ l, 1 ≤ x ∧ x ≤ 4096) (hl : l.length ≤ 8) (hf : l.length < fu) : shape_Size.W1 fu l 1 0 = some (if prod l ≤ 4096 then (prod l, 0) else (0, 4)) := by
  unfold shape_Size.W1
  refine (cloop_ind (fun (s : Int × Int) => some (if s.1 * prod (l.drop s.2.toNat) ≤ 4096 then (s.1 * prod (l.drop s.2.toNat), 0) else (0, 4))) (fun s => 0 ≤ s.2 ∧ s.2 ≤ l.length ∧ 1 ≤ s.1 ∧ s.1 ≤ 4096) (fun s => l.length - s.2.toNat) ?_ fu (1, 0) (by simp) (by simp; omega)).trans (by simp)
  rintro ⟨m, i⟩ ⟨h0, h1, h2, h3⟩ next hn
  simp only at h0 h1 h2 h3 hn ⊢
  obtain ⟨k, rfl⟩ := Int.eq_ofNat_of_zero_le h0
  unfold shape_Size.L1
  simp only [Int.toNat_natCast]
  by_cases hk : k < l.length
  · obtain ⟨q1, q2⟩ := hp _ (List.getElem_mem hk)
    have t0 : 0 ≤ Int.tdiv 4096 m ∧ Int.tdiv 4096 m ≤ 4096 := by
      rw [Int.tdiv_eq_ediv_of_nonneg (by decide)]
      exact ⟨Int.ediv_nonneg (by decide) (by omega), Int.ediv_le_self _ (by decide)⟩
    rw [if_pos (by omega), at?_get hk, ob_some, chk_pos (by omega), wk_eq (by omega) (by omega), List.drop_eq_getElem_cons hk]
    have hpos : 1 ≤ prod (l.drop (k + 1)) := prod_pos fun x hx => (hp x (List.mem_of_mem_drop hx)).1
    have hge : 1 ≤ m * l[k] := by have := Int.mul_le_mul h2 q1 (by decide) (by omega); simpa using this
    simp only [prod, ← Int.mul_assoc]
    by_cases hd : Int.tdiv 4096 m < l[k]
    · rw [if_pos hd]
      rw [div_lt_iff h2 (by omega)] at hd
      have : m * l[k] * 1 ≤ m * l[k] * prod (l.drop (k + 1)) := Int.mul_le_mul_of_nonneg_left hpos (by omega)
      rw [if_neg (by omega)]
    · rw [if_neg hd]
      rw [div_lt_iff h2 (by omega)] at hd
      rw [wk_eq (by omega) (by omega), wk_succ (by omega), hn (m * l[k], ((k + 1 : Nat) : Int)) ⟨by simp only []; omega, by simp only []; omega, hge, by simp only []; omega⟩ (by simp; omega)]
      simp
  · rw [if_neg (by omega), List.drop_of_length_le (by omega)]
    simp only [prod, Int.mul_one]
    rw [if_pos h3]
theorem Size_spec {fu : Nat} {l : List Int} (hl : Short l) (hf : l.length < fu) : shape_Size fu l = some (sizeV l) := by
  unfold shape_Size; try unfold jn
  rw [ContainsFunc_spec (p := fun y0 => shape_Size_1 fu y0) (q := fun x => decide (x < 0)) (fun x => rfl) hl hf, ob_some]
  by_cases h1 : l.any (fun x => decide (x < 0)) = true
  · rw [if_pos h1]
    have hg : ¬ Good l := fun hg => by
      obtain ⟨x, hx, hx2⟩ := List.any_eq_true.1 h1
      have := (hg.2.1 x hx).1
      simp at hx2; omega
    simp only [sizeV, if_neg hg, errS, if_pos h1]
  rw [if_neg h1]
  have he : errS l = 4 := by simp only [errS, if_neg h1]
  by_cases h2 : 8 < (l.length : Int)
  · rw [if_pos h2]
    have hg : ¬ Good l := fun hg => by have := hg.1; omega
    simp only [sizeV, if_neg hg, he]
  rw [if_neg h2, ContainsFunc_spec (p := fun y0 => shape_Size_2 fu y0) (q := fun x => decide (4096 < x)) (fun x => rfl) hl hf, ob_some]
  by_cases h3 : l.any (fun x => decide (4096 < x)) = true
  · rw [if_pos h3]
    have hg : ¬ Good l := fun hg => by
      obtain ⟨x, hx, hx2⟩ := List.any_eq_true.1 h3
      have := (hg.2.1 x hx).2
      simp at hx2; omega
    simp only [sizeV, if_neg hg, he]
  rw [if_neg h3]
  have hr : Rng l := fun x hx => by
    simp only [List.any_eq_true, decide_eq_true_eq, not_exists, not_and] at h1 h3
    have := h1 x hx; have := h3 x hx; omega
  unfold shape_Size.k1
  rw [Contains_spec hl hf, ob_some]
  by_cases h4 : (l.any fun y => decide ((0 : Int) = y)) = true
  · rw [if_pos h4]
    have hz : (0 : Int) ∈ l := by
      obtain ⟨x, hx, hx2⟩ := List.any_eq_true.1 h4
      simp at hx2; subst hx2; exact hx
    have hg : Good l := ⟨by omega, hr, by rw [prod_zero hz]; decide⟩
    simp only [sizeV, if_pos hg, prod_zero hz]
  rw [if_neg h4]
  have hp : ∀ x ∈ l, 1 ≤ x ∧ x ≤ 4096 := fun x hx => by
    have := hr x hx
    simp only [List.any_eq_true, decide_eq_true_eq, not_exists, not_and] at h4
    have := h4 x hx; omega
  rw [SizeW_spec hp (by omega) hf]
  by_cases h5 : prod l ≤ 4096
  · have hg : Good l := ⟨by omega, hr, h5⟩
    simp only [sizeV, if_pos hg, if_pos h5]
  · have hg : ¬ Good l := fun hg => h5 hg.2.2
    simp only [sizeV, if_neg hg, if_neg h5, he]
end Go.Av
set_option linter.unusedVariables false
namespace Go.Av
def strdW : List Int → List Int
  | [] => []
  | _ :: l => wk .i64 (prod l) :: strdW l
theorem strdW_length : ∀ l, (strdW l).length = l.length
  | [] => rfl
  | _ :: l => by simp [strdW, strdW_length l]
theorem strdW_get : ∀ {l : List Int} {i : Nat} (h : i < l.length), (strdW l)[i]? = some (wk .i64 (prod (l.drop (i + 1))))
  | _ :: l, 0, _ => by simp [strdW]
  | _ :: l, i + 1, h => by
    have := strdW_get (l := l) (i := i) (by simpa using h)
    simpa [strdW] using this
theorem rep_set (i : Nat) (x : Int) (s : List Int) : (List.replicate (i + 1) 0 ++ s).set i x = List.replicate i 0 ++ x :: s := by
  rw [List.replicate_succ', List.append_assoc, List.set_append_right _ _ (by simp)]
  simp
theorem strides_spec {fu : Nat} {l : List Int} (hl : l.length * 8 ≤ 140737488355328) (hf : l.length < fu) : shape_strides fu l = some (strdW l) := by
  unfold shape_strides shape_strides.W1
  rw [chk_pos (by omega)]
  have hw : wk .i64 ((l.length : Int) - 1) = ((l.length : Int) - 1) := wk_eq (by omega) (by omega)
  rw [hw, Int.toNat_natCast]
  refine (cloop_ind (fun _ => some (strdW l)) (fun (s : List Int × Int × Int) => ∃ k : Nat, k ≤ l.length ∧ s = (List.replicate k 0 ++ strdW (l.drop k), wk .i64 (prod (l.drop k)), (k : Int) - 1)) (fun s => (s.2.2 + 1).toNat) ?_ fu _ ⟨l.length, Nat.le_refl _, by simp [strdW, prod]; decide⟩ (by simp; omega))
  rintro _ ⟨k, hk, rfl⟩ next hn
  unfold shape_strides.L1
  simp only
  match k, hk with
  | 0, _ => rw [if_neg (by decide)]; simp
  | k + 1, hk =>
    have e1 : (((k + 1 : Nat) : Int) - 1) = (k : Int) := by omega
    have hlen : (List.replicate (k + 1) (0 : Int) ++ strdW (l.drop (k + 1))).length = l.length := by simp [strdW_length]; omega
    rw [e1, if_pos (by omega), hlen, chk_pos (by omega), at?_get (by omega), ob_some, Int.toNat_natCast, rep_set, wk_mul_l, wk_eq (x := (k : Int) - 1) (by omega) (by omega)]
    refine hn _ ⟨k, by omega, ?_⟩ (by simp)
    rw [List.drop_eq_getElem_cons (by omega : k < l.length)]
    simp only [strdW, prod]
    rw [Int.mul_comm]
theorem prod_drop_le {l : List Int} (hp : ∀ x ∈ l, 1 ≤ x) : ∀ k, 1 ≤ prod (l.drop k) ∧ prod (l.drop k) ≤ prod l := by
  induction l with
  | nil => intro k; simp [prod]
  | cons x l ih =>
    intro k
    have hx := hp x (by simp)
    have ih' := ih fun y hy => hp y (by simp [hy])
    cases k with
    | zero => exact ⟨by simpa using prod_pos hp, by simp⟩
    | succ k =>
      obtain ⟨h1, h2⟩ := ih' k
      have h3 := prod_pos (l := l) fun y hy => hp y (by simp [hy])
      refine ⟨by simpa using h1, ?_⟩
      simp only [List.drop_succ_cons, prod]
      have : 1 * prod l ≤ x * prod l := Int.mul_le_mul_of_nonneg_right hx (by omega)
      omega
theorem pos_of_good {l : List Int} (hg : Good l) (h0 : prod l ≠ 0) : ∀ x ∈ l, 1 ≤ x := fun x hx => by
  have := (hg.2.1 x hx).1
  by_cases h : x = 0
  · subst h; exact absurd (prod_zero hx) h0
  · omega
theorem good_short {l : List Int} (hg : Good l) : l.length * 8 ≤ 140737488355328 := by have := hg.1; omega
def idxV : List Int → Int → List Int
  | [], _ => []
  | _ :: l, a => a / prod l :: idxV l (a % prod l)
end Go.Av
set_option linter.unusedVariables false
namespace Go.Av
theorem Clone_spec {fu : Nat} {l : List Int} (h : l.length * 8 ≤ 140737488355328) : slices_Clone_int fu l = some l := by
  unfold slices_Clone_int
  rw [chk_pos (by omega)]
end Go.Av
set_option linter.unusedVariables false
namespace Go.Av
def sameT (a b : T_Tensor) : Bool := decide (a.fType = b.fType) && decide (a.fDims = b.fDims) && decide (a.fF = b.fF) && decide (a.fI = b.fI) && decide (a.fB = b.fB)
def Small (t : T_Tensor) : Prop := t.fDims.length * 8 ≤ 140737488351232 ∧ t.fF.length ≤ 140737488351232 ∧ t.fI.length ≤ 140737488351232 ∧ t.fB.length ≤ 140737488351232
def Fuel (fu : Nat) (t : T_Tensor) : Prop := t.fDims.length < fu ∧ t.fF.length < fu ∧ t.fI.length < fu ∧ t.fB.length < fu
theorem sameT_self (a : T_Tensor) : sameT a a = true := by simp [sameT]
def noT : T_Tensor := ⟨0, [], [], [], []⟩
theorem known_spec {fu : Nat} {k : Int} : tens_known fu k = some (decide (k = 1 ∨ k = 7 ∨ k = 9)) := by
  unfold tens_known tens_Width
  by_cases h1 : k = 1
  · simp [h1]
  · by_cases h2 : k = 7
    · simp [h2]
    · by_cases h3 : k = 9 <;> simp [h1, h2, h3]
def Known (k : Int) : Prop := k = 1 ∨ k = 7 ∨ k = 9
instance (k : Int) : Decidable (Known k) := by unfold Known; infer_instance
def LensOK (t : T_Tensor) : Prop := (t.fF.length : Int) = (if t.fType = 1 then prod t.fDims else 0) ∧ (t.fI.length : Int) = (if t.fType = 7 then prod t.fDims else 0) ∧ (t.fB.length : Int) = (if t.fType = 9 then prod t.fDims else 0)
instance (t : T_Tensor) : Decidable (LensOK t) := by unfold LensOK; infer_instance
def checkV (t : T_Tensor) : Int := if Known t.fType then (if Good t.fDims then (if LensOK t then 0 else 3) else errS t.fDims) else 5
theorem Check_spec {fu : Nat} {t : T_Tensor} (hs : Small t) (hf : Fuel fu t) : tens_Check fu t = some (checkV t) := by
  obtain ⟨s1, s2, s3, s4⟩ := hs
  unfold tens_Check checkV; try unfold jn
  rw [known_spec, ob_some, Size_spec (by unfold Short; omega) hf.1]
  by_cases hk : Known t.fType
  · rw [if_pos (by simpa [Known] using hk), ob_some, if_pos hk]
    simp only [sizeV]
    by_cases hg : Good t.fDims
    · simp only [if_pos hg, if_true]
      have hp := prod_nonneg hg.2.1
      have hsum : wk .i64 ((wk .i64 ((t.fF.length : Int) + (t.fI.length : Int))) + (t.fB.length : Int)) = t.fF.length + t.fI.length + t.fB.length := by
        rw [wk_add_l, wk_eq (by omega) (by omega)]
      unfold tens_Check.k1 LensOK
      simp only [hsum]
      rcases hk with e | e | e
      · simp only [e, show ¬ (1 : Int) = 7 by decide, show ¬ (1 : Int) = 9 by decide, if_false, if_true]
        by_cases h1 : (t.fF.length : Int) = prod t.fDims
        · by_cases h2 : (t.fF.length : Int) + t.fI.length + t.fB.length = prod t.fDims
          · rw [if_pos h1, if_pos h2, if_pos ⟨h1, by omega, by omega⟩]
          · rw [if_pos h1, if_neg h2, if_neg (fun h => h2 (by omega))]
        · rw [if_neg h1, if_neg (fun h => h1 h.1)]
      · simp only [e, show ¬ (7 : Int) = 1 by decide, show ¬ (7 : Int) = 9 by decide, if_false, if_true]
        by_cases h1 : (t.fI.length : Int) = prod t.fDims
        · by_cases h2 : (t.fF.length : Int) + t.fI.length + t.fB.length = prod t.fDims
          · rw [if_pos h1, if_pos h2, if_pos ⟨by omega, h1, by omega⟩]
          · rw [if_pos h1, if_neg h2, if_neg (fun h => h2 (by omega))]
        · rw [if_neg h1, if_neg (fun h => h1 h.2.1)]
      · simp only [e, show ¬ (9 : Int) = 1 by decide, show ¬ (9 : Int) = 7 by decide, if_false, if_true]
        by_cases h1 : (t.fB.length : Int) = prod t.fDims
        · by_cases h2 : (t.fF.length : Int) + t.fI.length + t.fB.length = prod t.fDims
          · rw [if_pos h1, if_pos h2, if_pos ⟨by omega, by omega, h1⟩]
          · rw [if_pos h1, if_neg h2, if_neg (fun h => h2 (by omega))]
        · rw [if_neg h1, if_neg (fun h => h1 h.2.2)]
    · simp only [if_neg hg]
      rw [if_neg (errS_ne _)]
  · rw [if_neg (by simpa [Known] using hk), if_neg hk]
theorem checkV_zero {t : T_Tensor} : checkV t = 0 ↔ Known t.fType ∧ Good t.fDims ∧ LensOK t := by
  unfold checkV
  by_cases hk : Known t.fType <;> by_cases hg : Good t.fDims <;> by_cases hl : LensOK t <;> simp [hk, hg, hl, errS_ne]
theorem map_loop {β : Type} {l : List Int} {f : Int → Int} {B : ((List Int × Int) → Option β) → (List Int × Int) → Option β} {c : List Int → Option β} {fu : Nat} (hf : l.length < fu)
    (hB : ∀ (next : List Int × Int → Option β) (k : Nat) (m : List Int) (hk : k < l.length), m.length = l.length → (hm : m[k]? = some l[k]) → B next (m, (k : Int)) = next (m.set k (f l[k]), ((k + 1 : Nat) : Int)))
    (hE : ∀ next (m : List Int), m.length = l.length → B next (m, (l.length : Int)) = c m) : cloop B fu (l, 0) = c (l.map f) := by
  have := cloop_up (body := B) (n := fu) l.length (fun k => (l.take k).map f ++ l.drop k) (c (l.map f)) ?_ ?_ hf
  · simpa using this
  · intro k hk next hn
    have hlk : ((l.take k).map f).length = k := by simp; omega
    rw [hB next k _ hk (by simp; omega) (by rw [List.getElem?_append_right (by omega), hlk, Nat.sub_self, List.getElem?_drop]; simp [hk])]
    have e : ((l.take k).map f ++ l.drop k).set k (f l[k]) = (l.take (k + 1)).map f ++ l.drop (k + 1) := by
      rw [List.set_append_right _ _ (by omega), hlk, Nat.sub_self, List.drop_eq_getElem_cons hk, List.set_cons_zero, List.take_add_one, List.getElem?_eq_getElem hk, List.map_append, List.append_assoc]
      rfl
    rw [e]
    exact hn
  · intro next
    rw [hE _ _ (by simp)]
    simp
def canonF (x : Int) : Int := if 2139095040 < x % 2147483648 then 2143289344 else x
def canonT (t : T_Tensor) : T_Tensor := ⟨t.fType, t.fDims, t.fF.map canonF, t.fI, t.fB⟩
theorem wk_eq32 {x : Int} (h0 : 0 ≤ x) (h1 : x < 4294967296) : wk .u32 x = x := by
  have : wk .u32 x = x % 4294967296 := by simp [wk, IntKind.wrap, IntKind.signed, IntKind.bits]
  rw [this, Int.emod_eq_of_lt h0 h1]
theorem abs_u32 {x : Int} (h0 : 0 ≤ x) (h1 : x < 4294967296) : bandn .u32 x 2147483648 = x % 2147483648 := by
  unfold bandn
  rw [show IntKind.u32.bits = 32 from rfl, show ~~~(BitVec.ofInt 32 2147483648) = BitVec.ofNat 32 (2 ^ 31 - 1) by decide, BitVec.toNat_and, BitVec.toNat_ofNat, BitVec.toNat_ofInt]
  have : (2 ^ 31 - 1) % 2 ^ 32 = 2 ^ 31 - 1 := by decide
  rw [this, Nat.and_two_pow_sub_one_eq_mod]
  have hw := wk_eq32 (x := (((x % ((2 ^ 32 : Nat) : Int)).toNat % 2 ^ 31 : Nat) : Int)) (by omega) (by omega)
  unfold wk at hw
  rw [hw]
  omega
theorem softCanon_spec {fu : Nat} {x : Int} (h0 : 0 ≤ x) (h1 : x < 4294967296) : soft_Canon fu x = some (canonF x) := by
  unfold soft_Canon soft_NaN soft_Abs canonF
  rw [abs_u32 h0 h1, ob_some, ob_some]
  by_cases h : 2139095040 < x % 2147483648 <;> simp [h]
def Ten (t : T_Tensor) : Prop := t.fDims.length * 8 ≤ 140737488351232 ∧ t.fF.length * 4 ≤ 140737488351232 ∧ t.fI.length * 8 ≤ 140737488351232 ∧ t.fB.length ≤ 140737488351232 ∧ ∀ x ∈ t.fF, 0 ≤ x ∧ x < 4294967296
theorem Ten.small {t : T_Tensor} (h : Ten t) : Small t := by obtain ⟨a, b, c, d, _⟩ := h; exact ⟨a, by omega, by omega, by omega⟩
theorem Copy_spec {fu : Nat} {t : T_Tensor} (h : Ten t) : tens_Copy fu t = some t := by
  obtain ⟨h1, h2, h3, h4, _⟩ := h
  unfold tens_Copy tens_own_int tens_own_uint32 tens_own_int64 tens_own_bool
  rw [chk_pos (by omega), ob_some, chk_pos (by omega), ob_some, chk_pos (by omega), ob_some, chk_pos (by omega), ob_some]
theorem Canon_spec {fu : Nat} {t : T_Tensor} (h : Ten t) (hf : t.fF.length < fu) : tens_Canon fu t = some (canonT t) := by
  have hu := h.2.2.2.2
  have hl := h.2.1
  unfold tens_Canon
  rw [Copy_spec h, ob_some]
  unfold tens_Canon.W1
  refine map_loop (f := canonF) (c := fun m => some (T_Tensor.mk t.fType t.fDims m t.fI t.fB)) hf ?_ ?_
  · intro next k m hk hm hg
    unfold tens_Canon.L1
    simp only []
    obtain ⟨u1, u2⟩ := hu _ (List.getElem_mem hk)
    rw [if_pos (by omega), at?_nat, hg, ob_some, softCanon_spec u1 u2, ob_some, chk_pos (by omega), wk_succ (by omega)]
    rfl
  · intro next m hm
    unfold tens_Canon.L1
    rw [if_neg (by simp)]
end Go.Av
set_option linter.unusedVariables false
namespace Go.Av
theorem drop_same {a b : List Int} {i : Nat} (ha : i < a.length) (hb : i < b.length) : a.drop i = b.drop i ↔ a[i] = b[i] ∧ a.drop (i + 1) = b.drop (i + 1) := by
  rw [List.drop_eq_getElem_cons ha, List.drop_eq_getElem_cons hb]
  exact List.cons_eq_cons
theorem SameInts_spec {fu : Nat} {a b : List Int} (hl : Short a) (hf : a.length < fu) : ref04_SameInts fu a b = some (decide (a = b)) := by
  unfold ref04_SameInts ref04_SameInts.W1
  by_cases hlen : a.length = b.length
  · rw [if_pos (by omega)]
    refine (cloop_ind (fun (i : Int) => some (decide (a.drop i.toNat = b.drop i.toNat))) (fun i => 0 ≤ i ∧ i ≤ a.length) (fun i => a.length - i.toNat) ?_ fu 0 (by simp) (by simp; omega)).trans (by simp)
    rintro i ⟨h0, h1⟩ next hn
    obtain ⟨k, rfl⟩ := Int.eq_ofNat_of_zero_le h0
    unfold ref04_SameInts.L1
    simp only [Int.toNat_natCast]
    by_cases hk : k < a.length
    · rw [if_pos (by omega), at?_get hk, ob_some, at?_get (by omega : k < b.length), ob_some, wk_succ (by unfold Short at hl; omega)]
      have hd := drop_same hk (by omega : k < b.length)
      by_cases he : a[k] = b[k]
      · rw [if_pos he, hn _ (by omega) (by simp; omega)]
        simp [hd, he]
      · rw [if_neg he]
        simp [hd, he]
    · rw [if_neg (by omega)]
      have e1 : a.drop k = b.drop k := by rw [List.drop_of_length_le (by omega), List.drop_of_length_le (by omega)]
      simp [e1]
  · rw [if_neg (by omega)]
    have : ¬ a = b := fun h => hlen (by rw [h])
    simp [this]
end Go.Av
set_option linter.unusedVariables false
namespace Go.Av
theorem same_loop {α : Type} [DecidableEq α] {a b : List α} (hl : a.length = b.length) {fu : Nat} (hf : a.length < fu) (hs : a.length ≤ 140737488355328) {L : (Int → Option Bool) → Int → Option Bool} {c : Option Bool}
    (hL : ∀ nx i, L nx i = if i < (a.length : Int) then ((at? a i).bind fun x => (at? b i).bind fun y => if x = y then (nx (wk .i64 (i + 1))) else some false) else c) : cloop L fu 0 = if a = b then c else some false := by
  refine (cloop_ind (fun (i : Int) => if a.drop i.toNat = b.drop i.toNat then c else some false) (fun i => 0 ≤ i ∧ i ≤ a.length) (fun i => a.length - i.toNat) ?_ fu 0 (by simp) (by simp; omega)).trans (by simp)
  rintro i ⟨h0, h1⟩ next hn
  obtain ⟨k, rfl⟩ := Int.eq_ofNat_of_zero_le h0
  rw [hL]
  simp only [Int.toNat_natCast]
  by_cases hk : k < a.length
  · have hkb : k < b.length := by omega
    have hd : a.drop k = b.drop k ↔ a[k] = b[k] ∧ a.drop (k + 1) = b.drop (k + 1) := by
      rw [List.drop_eq_getElem_cons hk, List.drop_eq_getElem_cons hkb]; exact List.cons_eq_cons
    rw [if_pos (by omega), at?_get hk, ob_some, at?_get hkb, ob_some, wk_succ (by omega)]
    by_cases he : a[k] = b[k]
    · rw [if_pos he, hn _ (by omega) (by simp; omega)]
      by_cases h2 : a.drop (k + 1) = b.drop (k + 1)
      · rw [if_pos (by simpa using h2), if_pos (hd.2 ⟨he, h2⟩)]
      · rw [if_neg (by simpa using h2), if_neg (fun h => h2 (hd.1 h).2)]
    · rw [if_neg he, if_neg (fun h => he (hd.1 h).1)]
  · rw [if_neg (by omega), if_pos (by rw [List.drop_of_length_le (by omega), List.drop_of_length_le (by omega)])]
theorem refSame_spec {fu : Nat} {a b : T_Tensor} (hs : Small a) (hf : Fuel fu a) : ref05_Same fu a b = some (sameT a b) := by
  obtain ⟨s1, s2, s3, s4⟩ := hs
  obtain ⟨f1, f2, f3, f4⟩ := hf
  unfold ref05_Same sameT; try unfold jn
  by_cases h1 : a.fType = b.fType
  · rw [if_pos h1, SameInts_spec (by unfold Short; omega) f1, ob_some]
    by_cases h2 : a.fDims = b.fDims
    · rw [if_pos (by simpa using h2)]
      by_cases l3 : a.fF.length = b.fF.length
      · rw [if_pos (by omega)]
        by_cases l4 : a.fI.length = b.fI.length
        · rw [if_pos (by omega)]
          by_cases l5 : a.fB.length = b.fB.length
          · rw [if_pos (by omega)]
            unfold ref05_Same.k1 ref05_Same.W3; try unfold jn
            rw [same_loop (L := fun next s => ref05_Same.L3 fu a b next s) (a := a.fF) (b := b.fF) l3 f2 (by omega) (c := ref05_Same.k2 fu a b) (fun nx i => rfl)]
            unfold ref05_Same.k2 ref05_Same.W2; try unfold jn
            rw [same_loop (L := fun next s => ref05_Same.L2 fu a b next s) (a := a.fI) (b := b.fI) l4 f3 (by omega) (c := ref05_Same.k3 fu a b) (fun nx i => rfl)]
            unfold ref05_Same.k3 ref05_Same.W1
            rw [same_loop (L := fun next s => ref05_Same.L1 fu a b next s) (a := a.fB) (b := b.fB) l5 f4 (by omega) (c := some true) (fun nx i => by unfold ref05_Same.L1; simp only [beq_iff_eq])]
            by_cases e3 : a.fF = b.fF <;> by_cases e4 : a.fI = b.fI <;> by_cases e5 : a.fB = b.fB <;> simp [h1, h2, e3, e4, e5]
          · rw [if_neg (by omega)]
            have : ¬ a.fB = b.fB := fun h => l5 (by rw [h])
            simp [this]
        · rw [if_neg (by omega)]
          have : ¬ a.fI = b.fI := fun h => l4 (by rw [h])
          simp [this]
      · rw [if_neg (by omega)]
        have : ¬ a.fF = b.fF := fun h => l3 (by rw [h])
        simp [this]
    · rw [if_neg (by simpa using h2)]
      simp [h2]
  · rw [if_neg h1]
    simp [h1]
end Go.Av
set_option linter.unusedVariables false
namespace Go.Av
theorem cloop_succ {σ β : Type} {body : (σ → Option β) → σ → Option β} {n : Nat} {s : σ} : cloop body (n + 1) s = body (cloop body n) s := rfl
def zeroVal : T_Val := ⟨0, [], false, ⟨0, [], [], [], []⟩⟩
def valOf (t : T_Tensor) : T_Val := if t.fType = 0 then zeroVal else ⟨t.fType, t.fDims, true, t⟩
def Tens (fu : Nat) (l : List T_Tensor) : Prop := l.length ≤ 1048576 ∧ l.length < fu ∧ ∀ t ∈ l, Ten t ∧ Fuel fu t
theorem CloneI_spec {fu : Nat} {l : List Int} (h : l.length * 8 ≤ 140737488351232) : slices_Clone_int fu l = some l := by
  unfold slices_Clone_int; rw [chk_pos (by omega)]
theorem take_next {α β : Type} {f : α → β} {l : List α} {k : Nat} (hk : k < l.length) : (l.take (k + 1)).map f = (l.take k).map f ++ [f l[k]] := by
  rw [List.take_add_one, List.getElem?_eq_getElem hk, List.map_append]; rfl
theorem Vals_all {fu : Nat} {l : List T_Tensor} (h : Tens fu l) : ewise_Vals fu l = some (l.map valOf) := by
  unfold ewise_Vals ewise_Vals.W1
  have hl0 := h.1
  refine cloop_up l.length (fun k => (l.take k).map valOf) _ ?_ ?_ h.2.1
  · intro k hk next hn
    have ht := (h.2.2 _ (List.getElem_mem hk)).1
    show ewise_Vals.L1 fu l _ _ (k : Int) = _
    have hl : ((l.take k).map valOf).length = k := by simp; omega
    rw [take_next hk] at hn
    rw [ewise_Vals.L1, if_pos (by omega), at?_get hk, ob_some, wk_succ (by omega)]
    by_cases h0 : l[k].fType = 0
    · rw [if_pos h0, chk_pos (by rw [hl]; omega)]
      rw [valOf, if_pos h0] at hn
      exact hn
    · rw [if_neg h0, CloneI_spec ht.1, ob_some, Copy_spec ht, ob_some, chk_pos (by rw [hl]; omega)]
      rw [valOf, if_neg h0] at hn
      exact hn
  · intro next
    show ewise_Vals.L1 fu l _ _ (l.length : Int) = _
    rw [ewise_Vals.L1, if_neg (by omega), List.take_length]
def badV : List T_Tensor → Option Int
  | [] => none
  | t :: l => if t.fType = 0 ∨ checkV t = 0 then badV l else some (checkV t)
theorem head_loop {β : Type} {fu : Nat} {l : List T_Tensor} (h : Tens fu l) {k1 : List T_Tensor → Option β} {er : Int → Option β} {L : (List T_Tensor → Int → Option β) → List T_Tensor → Int → Option β}
    (hL : ∀ nx acc i, L nx acc i = if i < (l.length : Int) then ((at? l i).bind fun x => if x.fType = 0 then ((tens_Canon fu x).bind fun y => chk ((acc.length + 1 : Int) * 104 ≤ 140737488355328) <| nx (acc ++ ([y])) (wk .i64 (i + 1))) else
      (tens_Check fu x).bind fun c => if c = 0 then ((tens_Canon fu x).bind fun y => chk ((acc.length + 1 : Int) * 104 ≤ 140737488355328) <| nx (acc ++ ([y])) (wk .i64 (i + 1))) else er c) else k1 acc) :
    cloop (fun next s => L (fun a b => next (a, b)) s.1 s.2) fu (([] : List T_Tensor), (0 : Int)) = match badV l with | some e => er e | none => k1 (l.map canonT) := by
  have hl0 := h.1
  have key : ∀ m q k : Nat, l.length - k = m → k ≤ l.length → m < q → cloop (fun next s => L (fun a b => next (a, b)) s.1 s.2) q ((l.take k).map canonT, (k : Int)) = match badV (l.drop k) with | some e => er e | none => k1 (l.map canonT) := by
    intro m
    induction m with
    | zero =>
      intro q k h1 h2 h3
      cases q with
      | zero => omega
      | succ q =>
        have : k = l.length := by omega
        subst this
        rw [cloop_succ]
        show L _ _ (l.length : Int) = _
        rw [hL, if_neg (by omega), List.take_length, List.drop_length]
        rfl
    | succ m ih =>
      intro q k h1 h2 h3
      cases q with
      | zero => omega
      | succ q =>
        have hk : k < l.length := by omega
        obtain ⟨ht, hf⟩ := h.2.2 _ (List.getElem_mem hk)
        have hl : ((l.take k).map canonT).length = k := by simp; omega
        have hn := ih q (k + 1) (by omega) (by omega) (by omega)
        rw [take_next hk] at hn
        rw [cloop_succ]
        show L _ _ (k : Int) = _
        rw [hL, if_pos (by omega), at?_get hk, ob_some, wk_succ (by omega), List.drop_eq_getElem_cons hk]
        unfold badV
        by_cases h0 : l[k].fType = 0
        · rw [if_pos h0, Canon_spec ht hf.2.1, ob_some, chk_pos (by rw [hl]; omega), if_pos (.inl h0)]
          exact hn
        · rw [if_neg h0, Check_spec ht.small hf, ob_some]
          by_cases hc : checkV l[k] = 0
          · rw [if_pos hc, Canon_spec ht hf.2.1, ob_some, chk_pos (by rw [hl]; omega), if_pos (.inr hc)]
            exact hn
          · rw [if_neg hc, if_neg (fun hh => hh.elim h0 hc)]
  exact key l.length fu 0 (by omega) (by omega) h.2.1
end Go.Av
set_option linter.unusedVariables false
namespace Go.Av
def newV (k : Int) (d : List Int) : T_Tensor × Int :=
  if k = 1 ∨ k = 7 ∨ k = 9 then (if Good d then (if k = 1 then (⟨k, d, List.replicate (prod d).toNat 0, [], []⟩, 0) else if k = 7 then (⟨k, d, [], List.replicate (prod d).toNat 0, []⟩, 0) else (⟨k, d, [], [], List.replicate (prod d).toNat false⟩, 0)) else (noT, errS d)) else (noT, 5)
theorem New_spec {fu : Nat} {k : Int} {d : List Int} (hd : Short d) (hf : d.length < fu) : tens_New fu k d = some (newV k d) := by
  unfold tens_New newV
  rw [known_spec, ob_some, Size_spec hd hf, ob_some]
  by_cases hk : k = 1 ∨ k = 7 ∨ k = 9
  · rw [if_pos (by simpa using hk), if_pos hk]
    simp only [sizeV]
    by_cases hg : Good d
    · simp only [if_pos hg, if_true]
      have h1 := prod_nonneg hg.2.1
      have h2 := hg.2.2
      have h3 := hg.1
      unfold slices_Clone_int
      rw [chk_pos (by omega), ob_some, chk_pos (by omega), chk_pos (by omega), chk_pos (by omega)]
      by_cases e1 : k = 1
      · rw [if_pos e1, if_pos e1]
      · rw [if_neg e1, if_neg e1]
        by_cases e2 : k = 7
        · rw [if_pos e2, if_pos e2]
        · rw [if_neg e2, if_neg e2]
    · simp only [if_neg hg]
      rw [if_neg (errS_ne d)]
      rfl
  · rw [if_neg (by simpa using hk), if_neg hk]
    rfl
end Go.Av
set_option linter.unusedVariables false
namespace Go.Av
section
variable {fu : Nat}
end
end Go.Av
set_option linter.unusedVariables false
namespace Go.Av
theorem IndexW_spec {fu : Nat} {l : List Int} {a : Int} (hg : Good l) (hn0 : 1 ≤ prod l) (ha : 0 ≤ a) (ha2 : a ≤ 4096) (hf : l.length < fu) : shape_Index.W1 fu (strdW l) (List.replicate l.length 0) a 0 = some (idxV l a, 0) := by
  have hp := pos_of_good hg (by omega)
  have hd := prod_drop_le hp
  have hP := hg.2.2
  have hL := hg.1
  unfold shape_Index.W1
  refine (cloop_ind (fun s => some (s.1.take s.2.2.toNat ++ idxV (l.drop s.2.2.toNat) s.2.1, (0 : Int))) (fun (s : List Int × Int × Int) => 0 ≤ s.2.2 ∧ s.2.2 ≤ l.length ∧ s.1.length = l.length ∧ 0 ≤ s.2.1 ∧ s.2.1 ≤ 4096) (fun s => l.length - s.2.2.toNat) ?_ fu _ ⟨by simp, by simp, by simp, ha, ha2⟩ (by simp; omega)).trans (by simp)
  rintro ⟨o, b, i⟩ ⟨h0, h1, h2, h3, h4⟩ next hn
  simp only at h0 h1 h2 h3 h4 hn ⊢
  obtain ⟨k, rfl⟩ := Int.eq_ofNat_of_zero_le h0
  unfold shape_Index.L1
  simp only [Int.toNat_natCast, strdW_length]
  by_cases hk : k < l.length
  · obtain ⟨d1, d2⟩ := hd (k + 1)
    have hw : wk .i64 (prod (l.drop (k + 1))) = prod (l.drop (k + 1)) := wk_eq (by omega) (by omega)
    rw [if_pos (by omega), at?_nat, strdW_get hk, ob_some, hw]
    have q1 : Int.tdiv b (prod (l.drop (k + 1))) = b / prod (l.drop (k + 1)) := Int.tdiv_eq_ediv_of_nonneg h3
    have q2 : Int.tmod b (prod (l.drop (k + 1))) = b % prod (l.drop (k + 1)) := Int.tmod_eq_emod_of_nonneg h3
    have q3 : 0 ≤ b / prod (l.drop (k + 1)) := Int.ediv_nonneg h3 (by omega)
    have q4 : b / prod (l.drop (k + 1)) ≤ b := Int.ediv_le_self _ h3
    have q5 : 0 ≤ b % prod (l.drop (k + 1)) := Int.emod_nonneg _ (by omega)
    have q6 : b % prod (l.drop (k + 1)) < prod (l.drop (k + 1)) := Int.emod_lt_of_pos _ (by omega)
    rw [chk_pos (by omega), chk_pos (by omega), q1, q2, wk_eq (by omega) (by omega), wk_succ (by omega)]
    rw [hn (_, _, ((k + 1 : Nat) : Int)) ⟨by simp only []; omega, by simp only []; omega, by simp [h2], q5, by simp only []; omega⟩ (by simp; omega)]
    simp only [Int.toNat_natCast, Option.some.injEq, Prod.mk.injEq, and_true]
    rw [List.drop_eq_getElem_cons hk]
    simp only [idxV]
    rw [List.take_succ_eq_append_getElem (by simp; omega), List.append_assoc, List.take_set, List.set_eq_of_length_le (by simp; omega)]
    simp
  · rw [if_neg (by omega), List.drop_of_length_le (by omega), List.take_of_length_le (by omega)]
    simp [idxV]
def indexV (l : List Int) (a : Int) : List Int × Int := if Good l then (if 0 ≤ a ∧ a < prod l then (idxV l a, 0) else ([], 2)) else ([], errS l)
theorem Index_spec {fu : Nat} {l : List Int} {a : Int} (hl : Short l) (hf : l.length < fu) : shape_Index fu l a = some (indexV l a) := by
  unfold shape_Index; try unfold jn
  rw [Size_spec hl hf, ob_some]
  simp only [sizeV, indexV]
  by_cases hg : Good l
  · simp only [if_pos hg, if_true]
    by_cases h1 : a < 0
    · rw [if_pos h1, if_neg (by omega)]
    · rw [if_neg h1]
      by_cases h2 : prod l ≤ a
      · rw [if_pos h2, if_neg (by omega)]
      · rw [if_neg h2, if_pos (by omega)]
        unfold shape_Index.k1
        have := hg.1
        have := hg.2.2
        rw [chk_pos (by omega), strides_spec (good_short hg) hf, ob_some, Int.toNat_natCast, IndexW_spec hg (by omega) (by omega) (by omega) hf]
  · simp only [if_neg hg]
    rw [if_neg (errS_ne l)]
end Go.Av
set_option linter.unusedVariables false
namespace Go.Av
def setR : T_Setting := T_Setting.mk 0 ([]) false false false false false ([]) false 0 0 0 false false false 0 0 false false 0 ([]) ([]) ([]) ([]) 0 false false 0 0 0 false (T_Tensor.mk 0 ([]) ([]) ([]) ([]))
def setP (h w : Int) : T_Setting := T_Setting.mk 0 ([]) false false false false false ([]) false 0 0 0 false false false 0 0 false false 0 ([h, w]) ([]) ([]) ([]) 0 false false 0 0 0 false (T_Tensor.mk 0 ([]) ([]) ([]) ([]))
def outV (k : Int) (d : List Int) : T_Val := ⟨k, d, false, ⟨0, [], [], [], []⟩⟩
theorem width_k {fu : Nat} {k : Int} (h : Known k) : ∃ w, tens_Width fu k = some w ∧ 0 < w := by
  unfold tens_Width
  rcases h with rfl | rfl | rfl
  · exact ⟨4, rfl, by decide⟩
  · exact ⟨8, rfl, by decide⟩
  · exact ⟨1, rfl, by decide⟩
section
variable {fu : Nat} {v : T_Val} {a b h w : Int} {s : T_Setting}
theorem has_78 : infer_ask_has fu ⟨78, s, [v], 1⟩ 0 = some (!(decide (v.fType = 0))) := rfl
theorem has_77 : infer_ask_has fu ⟨77, s, [v], 1⟩ 0 = some (!(decide (v.fType = 0))) := rfl
theorem val_78 : infer_ask_val fu ⟨78, s, [v], 1⟩ 0 = some v := rfl
theorem val_77 : infer_ask_val fu ⟨77, s, [v], 1⟩ 0 = some v := rfl
theorem complete_78 (h0 : v.fType ≠ 0) : infer_ask_complete (fu + 2) ⟨78, s, [v], 1⟩ = some true := by
  have h : infer_ask_complete (fu + 2) ⟨78, s, [v], 1⟩ = infer_ask_complete.W1 (fu + 2) ⟨78, s, [v], 1⟩ (1, 1, 1, 1) 0 := rfl
  rw [h]
  unfold infer_ask_complete.W1
  rw [cloop_succ, infer_ask_complete.L1, if_pos (by decide)]
  show (infer_ask_has (fu + 2) ⟨78, s, [v], 1⟩ 0).bind _ = _
  rw [has_78, ob_some, if_pos (by simp [h0]), cloop_succ, show wk .i64 (0 + 1) = 1 from rfl, infer_ask_complete.L1, if_neg (by decide)]
theorem complete_77 (h0 : v.fType ≠ 0) : infer_ask_complete (fu + 2) ⟨77, s, [v], 1⟩ = some true := by
  have h : infer_ask_complete (fu + 2) ⟨77, s, [v], 1⟩ = infer_ask_complete.W2 (fu + 2) ⟨77, s, [v], 1⟩ (1, 1, 1, 1) 0 := rfl
  rw [h]
  unfold infer_ask_complete.W2
  rw [cloop_succ, infer_ask_complete.L2, if_pos (by decide)]
  show (infer_ask_has (fu + 2) ⟨77, s, [v], 1⟩ 0).bind _ = _
  rw [has_77, ob_some, if_pos (by simp [h0]), cloop_succ, show wk .i64 (0 + 1) = 1 from rfl, infer_ask_complete.L2, if_neg (by decide)]
theorem typed_78 (h0 : Known v.fType) : infer_ask_typed (fu + 2) ⟨78, s, [v], 1⟩ = some (decide (v.fType = 1)) := by
  obtain ⟨w, hw, hw0⟩ := width_k (fu := fu + 2) h0
  have hv0 : v.fType ≠ 0 := by rcases h0 with e | e | e <;> rw [e] <;> decide
  have h : infer_ask_typed (fu + 2) ⟨78, s, [v], 1⟩ = infer_ask_typed.W1 (fu + 2) ⟨78, s, [v], 1⟩ ⟨#[102]⟩ 0 := rfl
  rw [h]
  unfold infer_ask_typed.W1
  rw [cloop_succ, infer_ask_typed.L1, if_pos (by simp)]
  show (infer_ask_has (fu + 2) ⟨78, s, [v], 1⟩ 0).bind _ = _
  rw [has_78, ob_some, if_pos (by simp [hv0])]
  show (infer_ask_val (fu + 2) ⟨78, s, [v], 1⟩ 0).bind _ = _
  rw [val_78, ob_some, hw, ob_some, if_neg (by omega)]
  show (some 102 : Option Int).bind _ = _
  rw [ob_some]
  have hf : infer_ask_fits (fu + 2) ⟨78, s, [v], 1⟩ 0 102 = some (decide (v.fType = 1)) := rfl
  show (infer_ask_fits (fu + 2) ⟨78, s, [v], 1⟩ 0 102).bind _ = _
  rw [hf, ob_some]
  by_cases h1 : v.fType = 1
  · rw [if_pos (by simp [h1]), cloop_succ, show wk .i64 (0 + 1) = 1 from rfl, infer_ask_typed.L1, if_neg (by simp)]
    simp [infer_ask_typed.k1, h1]
  · rw [if_neg (by simp [h1])]; simp [h1]
theorem typed_77 (h0 : Known v.fType) : infer_ask_typed (fu + 2) ⟨77, s, [v], 1⟩ = some (decide (v.fType = 1)) := by
  obtain ⟨w, hw, hw0⟩ := width_k (fu := fu + 2) h0
  have hv0 : v.fType ≠ 0 := by rcases h0 with e | e | e <;> rw [e] <;> decide
  have h : infer_ask_typed (fu + 2) ⟨77, s, [v], 1⟩ = infer_ask_typed.W2 (fu + 2) ⟨77, s, [v], 1⟩ ⟨#[102]⟩ 0 := rfl
  rw [h]
  unfold infer_ask_typed.W2
  rw [cloop_succ, infer_ask_typed.L2, if_pos (by simp)]
  show (infer_ask_has (fu + 2) ⟨77, s, [v], 1⟩ 0).bind _ = _
  rw [has_77, ob_some, if_pos (by simp [hv0])]
  show (infer_ask_val (fu + 2) ⟨77, s, [v], 1⟩ 0).bind _ = _
  rw [val_77, ob_some, hw, ob_some, if_neg (by omega)]
  show (some 102 : Option Int).bind _ = _
  rw [ob_some]
  have hf : infer_ask_fits (fu + 2) ⟨77, s, [v], 1⟩ 0 102 = some (decide (v.fType = 1)) := rfl
  show (infer_ask_fits (fu + 2) ⟨77, s, [v], 1⟩ 0 102).bind _ = _
  rw [hf, ob_some]
  by_cases h1 : v.fType = 1
  · rw [if_pos (by simp [h1]), cloop_succ, show wk .i64 (0 + 1) = 1 from rfl, infer_ask_typed.L2, if_neg (by simp)]
    simp [infer_ask_typed.k2, h1]
  · rw [if_neg (by simp [h1])]; simp [h1]
theorem attr_78 : infer_ask_attributes fu ⟨78, s, [v], 1⟩ = some true := rfl
theorem attr_77 : infer_ask_attributes fu ⟨77, setP h w, [v], 1⟩ = some true := rfl
theorem told_78 : infer_ask_told (fu + 4) ⟨78, s, [v], 1⟩ = some 0 := rfl
theorem told_77 : infer_ask_told (fu + 4) ⟨77, s, [v], 1⟩ = some 0 := rfl
theorem wrong_78 (h0 : Known v.fType) (hg : Good v.fDims) (hf : 40 < fu) : infer_ask_wrong (fu + 4) ⟨78, s, [v], 1⟩ = some (if v.fType = 1 then 0 else 5) := by
  have hv0 : v.fType ≠ 0 := by rcases h0 with e | e | e <;> rw [e] <;> decide
  have h : infer_ask_wrong (fu + 4) ⟨78, s, [v], 1⟩ = infer_ask_wrong.W1 (fu + 4) ⟨78, s, [v], 1⟩ 0 := rfl
  have hl := hg.1
  rw [h]
  unfold infer_ask_wrong.W1
  rw [cloop_succ, infer_ask_wrong.L1, if_pos (by simp)]
  show (some v).bind _ = _
  rw [ob_some, Size_spec (by unfold Short; omega) (by omega), ob_some]
  show (infer_ask_has (fu + 4) ⟨78, s, [v], 1⟩ 0).bind _ = _
  rw [has_78, ob_some, if_pos (by simp [hv0]), sizeV, if_pos hg, if_pos rfl, cloop_succ, show wk .i64 (0 + 1) = 1 from rfl, infer_ask_wrong.L1, if_neg (by simp)]
  have e : infer_ask_wrong.k1 (fu + 4) ⟨78, s, [v], 1⟩ = (infer_ask_typed (fu + 4) ⟨78, s, [v], 1⟩).bind fun x2 => if x2 = true then ((infer_ask_attributes (fu + 4) ⟨78, s, [v], 1⟩).bind fun x3 => if x3 = true then ((infer_ask_told (fu + 4) ⟨78, s, [v], 1⟩).bind fun x4 => some x4) else some 14) else some 5 := rfl
  rw [e, typed_78 (fu := fu + 2) h0, ob_some]
  by_cases h1 : v.fType = 1
  · rw [if_pos (by simp [h1]), attr_78, ob_some, if_pos rfl, told_78, ob_some, if_pos h1]
  · rw [if_neg (by simp [h1]), if_neg h1]
theorem wrong_77 (h0 : Known v.fType) (hg : Good v.fDims) (hf : 40 < fu) : infer_ask_wrong (fu + 4) ⟨77, setP h w, [v], 1⟩ = some (if v.fType = 1 then 0 else 5) := by
  have hv0 : v.fType ≠ 0 := by rcases h0 with e | e | e <;> rw [e] <;> decide
  have h : infer_ask_wrong (fu + 4) ⟨77, setP h w, [v], 1⟩ = infer_ask_wrong.W2 (fu + 4) ⟨77, setP h w, [v], 1⟩ 0 := rfl
  have hl := hg.1
  rw [h]
  unfold infer_ask_wrong.W2
  rw [cloop_succ, infer_ask_wrong.L2, if_pos (by simp)]
  show (some v).bind _ = _
  rw [ob_some, Size_spec (by unfold Short; omega) (by omega), ob_some]
  show (infer_ask_has (fu + 4) ⟨77, setP _ _, [v], 1⟩ 0).bind _ = _
  rw [has_77, ob_some, if_pos (by simp [hv0]), sizeV, if_pos hg, if_pos rfl, cloop_succ, show wk .i64 (0 + 1) = 1 from rfl, infer_ask_wrong.L2, if_neg (by simp)]
  have e : ∀ h w, infer_ask_wrong.k2 (fu + 4) ⟨77, setP h w, [v], 1⟩ = (infer_ask_typed (fu + 4) ⟨77, setP h w, [v], 1⟩).bind fun x2 => if x2 = true then ((infer_ask_attributes (fu + 4) ⟨77, setP h w, [v], 1⟩).bind fun x3 => if x3 = true then ((infer_ask_told (fu + 4) ⟨77, setP h w, [v], 1⟩).bind fun x4 => some x4) else some 14) else some 5 := fun h w => rfl
  rw [e, typed_77 (fu := fu + 2) h0, ob_some]
  by_cases h1 : v.fType = 1
  · rw [if_pos (by simp [h1]), attr_77, ob_some, if_pos rfl, told_77, ob_some, if_pos h1]
  · rw [if_neg (by simp [h1]), if_neg h1]
theorem shapes_78 (hd : v.fDims = [a, b, h, w]) (hf : 40 < fu) : infer_ask_shapes fu ⟨78, s, [v], 1⟩ = some (if h = 0 ∨ w = 0 then ([], 3) else ([[a, b, 1, 1]], 0)) := by
  have e : infer_ask_shapes fu ⟨78, s, [v], 1⟩ = (infer_ask_normal fu ⟨78, s, [v], 1⟩).bind fun x3 => some (x3.1, x3.2) := rfl
  have e2 : infer_ask_normal fu ⟨78, s, [v], 1⟩ = if (v.fDims.length : Int) < 3 then ((infer_misfit fu).bind fun x5 => some (x5.1, x5.2)) else chk (0 ≤ 2 ∧ 2 ≤ (v.fDims.length : Int)) <| (slices_Contains_int fu (subN v.fDims (2 : Int).toNat v.fDims.length) 0).bind fun x6 => if x6 = true then ((infer_misfit fu).bind fun x7 => some (x7.1, x7.2)) else infer_ask_normal.k1 fu v.fDims := rfl
  have e3 : subN v.fDims (2 : Int).toNat v.fDims.length = [h, w] := by rw [hd]; rfl
  rw [e, e2, e3, hd, if_neg (by simp), chk_pos (by simp), Contains_spec (by simp [Short]) (by simp; omega), ob_some]
  have e4 : infer_ask_normal.k1 fu [a, b, h, w] = some ([[a, b, 1, 1]], 0) := by
    unfold infer_ask_normal.k1 slices_Repeat_int
    rw [chk_pos ⟨rfl, rfl⟩, ob_some, chk_pos (by simp), chk_pos ⟨by show 0 < 2; decide, by show 2 ≤ 4; decide⟩]
    rfl
  rw [e4]
  by_cases h1 : h = 0 ∨ w = 0
  · rw [if_pos (by rcases h1 with h1 | h1 <;> simp [h1]), if_pos h1]; rfl
  · rw [if_neg h1, if_neg (by simp; omega)]; rfl
theorem ranged_spec {m : Int} {l : List Int} (hl : l.length ≤ 100) (hf : 100 < fu) : infer_ranged fu m l = some (!(l.any fun y => decide (y < m ∨ 4096 < y))) := by
  unfold infer_ranged
  rw [ContainsFunc_spec (q := fun y => decide (y < m ∨ 4096 < y)) (fun x => by
    unfold infer_ranged_1
    by_cases hx : x < m
    · rw [if_pos hx]; simp [hx]
    · rw [if_neg hx]; simp [hx]) (by unfold Short; omega) (by omega)]
  rfl
theorem window_spec (h0 : 0 ≤ h) (h1 : h ≤ 4096) (hf : 100 < fu) : infer_Window fu h h 1 1 0 0 0 false = some (if h = 0 then (0, 0, 1) else (1, 0, 0)) := by
  unfold infer_Window jn
  rw [ranged_spec (by simp) hf, ob_some, ranged_spec (by simp) hf, ob_some]
  rw [if_pos (by simp; omega)]
  by_cases hz : h = 0
  · rw [if_neg (by simp [hz]), if_pos hz]
  · rw [if_pos (by simp; omega), if_neg hz]
    unfold infer_Window.k1 jn
    rw [if_neg (by decide), if_neg (by decide), if_neg (by decide)]
    unfold infer_Window.k2
    have e : wk .i64 ((wk .i64 ((wk .i64 (h + 0)) + 0)) - (wk .i64 ((wk .i64 ((wk .i64 (h - 1)) * 1)) + 1))) = 0 := by
      rw [wk_eq (x := h + 0) (by omega) (by omega), wk_eq (x := h - 1) (by omega) (by omega), wk_eq (x := h + 0 + 0) (by omega) (by omega), wk_eq (x := (h - 1) * 1) (by omega) (by omega), wk_eq (x := (h - 1) * 1 + 1) (by omega) (by omega), show h + 0 + 0 - ((h - 1) * 1 + 1) = 0 by omega]
      rfl
    rw [e, if_neg (by decide), chk_pos (by decide), if_neg (by decide)]
    rfl
theorem windows_77 (hd : v.fDims = [a, b, h, w]) (h0 : 0 ≤ h) (h1 : h ≤ 4096) (w0 : 0 ≤ w) (w1 : w ≤ 4096) (hf : 200 < fu) : infer_ask_windows (fu + 4) ⟨77, setP h w, [v], 1⟩ [h, w] = some (if h = 0 ∨ w = 0 then ([], false) else ([1, 1], true)) := by
  have e : infer_ask_windows (fu + 4) ⟨77, setP h w, [v], 1⟩ [h, w] = infer_ask_windows.W2 (fu + 4) ⟨77, setP h w, [v], 1⟩ [h, w] [] 0 := rfl
  rw [e]
  unfold infer_ask_windows.W2
  rw [cloop_succ]
  show infer_ask_windows.L2 (fu + 4) ⟨77, setP h w, [v], 1⟩ [h, w] _ [] 0 = _
  rw [infer_ask_windows.L2, if_pos (by decide)]
  show (some v.fDims).bind _ = _
  rw [ob_some, hd]
  show (infer_Window (fu + 4) h h 1 1 0 0 0 false).bind _ = _
  rw [window_spec h0 h1 (by omega), ob_some]
  by_cases hz : h = 0
  · rw [if_pos hz, if_neg (by decide), if_pos (show h = 0 ∨ w = 0 from .inl hz)]
  rw [if_neg hz, if_pos rfl, chk_pos (by simp), cloop_succ]
  show infer_ask_windows.L2 (fu + 4) ⟨77, setP h w, [v], 1⟩ [h, w] _ [1] 1 = _
  rw [infer_ask_windows.L2, if_pos (by decide)]
  show (some v.fDims).bind _ = _
  rw [ob_some, hd]
  show (infer_Window (fu + 4) w w 1 1 0 0 0 false).bind _ = _
  rw [window_spec w0 w1 (by omega), ob_some]
  by_cases hy : w = 0
  · rw [if_pos hy, if_neg (by decide), if_pos (show h = 0 ∨ w = 0 from .inr hy)]
  rw [if_neg hy, if_pos rfl, chk_pos (by simp), cloop_succ]
  show infer_ask_windows.L2 (fu + 4) ⟨77, setP h w, [v], 1⟩ [h, w] _ [1, 1] 2 = _
  rw [infer_ask_windows.L2, if_neg (by decide), if_neg (show ¬ (h = 0 ∨ w = 0) by omega)]
theorem shapes_77 (hd : v.fDims = [a, b, h, w]) (h0 : 0 ≤ h) (h1 : h ≤ 4096) (w0 : 0 ≤ w) (w1 : w ≤ 4096) (hf : 200 < fu) : infer_ask_shapes (fu + 4) ⟨77, setP h w, [v], 1⟩ = some (if h = 0 ∨ w = 0 then ([], 3) else ([[a, b, 1, 1]], 0)) := by
  have e : infer_ask_shapes (fu + 4) ⟨77, setP h w, [v], 1⟩ = ((if (v.fDims.length : Int) = 4 then ((infer_ask_windows (fu + 4) ⟨77, setP h w, [v], 1⟩ [h, w]).bind fun x12 => if x12.2 = true then ((at? v.fDims 0).bind fun x13 => (at? v.fDims 1).bind fun x14 => (at? x12.1 0).bind fun x15 => (at? x12.1 1).bind fun x16 => (infer_one (fu + 4) ([x13, x14, x15, x16])).bind fun x17 => some (x17.1, x17.2)) else (infer_misfit (fu + 4)).bind fun x18 => some (x18.1, x18.2)) else (infer_misfit (fu + 4)).bind fun x19 => some (x19.1, x19.2))).bind fun x5 => some (x5.1, x5.2) := rfl
  rw [e, windows_77 hd h0 h1 w0 w1 hf, ob_some, hd, if_pos (by simp)]
  by_cases hz : h = 0 ∨ w = 0
  · rw [if_pos hz, if_pos hz, if_neg (by decide)]; rfl
  · rw [if_neg hz, if_neg hz, if_pos rfl]; rfl
theorem good_out (hg : Good [a, b, h, w]) (hz : ¬ (h = 0 ∨ w = 0)) : Good [a, b, 1, 1] := by
  obtain ⟨_, h1, h2⟩ := hg
  have ha := h1 a (by simp)
  have hb := h1 b (by simp)
  have hh := h1 h (by simp)
  have hw := h1 w (by simp)
  refine ⟨by simp, fun z hz => ?_, ?_⟩
  · simp at hz; rcases hz with rfl | rfl | rfl <;> omega
  · simp only [prod, Int.mul_one] at h2 ⊢
    have e1 : 1 ≤ h * w := Int.mul_pos (by omega) (by omega)
    have e2 : b * 1 ≤ b * (h * w) := Int.mul_le_mul_of_nonneg_left e1 hb.1
    have e3 : a * (b * 1) ≤ a * (b * (h * w)) := Int.mul_le_mul_of_nonneg_left e2 ha.1
    simp only [Int.mul_one] at e3
    omega
def poolV (v : T_Val) (a b h w : Int) : List T_Val × Int := if v.fType = 1 then (if h = 0 ∨ w = 0 then ([], 3) else ([outV 1 [a, b, 1, 1]], 0)) else ([], 5)
theorem Node_78 (h0 : Known v.fType) (hd : v.fDims = [a, b, h, w]) (hg : Good [a, b, h, w]) (hf : 300 < fu) : infer_Node (fu + 4) 78 s [v] 1 = some (poolV v a b h w) := by
  have hv0 : v.fType ≠ 0 := by rcases h0 with e | e | e <;> rw [e] <;> decide
  have e : infer_Node (fu + 4) 78 s [v] 1 = (infer_ask_complete (fu + 4) ⟨78, s, [v], 1⟩).bind fun x5 => if x5 = true then ((infer_ask_wrong (fu + 4) ⟨78, s, [v], 1⟩).bind fun x6 => if x6 = 0 then
    ((infer_ask_shapes (fu + 4) ⟨78, s, [v], 1⟩).bind fun x7 => if x7.2 = 0 then (infer_Node.W1 (fu + 4) s [v] 1 x7 ([] : List T_Val) 0) else some ([], x7.2)) else some ([], x6)) else some ([], 1) := rfl
  rw [e, complete_78 (fu := fu + 2) hv0, ob_some, if_pos rfl, wrong_78 h0 (by rw [hd]; exact hg) (by omega), ob_some]
  unfold poolV
  by_cases h1 : ¬ v.fType = 1
  · rw [if_neg h1, if_neg h1, if_neg (by decide)]
  have h1 := Decidable.not_not.1 h1
  rw [if_pos h1, if_pos h1, if_pos rfl, shapes_78 hd (by omega), ob_some]
  by_cases hz : h = 0 ∨ w = 0
  · rw [if_pos hz, if_pos hz, if_neg (by decide)]
  · have hgo := good_out hg hz
    rw [if_neg hz, if_neg hz, if_pos rfl]
    unfold infer_Node.W1
    rw [cloop_succ]
    show infer_Node.L1 (fu + 4) s [v] 1 ([[a, b, 1, 1]], 0) _ [] 0 = _
    rw [infer_Node.L1, if_pos (by simp)]
    show (some ([a, b, 1, 1] : List Int)).bind _ = _
    have ho : infer_ask_out (fu + 4) (T_infer_ask.mk 78 s [v] 1) = some v.fType := rfl
    rw [ob_some, Size_spec (by simp [Short]) (by simp; omega), ob_some, sizeV, if_pos hgo, if_pos rfl, ho, ob_some, Clone_spec (by simp), ob_some, chk_pos (by simp), cloop_succ, h1]
    rfl
theorem Node_77 (h0 : Known v.fType) (hd : v.fDims = [a, b, h, w]) (hg : Good [a, b, h, w]) (hf : 300 < fu) : infer_Node (fu + 4) 77 (setP h w) [v] 1 = some (poolV v a b h w) := by
  have hv0 : v.fType ≠ 0 := by rcases h0 with e | e | e <;> rw [e] <;> decide
  have hh := hg.2.1 h (by simp)
  have hw := hg.2.1 w (by simp)
  have e : infer_Node (fu + 4) 77 (setP h w) [v] 1 = (infer_ask_complete (fu + 4) ⟨77, setP h w, [v], 1⟩).bind fun x5 => if x5 = true then ((infer_ask_wrong (fu + 4) ⟨77, setP h w, [v], 1⟩).bind fun x6 => if x6 = 0 then
    ((infer_ask_shapes (fu + 4) ⟨77, setP h w, [v], 1⟩).bind fun x7 => if x7.2 = 0 then (infer_Node.W2 (fu + 4) (setP h w) [v] 1 x7 ([] : List T_Val) 0) else some ([], x7.2)) else some ([], x6)) else some ([], 1) := rfl
  rw [e, complete_77 (fu := fu + 2) hv0, ob_some, if_pos rfl, wrong_77 h0 (by rw [hd]; exact hg) (by omega), ob_some]
  unfold poolV
  by_cases h1 : ¬ v.fType = 1
  · rw [if_neg h1, if_neg h1, if_neg (by decide)]
  have h1 := Decidable.not_not.1 h1
  rw [if_pos h1, if_pos h1, if_pos rfl, shapes_77 hd hh.1 hh.2 hw.1 hw.2 (by omega), ob_some]
  by_cases hz : h = 0 ∨ w = 0
  · rw [if_pos hz, if_pos hz, if_neg (by decide)]
  · have hgo := good_out hg hz
    rw [if_neg hz, if_neg hz, if_pos rfl]
    unfold infer_Node.W2
    rw [cloop_succ]
    show infer_Node.L2 (fu + 4) (setP h w) [v] 1 ([[a, b, 1, 1]], 0) _ [] 0 = _
    rw [infer_Node.L2, if_pos (by simp)]
    show (some ([a, b, 1, 1] : List Int)).bind _ = _
    have ho : infer_ask_out (fu + 4) (T_infer_ask.mk 77 (setP h w) [v] 1) = some v.fType := rfl
    rw [ob_some, Size_spec (by simp [Short]) (by simp; omega), ob_some, sizeV, if_pos hgo, if_pos rfl, ho, ob_some, Clone_spec (by simp), ob_some, chk_pos (by simp), cloop_succ, h1]
    rfl
end
end Go.Av
set_option linter.unusedVariables false
namespace Go.Av
theorem fold32_spec {fu : Nat} {p : Int → Int → Option Int} {f : Int → Int → Int} {Q : Int → Prop} (hp : ∀ a b, Q a → Q b → p a b = some (f a b) ∧ Q (f a b)) {l : List Int} {x : Int} (hx : Q x) (hl : ∀ y ∈ l, Q y) (hn : l.length ≤ 4096) (hf : 5000 < fu) :
    reduce_fold_uint32 fu l x p = some (l.foldl f x) := by
  have hq : ∀ k, Q ((l.take k).foldl f x) := fun k => by
    have : ∀ (m : List Int) (y : Int), Q y → (∀ z ∈ m, Q z) → Q (m.foldl f y) := by
      intro m
      induction m with
      | nil => intro y hy _; exact hy
      | cons z m ih => intro y hy hm; exact ih _ (hp y z hy (hm z (by simp))).2 fun w hw => hm w (by simp [hw])
    exact this _ _ hx fun z hz => hl z (List.mem_of_mem_take hz)
  unfold reduce_fold_uint32 reduce_fold_uint32.W1
  refine cloop_up (body := fun next s => reduce_fold_uint32.L1 fu p l (fun x5 x6 => next (x5, x6)) s.1 s.2) l.length (fun k : Nat => (l.take k).foldl f x) _ ?_ ?_ (by omega)
  · intro k hk next hn2
    show reduce_fold_uint32.L1 fu p l _ ((l.take k).foldl f x) (k : Int) = _
    have e : l.take (k + 1) = l.take k ++ [l[k]] := by rw [List.take_add_one, List.getElem?_eq_getElem hk]; rfl
    rw [e, List.foldl_append] at hn2
    unfold reduce_fold_uint32.L1
    rw [if_pos (by omega), at?_get hk, ob_some, (hp _ _ (hq k) (hl _ (List.getElem_mem hk))).1, ob_some, wk_succ (by omega)]
    exact hn2
  · intro next
    show reduce_fold_uint32.L1 fu p l _ ((l.take l.length).foldl f x) (l.length : Int) = _
    unfold reduce_fold_uint32.L1
    rw [if_neg (by omega), List.take_length]
def stepL (s : Int) (d : Nat) (x : Int) : List Int := (List.range d).map fun i : Nat => wk .i64 (x + wk .i64 ((i : Int) * s))
def seqS (s : Int) (n : Nat) : List Int := (List.range n).map fun i : Nat => wk .i64 ((i : Int) * s)
theorem stepL_length {s : Int} {d : Nat} {x : Int} : (stepL s d x).length = d := by simp [stepL]
theorem seqS_length {s : Int} {n : Nat} : (seqS s n).length = n := by simp [seqS]
theorem stepL_succ {s : Int} {d : Nat} {x : Int} : stepL s (d + 1) x = stepL s d x ++ [wk .i64 (x + wk .i64 ((d : Int) * s))] := by simp [stepL, List.range_succ]
theorem flatS_length {s : Int} {d : Nat} : ∀ l : List Int, (l.flatMap (stepL s d)).length = l.length * d
  | [] => by simp
  | x :: l => by rw [List.flatMap_cons, List.length_append, stepL_length, flatS_length l, List.length_cons, Nat.add_mul, Nat.one_mul, Nat.add_comm]
theorem p3_spec {fu : Nat} {nx : List Int → Int → Option (List Int)} {x2 : List Int} {j x55 x : Int} {d : Nat} {s : Int} {acc : List Int} (hs : at? x2 j = some s) (hl : (acc.length + d) * 8 ≤ 140737488355328) (hd : d < fu) :
    reduce_places.W3 fu nx x2 j (d : Int) x55 x acc 0 = nx (acc ++ stepL s d x) (wk .i64 (x55 + 1)) := by
  unfold reduce_places.W3
  rw [show ((acc, (0 : Int)) : List Int × Int) = ((fun k : Nat => acc ++ stepL s k x) 0, 0) by simp [stepL]]
  refine cloop_up d (fun k : Nat => acc ++ stepL s k x) _ ?_ ?_ hd
  · intro k hk next hn
    show reduce_places.L3 fu nx x2 j (d : Int) x55 x _ (acc ++ stepL s k x) (k : Int) = _
    rw [reduce_places.L3, if_pos (by omega), hs, ob_some, chk_pos (by rw [List.length_append, stepL_length]; omega), wk_succ (by omega), List.append_assoc, ← stepL_succ]
    exact hn
  · intro next
    show reduce_places.L3 fu nx x2 j (d : Int) x55 x _ (acc ++ stepL s d x) (d : Int) = _
    rw [reduce_places.L3, if_neg (by omega)]
theorem p2_spec {fu : Nat} {nx : List Int → Int → Option (List Int)} {x2 : List Int} {j : Int} {d : Nat} {s : Int} {acc out : List Int} (hs : at? x2 j = some s) (hl : (acc.length + out.length * d) * 8 ≤ 140737488355328) (hd : d < fu) (ho : out.length < fu) (ho2 : out.length ≤ 140737488355328) :
    reduce_places.W2 fu nx x2 out j (d : Int) acc 0 = nx (acc ++ out.flatMap (stepL s d)) (wk .i64 (j + 1)) := by
  unfold reduce_places.W2
  rw [show ((acc, (0 : Int)) : List Int × Int) = ((fun k : Nat => acc ++ (out.take k).flatMap (stepL s d)) 0, 0) by simp]
  refine cloop_up out.length (fun k : Nat => acc ++ (out.take k).flatMap (stepL s d)) _ ?_ ?_ ho
  · intro k hk next hn
    show reduce_places.L2 fu nx x2 out j (d : Int) _ (acc ++ (out.take k).flatMap (stepL s d)) (k : Int) = _
    have hle : (k + 1) * d ≤ out.length * d := Nat.mul_le_mul_right d hk
    rw [Nat.add_mul, Nat.one_mul] at hle
    rw [reduce_places.L2, if_pos (by omega), at?_get hk, ob_some, p3_spec hs (by rw [List.length_append, flatS_length, List.length_take, Nat.min_eq_left (by omega)]; omega) hd, wk_succ (by omega)]
    rw [List.take_succ_eq_append_getElem hk, List.flatMap_append, ← List.append_assoc] at hn
    simpa using hn
  · intro next
    show reduce_places.L2 fu nx x2 out j (d : Int) _ (acc ++ (out.take out.length).flatMap (stepL s d)) (out.length : Int) = _
    rw [reduce_places.L2, if_neg (by omega), List.take_length]
theorem places_2 {fu m n : Nat} {s0 s1 : Int} (hm : m ≤ 4096) (hn : n ≤ 4096) (hf : 5000 < fu) : reduce_places fu [(m : Int), (n : Int)] [s0, s1] = some ((stepL s0 m 0).flatMap (stepL s1 n)) := by
  obtain ⟨f, rfl⟩ : ∃ f, fu = f + 3 := ⟨fu - 3, by omega⟩
  have hmn : m * n ≤ 4096 * 4096 := Nat.mul_le_mul hm hn
  unfold reduce_places reduce_places.W1
  rw [cloop_succ]
  show reduce_places.L1 (f + 3) [(m : Int), (n : Int)] [s0, s1] _ [0] 0 = _
  rw [reduce_places.L1, if_pos (by simp)]
  show (some (m : Int)).bind _ = _
  rw [ob_some, p2_spec (s := s0) rfl (by simp <;> omega) (by omega) (by simp <;> omega) (by simp), cloop_succ]
  have e : ([] : List Int) ++ [0].flatMap (stepL s0 m) = stepL s0 m 0 := by simp
  rw [e]
  show reduce_places.L1 (f + 3) [(m : Int), (n : Int)] [s0, s1] _ (stepL s0 m 0) 1 = _
  rw [reduce_places.L1, if_pos (by simp)]
  show (some (n : Int)).bind _ = _
  rw [ob_some, p2_spec (s := s1) rfl (by rw [stepL_length]; simp; omega) (by omega) (by rw [stepL_length]; omega) (by rw [stepL_length]; omega), cloop_succ]
  show reduce_places.L1 (f + 3) [(m : Int), (n : Int)] [s0, s1] _ ([] ++ (stepL s0 m 0).flatMap (stepL s1 n)) 2 = _
  rw [reduce_places.L1, if_neg (by simp)]
  rfl
theorem step_flat {n : Nat} {s : Int} : ∀ m : Nat, (stepL (wk .i64 ((n : Int) * s)) m 0).flatMap (stepL s n) = seqS s (m * n)
  | 0 => by simp [stepL, seqS]
  | m + 1 => by
    rw [stepL_succ, List.flatMap_append, step_flat m, Nat.add_mul, Nat.one_mul]
    unfold seqS
    rw [List.range_add, List.map_append]
    congr 1
    rw [List.flatMap_cons, List.flatMap_nil, List.append_nil, List.map_map]
    unfold stepL
    refine List.map_congr_left fun j hj => ?_
    show wk .i64 (wk .i64 (0 + wk .i64 ((m : Int) * wk .i64 ((n : Int) * s))) + wk .i64 ((j : Int) * s)) = wk .i64 (((m * n + j : Nat) : Int) * s)
    rw [wk_mul_r, Int.zero_add, wk_add_l, wk_add_l, wk_add_r]
    congr 1
    rw [Int.natCast_add, Int.natCast_mul, Int.add_mul, Int.mul_assoc]
theorem at32_spec {fu : Nat} {l : List Int} {row : List Int} (hr : ∀ k ∈ row, 0 ≤ k ∧ k < l.length) (hn : row.length ≤ 100000) (hf : row.length < fu) : reduce_at_uint32 fu l row = some (row.map fun k => l.getD k.toNat 0) := by
  unfold reduce_at_uint32 reduce_at_uint32.W1
  rw [show (([], (0 : Int)) : List Int × Int) = ((fun k : Nat => (row.take k).map fun k => l.getD k.toNat 0) 0, 0) by simp]
  refine cloop_up row.length (fun k : Nat => (row.take k).map fun k => l.getD k.toNat 0) _ ?_ ?_ hf
  · intro k hk next hn2
    show reduce_at_uint32.L1 fu l row _ ((row.take k).map fun k => l.getD k.toNat 0) (k : Int) = _
    obtain ⟨h0, h1⟩ := hr row[k] (List.getElem_mem hk)
    obtain ⟨j, hj⟩ := Int.eq_ofNat_of_zero_le h0
    have ha : at? l row[k] = some (l.getD row[k].toNat 0) := by
      rw [hj, at?_get (by omega), Int.toNat_natCast, List.getD_eq_getElem?_getD, List.getElem?_eq_getElem (by omega)]; rfl
    rw [reduce_at_uint32.L1, if_pos (by omega), at?_get hk, ob_some, ha, ob_some, chk_pos (by rw [List.length_map, List.length_take]; omega), wk_succ (by omega)]
    rw [List.take_succ_eq_append_getElem hk, List.map_append] at hn2
    exact hn2
  · intro next
    show reduce_at_uint32.L1 fu l row _ ((row.take row.length).map fun k => l.getD k.toNat 0) (row.length : Int) = _
    rw [reduce_at_uint32.L1, if_neg (by omega), List.take_length]
theorem Sum_spec {fu : Nat} {l : List Int} (hn : l.length ≤ 4096) (hf : 5000 < fu) : reduce_Sum fu l = some (l.foldl addV 0) := by
  unfold reduce_Sum
  rw [fold32_spec (f := addV) (Q := fun _ => True) (fun a b _ _ => ⟨Add_spec, trivial⟩) trivial (fun _ _ => trivial) hn hf]
  rfl
theorem mean_spec {fu : Nat} {l : List Int} (hn : l.length ≤ 4096) (hf : 5000 < fu) : reduce_mean fu l = some (meanV l (l.length : Int)) := by
  unfold reduce_mean
  rw [Sum_spec hn hf, ob_some, FromInt_spec, ob_some, Div_spec]
  rfl
theorem rows_loop {fu : Nat} {x8 : T_Tensor} {x10 : T_Tensor × Int} {steps : List Int} {g : Int → Int} (h1 : x8.fType = 1) (hI : x10.1.fI = []) (hn : steps.length ≤ 4096) (hf : 5000 < fu) :
    ∀ (fs pre : List Int), x10.1.fF.length = pre.length + fs.length → (∀ x ∈ fs, (∀ k ∈ rowL steps x, 0 ≤ k ∧ k < x8.fF.length) ∧ meanV ((rowL steps x).map fun k => x8.fF.getD k.toNat 0) (steps.length : Int) = g x) →
    lloop (fun y next (s : (List Int) × (List Int)) => reduce_Do.R1 fu x8 x10 (fun u0 u1 => next (u0, u1)) y.1 y.2 s.1 s.2) (fun (s : (List Int) × (List Int)) => reduce_Do.E1 fu x10 s.1 s.2) (rowsL steps pre.length fs) (pre ++ List.replicate fs.length 0, []) = reduce_Do.E1 fu x10 (pre ++ fs.map g) []
  | [], pre, hl, hg => by simp [rowsL, lloop]
  | x :: fs, pre, hl, hg => by
    obtain ⟨hr, hv⟩ := hg x (by simp)
    have hrl : (rowL steps x).length = steps.length := by simp [rowL]
    rw [rowsL, lloop, List.length_cons]
    show reduce_Do.R1 fu x8 x10 _ (pre.length : Int) (rowL steps x) (pre ++ List.replicate (fs.length + 1) 0) [] = _
    rw [reduce_Do.R1, chk_pos (by rw [hl]; simp), chk_pos (by rw [hI]), if_pos h1, at32_spec hr (by omega) (by omega), ob_some, mean_spec (by rw [List.length_map]; omega) hf, ob_some, List.length_map, hrl, hv, chk_pos (by simp; omega)]
    have e : (pre ++ List.replicate (fs.length + 1) (0 : Int)).set (pre.length : Int).toNat (g x) = (pre ++ [g x]) ++ List.replicate fs.length 0 := by
      rw [Int.toNat_natCast, List.set_append_right _ _ (Nat.le_refl _), Nat.sub_self, List.replicate_succ, List.set_cons_zero]; simp
    rw [e]
    have := rows_loop h1 hI hn hf fs (pre ++ [g x]) (by rw [hl]; simp; omega) (fun y hy => hg y (by simp [hy]))
    rw [List.length_append, List.length_singleton] at this
    rw [this]
    simp
end Go.Av
set_option linter.unusedVariables false
namespace Go.Av
theorem cloop_n {τ β : Type} {body : (τ → Option β) → τ → Option β} (N : Nat) (st : Nat → τ) (r : Option β) (h : ∀ k, k < N → ∀ next, next (st (k + 1)) = r → body next (st k) = r)
    (he : ∀ next, body next (st N) = r) {n : Nat} (hn : N < n) : cloop body n (st 0) = r := by
  have : ∀ m k, k ≤ N → N - k < m → cloop body m (st k) = r := by
    intro m
    induction m with
    | zero => intro k _ h; omega
    | succ m ih =>
      intro k hk hm
      by_cases hkN : k = N
      · subst hkN; exact he _
      · exact h k (by omega) _ (ih (k + 1) (by omega) (by omega))
  exact this n 0 (by omega) (by omega)
def seqN (n : Nat) : List Int := (List.range n).map fun i : Nat => (i : Int)
theorem seqN_length {n : Nat} : (seqN n).length = n := by simp [seqN]
theorem seqN_succ {n : Nat} : seqN (n + 1) = seqN n ++ [(n : Int)] := by simp [seqN, List.range_succ]
theorem seqN_get {n i : Nat} (h : i < n) : at? (seqN n) (i : Int) = some (i : Int) := by
  rw [at?_nat]; simp [seqN, h]
def runL (F : List Int) (b n : Nat) : List Int := (List.range n).map fun i => F.getD (b + i) 0
theorem runL_length {F : List Int} {b n : Nat} : (runL F b n).length = n := by simp [runL]
theorem runL_succ {F : List Int} {b n : Nat} : runL F b (n + 1) = runL F b n ++ [F.getD (b + n) 0] := by simp [runL, List.range_succ]
theorem runL_add {F : List Int} {b n m : Nat} : runL F b (n + m) = runL F b n ++ runL F (b + n) m := by
  unfold runL
  rw [List.range_add, List.map_append, List.map_map]
  congr 1
  refine List.map_congr_left fun i _ => ?_
  show F.getD (b + (n + i)) 0 = F.getD (b + n + i) 0
  rw [Nat.add_assoc]
def poolF (A B H W : Nat) (F : List Int) : List Int := (List.range (A * B)).map fun k => meanV (runL F (k * (H * W)) (H * W)) ((H * W : Nat) : Int)
section
variable {fu A B H W : Nat} {F I : List Int} {Bo : List Bool}
theorem strides_4 {a b h w : Int} (hg : Good [a, b, h, w]) (hf : 20 < fu) : shape_Strides fu [a, b, h, w] = some ([wk .i64 (b * (h * (w * 1))), wk .i64 (h * (w * 1)), wk .i64 (w * 1), 1], 0) := by
  unfold shape_Strides
  rw [Size_spec (by simp [Short]) (by simp; omega), ob_some, sizeV, if_pos hg, if_pos rfl, strides_spec (by simp) (by simp; omega), ob_some]
  rfl
set_option maxRecDepth 100000 in
theorem work_78 {a b h w : Int} {s : T_Setting} {o : T_Tensor} {k : Int} : reduce_work_over (fu + 10) ⟨78, s, [⟨k, [a, b, h, w], F, I, Bo⟩], ⟨k, [a, b, h, w], F, I, Bo⟩, o⟩ = some [false, false, true, true] := by kernel_rfl
set_option maxRecDepth 100000 in
theorem rows_4 {a b h w s0 s1 s2 s3 : Int} {x10 : T_Tensor × Int} {k : Int} : reduce_Do.W1 (fu + 10) ⟨k, [a, b, h, w], F, I, Bo⟩ x10 [false, false, true, true] ([s0, s1, s2, s3], 0) [] [] [] [] 0 = reduce_Do.k2 (fu + 10) ⟨k, [a, b, h, w], F, I, Bo⟩ x10 [h, w] [a, b] [s2, s3] [s0, s1] := by kernel_rfl
theorem place_at {k i : Nat} (h : k * (H * W) + i ≤ 4096) : wk .i64 (wk .i64 ((k : Int) * wk .i64 ((H : Int) * ((W : Int) * 1))) + wk .i64 ((i : Int) * 1)) = ((k * (H * W) + i : Nat) : Int) := by
  rw [wk_mul_r, wk_add_l, wk_add_r]
  have e : (k : Int) * ((H : Int) * ((W : Int) * 1)) + (i : Int) * 1 = ((k * (H * W) + i : Nat) : Int) := by
    rw [Int.mul_one, Int.mul_one, Int.natCast_add, Int.natCast_mul, Int.natCast_mul]
  rw [e, wk_eq (by omega) (by omega)]
theorem in_channel {k i : Nat} (hk : k < A * B) (hi : i < H * W) : k * (H * W) + i < A * B * (H * W) := by
  have := Nat.mul_le_mul_right (H * W) hk
  rw [Nat.succ_mul] at this
  omega
theorem row_at {k : Nat} (hk : k < A * B) (hN : A * B * (H * W) ≤ 4096) : rowL (seqS 1 (H * W)) (wk .i64 ((k : Int) * wk .i64 ((H : Int) * ((W : Int) * 1)))) = (List.range (H * W)).map fun i => ((k * (H * W) + i : Nat) : Int) := by
  unfold rowL seqS
  rw [List.map_map]
  refine List.map_congr_left fun i hi => ?_
  have := in_channel (A := A) (B := B) (H := H) (W := W) hk (List.mem_range.1 hi)
  exact place_at (by omega)
theorem k2_spec (hA : A ≤ 4096) (hB : B ≤ 4096) (hH : H ≤ 4096) (hW : W ≤ 4096) (hN : A * B * (H * W) ≤ 4096) (hF : F.length = A * B * (H * W)) (hf : 20000000 < fu) :
    reduce_Do.k2 fu ⟨1, [(A : Int), (B : Int), (H : Int), (W : Int)], F, I, Bo⟩ (⟨1, [(A : Int), (B : Int), 1, 1], List.replicate (A * B) 0, [], []⟩, 0) [(H : Int), (W : Int)] [(A : Int), (B : Int)] [wk .i64 ((W : Int) * 1), 1] [wk .i64 ((B : Int) * ((H : Int) * ((W : Int) * 1))), wk .i64 ((H : Int) * ((W : Int) * 1))] =
      some (⟨1, [(A : Int), (B : Int), 1, 1], poolF A B H W F, [], []⟩, 0) := by
  have hHW : H * W ≤ 4096 * 4096 := Nat.mul_le_mul hH hW
  have hAB : A * B ≤ 4096 * 4096 := Nat.mul_le_mul hA hB
  unfold reduce_Do.k2 reduce_rowsIt
  rw [places_2 hH hW (by omega), step_flat, ob_some, places_2 hA hB (by omega), ← wk_mul_r (B : Int), step_flat, ob_some, seqS_length, seqS_length, chk_pos ⟨by omega, by omega, by omega, by omega⟩, ob_some]
  by_cases h0 : A * B = 0
  · have e : seqS (wk .i64 ((H : Int) * ((W : Int) * 1))) (A * B) = [] := by rw [h0]; rfl
    have e2 : poolF A B H W F = [] := by unfold poolF; rw [h0]; rfl
    rw [e, e2, h0]
    rfl
  · have hs : H * W ≤ 4096 := by
      have := Nat.mul_le_mul_right (H * W) (show 1 ≤ A * B by omega)
      omega
    have hg : ∀ x ∈ seqS (wk .i64 ((H : Int) * ((W : Int) * 1))) (A * B), (∀ k ∈ rowL (seqS 1 (H * W)) x, 0 ≤ k ∧ k < F.length) ∧ meanV ((rowL (seqS 1 (H * W)) x).map fun k => F.getD k.toNat 0) ((seqS 1 (H * W)).length : Int) = (fun x => meanV ((rowL (seqS 1 (H * W)) x).map fun k => F.getD k.toNat 0) ((H * W : Nat) : Int)) x := fun x hx => by
      obtain ⟨k, hk, rfl⟩ := List.mem_map.1 hx
      refine ⟨fun j hj => ?_, by rw [seqS_length]⟩
      rw [row_at (List.mem_range.1 hk) hN] at hj
      obtain ⟨i, hi, rfl⟩ := List.mem_map.1 hj
      have := in_channel (A := A) (B := B) (H := H) (W := W) (List.mem_range.1 hk) (List.mem_range.1 hi)
      omega
    have := rows_loop (fu := fu) (x8 := ⟨1, [(A : Int), (B : Int), (H : Int), (W : Int)], F, I, Bo⟩) (x10 := (⟨1, [(A : Int), (B : Int), 1, 1], List.replicate (A * B) 0, [], []⟩, 0)) (steps := seqS 1 (H * W)) rfl rfl (by rw [seqS_length]; exact hs) (by omega) (seqS (wk .i64 ((H : Int) * ((W : Int) * 1))) (A * B)) [] (by simp [seqS_length]) hg
    rw [seqS_length] at this
    refine Eq.trans this ?_
    have e : (seqS (wk .i64 ((H : Int) * ((W : Int) * 1))) (A * B)).map (fun x => meanV ((rowL (seqS 1 (H * W)) x).map fun k => F.getD k.toNat 0) ((H * W : Nat) : Int)) = poolF A B H W F := by
      unfold poolF seqS
      rw [List.map_map]
      refine List.map_congr_left fun k hk => ?_
      show meanV ((rowL (seqS 1 (H * W)) (wk .i64 ((k : Int) * wk .i64 ((H : Int) * ((W : Int) * 1))))).map fun k => F.getD k.toNat 0) ((H * W : Nat) : Int) = _
      rw [row_at (List.mem_range.1 hk) hN, List.map_map]
      rfl
    rw [List.nil_append, e]
    unfold reduce_Do.E1
    rw [chk_pos (by simp [poolF]), chk_pos rfl]
theorem line_0 {a b h w : Int} {k : Int} {ins : List T_Tensor} {o : T_Tensor} : reduce_work_line fu ⟨77, setP h w, ins, ⟨k, [a, b, h, w], F, I, Bo⟩, o⟩ 0 0 = (infer_Window fu h h 1 1 0 0 0 false).bind fun x19 => reduce_work_line.W2 fu 0 h h 1 1 x19 [] 0 := rfl
theorem line_1 {a b h w : Int} {k : Int} {ins : List T_Tensor} {o : T_Tensor} : reduce_work_line fu ⟨77, setP h w, ins, ⟨k, [a, b, h, w], F, I, Bo⟩, o⟩ 1 0 = (infer_Window fu w w 1 1 0 0 0 false).bind fun x19 => reduce_work_line.W2 fu 0 w w 1 1 x19 [] 0 := rfl
theorem line_spec {n : Nat} (hn : n ≤ 4096) (h0 : n ≠ 0) (hf : 5000 < fu) : ((infer_Window fu (n : Int) (n : Int) 1 1 0 0 0 false).bind fun x19 => reduce_work_line.W2 fu 0 (n : Int) (n : Int) 1 1 x19 [] 0) = some (seqN n) := by
  rw [window_spec (by omega) (by omega) (by omega), if_neg (by omega), ob_some]
  unfold reduce_work_line.W2
  refine cloop_up n (fun k : Nat => seqN k) _ ?_ ?_ (by omega)
  · intro k hk next hn2
    show reduce_work_line.L2 fu 0 (n : Int) (n : Int) 1 1 (1, 0, 0) _ (seqN k) (k : Int) = _
    have e : wk .i64 ((wk .i64 ((wk .i64 (0 * 1)) + (wk .i64 ((k : Int) * 1)))) - 0) = (k : Int) := by
      rw [Int.mul_one, Int.mul_one, wk_eq (x := 0) (by omega) (by omega), wk_eq (x := (k : Int)) (by omega) (by omega), Int.zero_add, wk_eq (x := (k : Int)) (by omega) (by omega), Int.sub_zero, wk_eq (by omega) (by omega)]
    rw [reduce_work_line.L2, if_pos (by omega), e, if_pos (by omega), if_pos (by omega), seqN_length, chk_pos (by omega), wk_succ (by omega), ← seqN_succ]
    exact hn2
  · intro next
    show reduce_work_line.L2 fu 0 (n : Int) (n : Int) 1 1 (1, 0, 0) _ (seqN n) (n : Int) = _
    rw [reduce_work_line.L2, if_neg (by omega)]
theorem w5_spec {nx : List Int → Int → Option (T_Tensor × Int)} {x70 : T_Tensor} {x73 : List Int × Int} {c1 c2 c3 c4 c5 c6 : Int} {acc : List Int} {b : Nat} (h2 : at? x73.1 2 = some c6)
    (he : wk .i64 ((wk .i64 ((wk .i64 (c1 * c2)) + (wk .i64 (c3 * c4)))) + (wk .i64 (c5 * c6))) = (b : Int)) (hb : b + W ≤ x70.fF.length) (hl : x70.fF.length ≤ 4096) (ha : acc.length ≤ 4096) (hf : 5000 < fu) {j : Int} :
    reduce_Do.W5 fu nx x70 x73 c1 c2 c3 c4 j c5 (seqN W) acc 0 = nx (acc ++ runL x70.fF b W) (wk .i64 (j + 1)) := by
  unfold reduce_Do.W5
  rw [show ((acc, (0 : Int)) : List Int × Int) = ((fun k : Nat => acc ++ runL x70.fF b k) 0, 0) by simp [runL]]
  refine cloop_up W (fun k : Nat => acc ++ runL x70.fF b k) _ ?_ ?_ (by omega)
  · intro k hk next hn
    show reduce_Do.L5 fu nx x70 x73 c1 c2 c3 c4 j c5 (seqN W) _ (acc ++ runL x70.fF b k) (k : Int) = _
    have hx : at? x70.fF ((b + k : Nat) : Int) = some (x70.fF.getD (b + k) 0) := by
      rw [at?_get (by omega), List.getD_eq_getElem?_getD, List.getElem?_eq_getElem (by omega)]; rfl
    rw [reduce_Do.L5, if_pos (by rw [seqN_length]; omega), seqN_get hk, ob_some, h2, ob_some, he, wk_eq (x := (b : Int) + (k : Int)) (by omega) (by omega), ← Int.natCast_add, hx, ob_some, chk_pos (by rw [List.length_append, runL_length]; omega), wk_succ (by omega), List.append_assoc, ← runL_succ]
    exact hn
  · intro next
    show reduce_Do.L5 fu nx x70 x73 c1 c2 c3 c4 j c5 (seqN W) _ (acc ++ runL x70.fF b W) (W : Int) = _
    rw [reduce_Do.L5, if_neg (by rw [seqN_length]; omega)]
end
end Go.Av
set_option linter.unusedVariables false
namespace Go.Av
section
variable {fu A B H W : Nat} {F I : List Int} {Bo : List Bool}
theorem w4_spec {nx3 : Bool → List Int → Int → Option (T_Tensor × Int)} {x67 : List T_Tensor} {x72 : T_Tensor × Int} {ty a b s0 s1 s2 : Int} {x135 : List Int} {x136 c1 c3 : Int} {k : Nat} (hW : W ≤ 4096) (hW0 : W ≠ 0) (hH : H ≤ 4096)
    (he : ∀ p : Nat, p < H → wk .i64 ((wk .i64 ((wk .i64 (c1 * s0)) + (wk .i64 (c3 * s1)))) + (wk .i64 ((p : Int) * s2))) = ((k + p * W : Nat) : Int)) (hb : k + H * W ≤ F.length) (hl : F.length ≤ 4096) (hf : 5000 < fu) {i2 : List Int × Int} (hi : at? i2.1 3 = some 0) :
    reduce_Do.W4 fu nx3 (setP (H : Int) (W : Int)) x67 ⟨ty, [a, b, (H : Int), (W : Int)], F, I, Bo⟩ x72 ([s0, s1, s2, 1], 0) false x135 x136 i2 c1 s0 c3 s1 (seqN H) [] 0 =
      reduce_Do.k4 fu nx3 (setP (H : Int) (W : Int)) x72 false x135 x136 (runL F k (H * W)) (seqN H) := by
  unfold reduce_Do.W4
  rw [show (([], (0 : Int)) : List Int × Int) = ((fun p : Nat => runL F k (p * W)) 0, 0) by simp [runL]]
  refine cloop_up H (fun p : Nat => runL F k (p * W)) _ ?_ ?_ (by omega)
  · intro p hp next hn
    show reduce_Do.L4 fu nx3 (setP (H : Int) (W : Int)) x67 ⟨ty, [a, b, (H : Int), (W : Int)], F, I, Bo⟩ x72 ([s0, s1, s2, 1], 0) false x135 x136 i2 c1 s0 c3 s1 (seqN H) _ (runL F k (p * W)) (p : Int) = _
    rw [reduce_Do.L4, if_pos (by rw [seqN_length]; omega), seqN_get hp, ob_some, hi, ob_some]
    show (reduce_work_line fu ⟨77, setP (H : Int) (W : Int), x67, ⟨ty, [a, b, (H : Int), (W : Int)], F, I, Bo⟩, _⟩ 1 0).bind _ = _
    rw [line_1, line_spec hW hW0 hf, ob_some]
    have h1 := Nat.mul_le_mul_right W hp
    rw [Nat.succ_mul] at h1
    rw [w5_spec (b := k + p * W) (c6 := s2) rfl (he p hp) (by show k + p * W + W ≤ F.length; omega) hl (by rw [runL_length]; omega) hf, wk_succ (by omega), ← runL_add]
    rw [Nat.succ_mul] at hn
    exact hn
  · intro next
    show reduce_Do.L4 fu nx3 (setP (H : Int) (W : Int)) x67 ⟨ty, [a, b, (H : Int), (W : Int)], F, I, Bo⟩ x72 ([s0, s1, s2, 1], 0) false x135 x136 i2 c1 s0 c3 s1 (seqN H) _ (runL F k (H * W)) (H : Int) = _
    rw [reduce_Do.L4, if_neg (by rw [seqN_length]; omega)]
theorem idx_4 {k : Nat} : idxV [(A : Int), (B : Int), 1, 1] (k : Int) = [((k / B : Nat) : Int), ((k % B : Nat) : Int), 0, 0] := by
  simp [idxV, prod]
theorem first_at {k p : Nat} (hk : k < A * B) (hp : p < H) (hN : A * B * (H * W) ≤ 4096) (hW : W ≠ 0) : wk .i64 ((wk .i64 ((wk .i64 (((k / B : Nat) : Int) * wk .i64 ((B : Int) * ((H : Int) * ((W : Int) * 1))))) + (wk .i64 (((k % B : Nat) : Int) * wk .i64 ((H : Int) * ((W : Int) * 1)))))) + (wk .i64 ((p : Int) * wk .i64 ((W : Int) * 1)))) = ((k * (H * W) + p * W : Nat) : Int) := by
  rw [wk_mul_r, wk_mul_r, wk_mul_r, wk_add_l, wk_add_r, Int.add_assoc, wk_add_l, Int.add_left_comm, wk_add_l, Int.add_left_comm, ← Int.add_assoc]
  have hi : p * W < H * W := Nat.mul_lt_mul_of_pos_right hp (by omega)
  have := in_channel (A := A) (B := B) (H := H) (W := W) hk hi
  have e : ((k / B : Nat) : Int) * ((B : Int) * ((H : Int) * ((W : Int) * 1))) + ((k % B : Nat) : Int) * ((H : Int) * ((W : Int) * 1)) + (p : Int) * ((W : Int) * 1) = ((k * (H * W) + p * W : Nat) : Int) := by
    have h1 : k / B * (B * (H * W)) + k % B * (H * W) = k * (H * W) := by
      rw [← Nat.mul_assoc, ← Nat.add_mul, Nat.mul_comm (k / B) B, Nat.div_add_mod]
    rw [← h1]
    simp only [Int.mul_one, Int.natCast_add, Int.natCast_mul]
  rw [e, wk_eq (by omega) (by omega)]
theorem good_nat (hg : Good [(A : Int), (B : Int), (H : Int), (W : Int)]) : A ≤ 4096 ∧ B ≤ 4096 ∧ H ≤ 4096 ∧ W ≤ 4096 ∧ A * B * (H * W) ≤ 4096 := by
  obtain ⟨_, h1, h2⟩ := hg
  have ha := h1 (A : Int) (by simp)
  have hb := h1 (B : Int) (by simp)
  have hh := h1 (H : Int) (by simp)
  have hw := h1 (W : Int) (by simp)
  have e : prod [(A : Int), (B : Int), (H : Int), (W : Int)] = ((A * B * (H * W) : Nat) : Int) := by
    simp only [prod, Int.mul_one]
    rw [Int.natCast_mul, Int.natCast_mul, Int.natCast_mul, Int.mul_assoc]
  rw [e] at h2
  omega
theorem w3_spec {x67 : List T_Tensor} (hg : Good [(A : Int), (B : Int), (H : Int), (W : Int)]) (hH0 : H ≠ 0) (hW0 : W ≠ 0) (hF : F.length = A * B * (H * W)) (hf : 20000000 < fu) :
    reduce_Do.W3 fu (setP (H : Int) (W : Int)) x67 ⟨1, [(A : Int), (B : Int), (H : Int), (W : Int)], F, I, Bo⟩ (⟨1, [(A : Int), (B : Int), 1, 1], List.replicate (A * B) 0, [], []⟩, 0) ([wk .i64 ((B : Int) * ((H : Int) * ((W : Int) * 1))), wk .i64 ((H : Int) * ((W : Int) * 1)), wk .i64 ((W : Int) * 1), 1], 0) false (List.replicate (A * B) 0) 0 =
      some (⟨1, [(A : Int), (B : Int), 1, 1], poolF A B H W F, [], []⟩, 0) := by
  obtain ⟨hA, hB, hH, hW, hN⟩ := good_nat hg
  have hgo := good_out hg (by omega)
  have hp : prod [(A : Int), (B : Int), 1, 1] = ((A * B : Nat) : Int) := by simp only [prod, Int.mul_one]; rw [Int.natCast_mul]
  have h1 : 1 ≤ H * W := Nat.mul_pos (by omega) (by omega)
  have hAB : A * B ≤ 4096 := by
    have := Nat.mul_le_mul_left (A * B) h1
    omega
  let G : Nat → Int := fun k => meanV (runL F (k * (H * W)) (H * W)) ((H * W : Nat) : Int)
  let st : Nat → Bool × List Int × Int := fun k => (false, (List.range k).map G ++ List.replicate (A * B - k) 0, (k : Int))
  unfold reduce_Do.W3
  rw [show ((false, List.replicate (A * B) (0 : Int), (0 : Int)) : Bool × List Int × Int) = st 0 by simp [st]]
  refine cloop_n (A * B) st _ ?_ ?_ (by omega)
  · intro k hk next hn
    show reduce_Do.L3 fu (setP (H : Int) (W : Int)) x67 ⟨1, [(A : Int), (B : Int), (H : Int), (W : Int)], F, I, Bo⟩ (⟨1, [(A : Int), (B : Int), 1, 1], List.replicate (A * B) 0, [], []⟩, 0) _ _ false ((List.range k).map G ++ List.replicate (A * B - k) 0) (k : Int) = _
    have hs : H * W ≤ 4096 := by
      have := Nat.mul_le_mul_right (H * W) (show 1 ≤ A * B by omega)
      omega
    have hix : indexV [(A : Int), (B : Int), 1, 1] (k : Int) = ([((k / B : Nat) : Int), ((k % B : Nat) : Int), 0, 0], 0) := by
      unfold indexV
      rw [if_pos hgo, if_pos ⟨by omega, by rw [hp]; omega⟩, idx_4]
    rw [reduce_Do.L3, chk_pos (by simp; omega), if_pos (by simp; omega), Index_spec (by simp [Short]) (by simp; omega), hix, ob_some]
    show (some ((k / B : Nat) : Int)).bind _ = _
    rw [ob_some]
    show (some (wk .i64 ((B : Int) * ((H : Int) * ((W : Int) * 1))))).bind _ = _
    rw [ob_some]
    show (some ((k % B : Nat) : Int)).bind _ = _
    rw [ob_some]
    show (some (wk .i64 ((H : Int) * ((W : Int) * 1)))).bind _ = _
    rw [ob_some]
    unfold jn
    show (some (0 : Int)).bind _ = _
    rw [ob_some]
    show (reduce_work_line fu ⟨77, setP (H : Int) (W : Int), x67, ⟨1, [(A : Int), (B : Int), (H : Int), (W : Int)], F, I, Bo⟩, _⟩ 0 0).bind _ = _
    have hc : k * (H * W) + H * W ≤ F.length := by
      have := Nat.mul_le_mul_right (H * W) hk
      rw [Nat.succ_mul] at this
      omega
    rw [line_0, line_spec hH hH0 (by omega), ob_some, w4_spec (k := k * (H * W)) hW hW0 hH (fun p hp => first_at hk hp hN hW0) hc (by omega) (by omega) rfl]
    unfold reduce_Do.k4 jn
    rw [if_neg (by decide)]
    unfold reduce_Do.k5
    rw [Sum_spec (by rw [runL_length]; exact hs) (by omega), ob_some, FromInt_spec, ob_some, Div_spec, ob_some, chk_pos (by simp; omega), chk_pos (by simp; omega), wk_succ (by omega)]
    have e : ((List.range k).map G ++ List.replicate (A * B - k) (0 : Int)).set (k : Int).toNat (G k) = (List.range (k + 1)).map G ++ List.replicate (A * B - (k + 1)) 0 := by
      rw [Int.toNat_natCast, List.set_append_right _ _ (by simp), List.length_map, List.length_range, Nat.sub_self, show A * B - k = (A * B - (k + 1)) + 1 by omega, List.replicate_succ, List.set_cons_zero, List.range_succ, List.map_append]
      simp
    have e2 : (soft_Div 0 ((runL F (k * (H * W)) (H * W)).foldl addV 0) ((round_FromInt 0 ((runL F (k * (H * W)) (H * W)).length : Int)).getD 0)).getD 0 = G k := by
      rw [runL_length]; rfl
    rw [e2, e]
    exact hn
  · intro next
    show reduce_Do.L3 fu (setP (H : Int) (W : Int)) x67 ⟨1, [(A : Int), (B : Int), (H : Int), (W : Int)], F, I, Bo⟩ (⟨1, [(A : Int), (B : Int), 1, 1], List.replicate (A * B) 0, [], []⟩, 0) _ _ false ((List.range (A * B)).map G ++ List.replicate (A * B - A * B) 0) ((A * B : Nat) : Int) = _
    rw [reduce_Do.L3, chk_pos (by simp), if_neg (by simp), Nat.sub_self, List.replicate_zero, List.append_nil]
    rfl
end
end Go.Av
