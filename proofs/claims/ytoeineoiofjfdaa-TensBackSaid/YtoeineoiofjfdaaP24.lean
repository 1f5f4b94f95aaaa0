/- Layer 5: the reference's bytes; a tensor of bytes; TensBytes: true. Conditions: those that each names. -/
import Derived.Test.YtoeineoiofjfdaaP23
set_option linter.unusedVariables false
namespace Go.Av
theorem u64_lt (x : Int) : wk .u64 x < 18446744073709551616 := by rw [wk_u64]; omega
theorem tmod256 {q : Int} (h : 0 ≤ q) : wk .u8 (Int.tmod q 256) = q % 256 := by rw [wk_u8, Int.tmod_eq_emod_of_nonneg h]; omega
theorem tdiv256 {q : Int} (h : 0 ≤ q) (h2 : q < 18446744073709551616) : wk .u64 (Int.tdiv q 256) = q / 256 := by rw [wk_u64, Int.tdiv_eq_ediv_of_nonneg h]; omega
theorem refWord {fu : Nat} {t : T_Tensor} {w : Nat} (hw : ref05_Width fu t.fType = some (w : Int)) (hw8 : w ≤ 8) (hfu : 8 < fu) {next : List Int → Int → Option (List Int × Int)} {m : List Int} {k : Nat} {n : Int} (hm : m.length ≤ 100000) (hn : 0 ≤ n) (hn2 : n < 18446744073709551616) :
    ref05_Bytes_k1 fu next t m (k : Int) n = next (m ++ leB w n) (wk .i64 ((k : Int) + 1)) := by
  unfold ref05_Bytes_k1 ref05_Bytes_W2
  refine inner_loop2 (w := w) (n := n) (c := fun m' => next m' (wk .i64 ((k : Int) + 1))) (by omega) hn ?_ ?_
  · intro next' j m' q hj hm' h0 h1
    unfold ref05_Bytes_L2
    simp only []
    rw [hw, ob_some, if_pos (by omega), chk_pos (by omega), tmod256 h0, tdiv256 h0 (by omega), wk_succ (by omega)]
  · intro next' m' q
    unfold ref05_Bytes_L2
    simp only []
    rw [hw, ob_some, if_neg (by omega)]
theorem refBytes_spec {fu : Nat} {t : T_Tensor} (hs : Small t) (hf : Fuel fu t) (hf8 : 8 < fu) : ref05_Bytes fu t = some (bytesV t) := by
  unfold ref05_Bytes bytesV
  rw [refCheck_spec hs hf, ob_some]
  by_cases hc : checkV t = 0
  · rw [if_pos hc, if_pos hc]
    obtain ⟨v1, v2, v3, v4⟩ := valid_lens hc
    obtain ⟨hk, hg, l1, l2, l3⟩ := checkV_zero.1 hc
    obtain ⟨f1, f2, f3, f4⟩ := hf
    have hN : wk .i64 ((wk .i64 ((t.fF.length : Int) + (t.fI.length : Int))) + (t.fB.length : Int)) = t.fF.length + t.fI.length + t.fB.length := sumW (by omega) (by omega) (by omega)
    unfold ref05_Bytes_W1 bytesL
    rcases hk with e | e | e
    · simp only [e, show ¬ (1 : Int) = 7 by decide, show ¬ (1 : Int) = 9 by decide, if_false] at l2 l3
      have hI : t.fI = [] := List.eq_nil_of_length_eq_zero (by omega)
      have hB : t.fB = [] := List.eq_nil_of_length_eq_zero (by omega)
      rw [hI, hB, List.flatMap_nil, List.flatMap_nil, List.append_nil, List.append_nil]
      rw [hI, hB] at hN
      refine (outer_loop (f := bF) bF_len (c := fun m => some (m, 0)) f2 ?_ ?_).trans (by simp)
      · intro next k m hk hm
        unfold ref05_Bytes_L1
        rw [hI, hB, hN]
        simp only [List.length_nil] at hm ⊢
        rw [if_pos (by omega), if_pos e, at?_get hk, ob_some, refWord (w := 4) (by rw [e]; rfl) (by omega) hf8 (by omega) (u64_nonneg _) (u64_lt _), wk_succ (by omega)]
        rfl
      · intro next m
        unfold ref05_Bytes_L1
        rw [hI, hB, hN, if_neg (by simp)]
    · simp only [e, show ¬ (7 : Int) = 1 by decide, show ¬ (7 : Int) = 9 by decide, if_false] at l1 l3
      have hF : t.fF = [] := List.eq_nil_of_length_eq_zero (by omega)
      have hB : t.fB = [] := List.eq_nil_of_length_eq_zero (by omega)
      rw [hF, hB, List.flatMap_nil, List.flatMap_nil, List.append_nil, List.nil_append]
      rw [hF, hB] at hN
      refine (outer_loop (f := bI) bI_len (c := fun m => some (m, 0)) f3 ?_ ?_).trans (by simp)
      · intro next k m hk hm
        unfold ref05_Bytes_L1
        rw [hF, hB, hN]
        simp only [List.length_nil] at hm ⊢
        rw [if_pos (by omega), if_neg (by rw [e]; decide), if_pos e, at?_get hk, ob_some, refWord (w := 8) (by rw [e]; rfl) (by omega) hf8 (by omega) (u64_nonneg _) (u64_lt _), wk_succ (by omega)]
        rfl
      · intro next m
        unfold ref05_Bytes_L1
        rw [hF, hB, hN, if_neg (by simp)]
    · simp only [e, show ¬ (9 : Int) = 1 by decide, show ¬ (9 : Int) = 7 by decide, if_false] at l1 l2
      have hF : t.fF = [] := List.eq_nil_of_length_eq_zero (by omega)
      have hI : t.fI = [] := List.eq_nil_of_length_eq_zero (by omega)
      rw [hF, hI, List.flatMap_nil, List.flatMap_nil, List.append_nil, List.nil_append]
      rw [hF, hI] at hN
      refine (outer_loop (f := bB) bB_len (c := fun m => some (m, 0)) f4 ?_ ?_).trans (by simp)
      · intro next k m hk hm
        unfold ref05_Bytes_L1
        rw [hF, hI, hN]
        simp only [List.length_nil] at hm ⊢
        rw [if_pos (by omega), if_neg (by rw [e]; decide), if_neg (by rw [e]; decide), at?_get hk, ob_some, refWord (w := 1) (n := 1) (by rw [e]; rfl) (by omega) hf8 (by omega) (by decide) (by decide), refWord (w := 1) (n := 0) (by rw [e]; rfl) (by omega) hf8 (by omega) (by decide) (by decide), wk_succ (by omega)]
        unfold bB
        by_cases hb : t.fB[k] = true
        · rw [if_pos hb, if_pos hb]
        · rw [if_neg hb, if_neg hb]
      · intro next m
        unfold ref05_Bytes_L1
        rw [hF, hI, hN, if_neg (by simp)]
  · rw [if_neg hc, if_neg hc]
/-! numbers of bytes -/
def Byts (l : List Int) : Prop := ∀ b ∈ l, 0 ≤ b ∧ b < 256
theorem pow_mono {i j : Nat} (h : i ≤ j) : (256 : Int) ^ i ≤ 256 ^ j := by
  induction h with
  | refl => exact Int.le_refl _
  | step h ih => rw [Int.pow_succ]; have := Int.pow_pos (n := 256) (m := i) (by decide); omega
theorem leN_range : ∀ {l : List Int}, Byts l → 0 ≤ leN l ∧ leN l < 256 ^ l.length
  | [], _ => by simp [leN]
  | b :: l, h => by
    obtain ⟨h1, h2⟩ := leN_range (l := l) fun x hx => h x (by simp [hx])
    have := h b (by simp)
    simp only [leN, List.length_cons, Int.pow_succ]
    omega
theorem leN_snoc : ∀ (l : List Int) (b : Int), leN (l ++ [b]) = leN l + b * 256 ^ l.length
  | [], b => by simp [leN]
  | x :: l, b => by
    simp only [List.cons_append, leN, leN_snoc l b, List.length_cons, Int.pow_succ, Int.mul_add]
    rw [show b * (256 ^ l.length * 256) = 256 * (b * 256 ^ l.length) by rw [← Int.mul_assoc, Int.mul_comm]]
    omega
theorem toNat_ofInt {x : Int} (h0 : 0 ≤ x) (h1 : x < 18446744073709551616) : (BitVec.ofInt 64 x).toNat = x.toNat := by
  rw [BitVec.toNat_ofInt]
  omega
theorem bor_add {x b : Int} {j : Nat} (hx : 0 ≤ x) (hxj : x < 256 ^ j) (hb : 0 ≤ b) (hb2 : b < 256) (hj : j < 8) : bor .u64 x (shlk .u64 (wk .u64 b) (wk .i64 (8 * (j : Int)))) = x + b * 256 ^ j := by
  have hp : (256 : Int) ^ j ≤ 256 ^ 7 := pow_mono (by omega)
  have hpos : (0 : Int) < 256 ^ j := Int.pow_pos (by decide)
  have hbj : b * 256 ^ j ≤ 255 * 256 ^ j := Int.mul_le_mul_of_nonneg_right (by omega) (Int.le_of_lt hpos)
  have hbj0 : 0 ≤ b * 256 ^ j := Int.mul_nonneg hb (Int.le_of_lt hpos)
  have h7 : (256 : Int) ^ 7 = 72057594037927936 := by decide
  rw [wk_eq (by omega) (by omega), wk_u64, Int.emod_eq_of_lt hb (by omega), shlk, show (8 * (j : Int)).toNat = 8 * j by omega, show min (8 * j) IntKind.u64.bits = 8 * j by simp [IntKind.bits]; omega, pow256]
  rw [show IntKind.wrap .u64 (b * 256 ^ j) = b * 256 ^ j by
    have := wk_u64 (b * 256 ^ j)
    unfold wk at this
    rw [this, Int.emod_eq_of_lt hbj0 (by omega)]]
  unfold bor
  rw [show IntKind.u64.bits = 64 from rfl, BitVec.toNat_or, toNat_ofInt hx (by omega), toNat_ofInt hbj0 (by omega)]
  have hq : (b * 256 ^ j).toNat = 2 ^ (8 * j) * b.toNat := by
    have h1 : (b * 256 ^ j) = ((2 ^ (8 * j) * b.toNat : Nat) : Int) := by
      rw [Int.natCast_mul, Int.toNat_of_nonneg hb, Int.natCast_pow, show ((2 : Nat) : Int) = 2 from rfl, pow256, Int.mul_comm]
    rw [h1, Int.toNat_natCast]
  have hxn : x.toNat < 2 ^ (8 * j) := by
    have h1 : ((2 ^ (8 * j) : Nat) : Int) = 256 ^ j := by rw [Int.natCast_pow, show ((2 : Nat) : Int) = 2 from rfl, pow256]
    omega
  rw [Nat.or_comm, hq, ← Nat.two_pow_add_eq_or_of_lt hxn]
  have h2 : ((2 ^ (8 * j) * b.toNat + x.toNat : Nat) : Int) = x + b * 256 ^ j := by
    rw [← hq]; omega
  rw [h2]
  have := wk_u64 (x + b * 256 ^ j)
  unfold wk at this
  rw [this, Int.emod_eq_of_lt (by omega) (by omega)]
theorem number_spec {fu : Nat} {l : List Int} (hb : Byts l) (h8 : l.length ≤ 8) (hf : 8 < fu) : tens_number fu l = some (leN l) := by
  unfold tens_number tens_number_W1
  have := cloop_up (body := fun next s => tens_number_L1 fu l (fun x3 x4 => next (x3, x4)) s.1 s.2) (n := fu) l.length (fun k => leN (l.take k)) (some (leN l)) ?_ ?_ (by omega)
  · simpa [leN] using this
  · intro k hk next hn
    have hbk := hb _ (List.getElem_mem hk)
    obtain ⟨r1, r2⟩ := leN_range (l := l.take k) fun x hx => hb x (List.mem_of_mem_take hx)
    have hlk : (l.take k).length = k := by simp; omega
    rw [hlk] at r2
    unfold tens_number_L1
    simp only []
    rw [if_pos (by omega), at?_get hk, ob_some, chk_pos (byte_chk (by omega)), bor_add r1 r2 hbk.1 hbk.2 (by omega), wk_succ (by omega)]
    have e : leN (l.take (k + 1)) = leN (l.take k) + l[k] * 256 ^ k := by
      rw [List.take_add_one, List.getElem?_eq_getElem hk]
      show leN (l.take k ++ [l[k]]) = _
      rw [leN_snoc, hlk]
    rw [← e]
    exact hn
  · intro next
    unfold tens_number_L1
    rw [if_neg (by simp)]
    simp
end Go.Av
