/- Layer 5: the bytes of a tensor, a tensor of bytes. Conditions: those that each names. -/
import Derived.Test.YtoeineoiofjfdaaP22
set_option linter.unusedVariables false
namespace Go.Av
theorem wk_u8 (x : Int) : wk .u8 x = x % 256 := by simp [wk, IntKind.wrap, IntKind.signed, IntKind.bits]
theorem wk_u32 (x : Int) : wk .u32 x = x % 4294967296 := by simp [wk, IntKind.wrap, IntKind.signed, IntKind.bits]
theorem wk_u64 (x : Int) : wk .u64 x = x % 18446744073709551616 := by simp [wk, IntKind.wrap, IntKind.signed, IntKind.bits]
def leB : Nat → Int → List Int
  | 0, _ => []
  | w + 1, n => n % 256 :: leB w (n / 256)
def leN : List Int → Int
  | [] => 0
  | b :: bs => b + 256 * leN bs
theorem leB_length : ∀ (w : Nat) (n : Int), (leB w n).length = w
  | 0, _ => rfl
  | w + 1, n => by simp [leB, leB_length w]
theorem leB_succ : ∀ (k : Nat) (n : Int), leB (k + 1) n = leB k n ++ [n / 256 ^ k % 256]
  | 0, n => by simp [leB]
  | k + 1, n => by
    have := leB_succ k (n / 256)
    rw [show leB (k + 1 + 1) n = n % 256 :: leB (k + 1) (n / 256) from rfl, this, Int.ediv_ediv_of_nonneg (by decide)]
    simp [leB, Int.pow_succ, Int.mul_comm]
theorem leB_range : ∀ (w : Nat) (n : Int), ∀ b ∈ leB w n, 0 ≤ b ∧ b < 256
  | 0, n, b, h => by simp [leB] at h
  | w + 1, n, b, h => by
    rcases List.mem_cons.1 h with rfl | h
    · omega
    · exact leB_range w _ b h
theorem leN_leB : ∀ (w : Nat) (n : Int), leN (leB w n) = n % 256 ^ w
  | 0, n => by simp [leB, leN]
  | w + 1, n => by
    simp only [leB, leN]
    rw [leN_leB w, Int.pow_succ, Int.mul_comm ((256 : Int) ^ w) 256]
    have h1 := Int.emod_add_mul_ediv n 256
    have h2 := Int.emod_add_mul_ediv (n / 256) (256 ^ w)
    rw [Int.emod_def n (256 * 256 ^ w), ← Int.ediv_ediv_of_nonneg (by decide), Int.mul_assoc]
    generalize hq : n / 256 / 256 ^ w = q at *
    generalize hp : (256 : Int) ^ w * q = p at *
    omega
theorem pow256 (k : Nat) : (2 : Int) ^ (8 * k) = 256 ^ k := by
  induction k with
  | zero => rfl
  | succ k ih => rw [Nat.mul_succ, Int.pow_add, ih, Int.pow_succ]; rfl
theorem byte_eq {n : Int} (hn : 0 ≤ n) {k : Nat} (hk : k < 8) : wk .u8 (shrk .u64 n (wk .i64 (8 * (k : Int)))) = n / 256 ^ k % 256 := by
  rw [wk_eq (by omega) (by omega), wk_u8, shrk]
  have : (8 * (k : Int)).toNat = 8 * k := by omega
  rw [this, show min (8 * k) IntKind.u64.bits = 8 * k by simp [IntKind.bits]; omega, pow256, Int.fdiv_eq_ediv_of_nonneg _ (Int.le_of_lt (Int.pow_pos (by decide)))]
theorem byte_chk {k : Nat} (hk : k < 8) : 0 ≤ wk .i64 (8 * (k : Int)) := by rw [wk_eq (by omega) (by omega)]; omega

/-- elements one after the other, each as some bytes -/
theorem outer_loop {α β : Type} {l : List α} {f : α → List Int} {w : Nat} (hw : ∀ x, (f x).length = w) {pre : List Int} {B : ((List Int × Int) → Option β) → (List Int × Int) → Option β} {c : List Int → Option β} {fu : Nat} (hf : l.length < fu)
    (hB : ∀ (next : List Int × Int → Option β) (k : Nat) (m : List Int) (hk : k < l.length), m.length = pre.length + k * w → B next (m, (k : Int)) = next (m ++ f l[k], ((k + 1 : Nat) : Int)))
    (hE : ∀ next (m : List Int), B next (m, (l.length : Int)) = c m) : cloop B fu (pre, 0) = c (pre ++ l.flatMap f) := by
  have hlen : ∀ k, k ≤ l.length → ((l.take k).flatMap f).length = k * w := fun k => by
    induction k with
    | zero => intro _; simp
    | succ k ih =>
      intro hk
      rw [List.take_add_one, List.getElem?_eq_getElem (by omega), List.flatMap_append, List.length_append, ih (by omega), Nat.succ_mul]
      simp [hw]
  have := cloop_up (body := B) (n := fu) l.length (fun k => pre ++ (l.take k).flatMap f) (c (pre ++ l.flatMap f)) ?_ ?_ hf
  · simpa using this
  · intro k hk next hn
    rw [hB next k _ hk (by rw [List.length_append, hlen k (by omega)])]
    rw [show pre ++ (l.take k).flatMap f ++ f l[k] = pre ++ (l.take (k + 1)).flatMap f by rw [List.take_add_one, List.getElem?_eq_getElem hk, List.flatMap_append, List.append_assoc]; simp]
    exact hn
  · intro next
    rw [hE]
    simp
/-- the bytes of one number -/
theorem inner_loop {β : Type} {w : Nat} {n : Int} {m : List Int} {B : ((List Int × Int) → Option β) → (List Int × Int) → Option β} {c : List Int → Option β} {fu : Nat} (hf : w < fu)
    (hB : ∀ (next : List Int × Int → Option β) (k : Nat) (m' : List Int), k < w → m'.length = m.length + k → B next (m', (k : Int)) = next (m' ++ [n / 256 ^ k % 256], ((k + 1 : Nat) : Int)))
    (hE : ∀ next (m' : List Int), B next (m', (w : Int)) = c m') : cloop B fu (m, 0) = c (m ++ leB w n) := by
  have := cloop_up (body := B) (n := fu) w (fun k => m ++ leB k n) (c (m ++ leB w n)) ?_ ?_ hf
  · simpa [leB] using this
  · intro k hk next hn
    rw [hB next k _ hk (by rw [List.length_append, leB_length])]
    rw [List.append_assoc, ← leB_succ]
    exact hn
  · intro next
    rw [hE]
theorem flatMap_len {α : Type} {f : α → List Int} {w : Nat} (hw : ∀ x, (f x).length = w) (l : List α) : (l.flatMap f).length = l.length * w := by
  induction l with
  | nil => simp
  | cons x l ih => rw [List.flatMap_cons, List.length_append, hw, ih, List.length_cons, Nat.succ_mul]; omega
def bF (x : Int) : List Int := leB 4 (wk .u64 x)
def bI (x : Int) : List Int := leB 8 (wk .u64 x)
def bB (x : Bool) : List Int := leB 1 (if x = true then 1 else 0)
theorem bF_len (x : Int) : (bF x).length = 4 := leB_length _ _
theorem bI_len (x : Int) : (bI x).length = 8 := leB_length _ _
theorem bB_len (x : Bool) : (bB x).length = 1 := leB_length _ _
def bytesL (t : T_Tensor) : List Int := t.fF.flatMap bF ++ t.fI.flatMap bI ++ t.fB.flatMap bB
def bytesV (t : T_Tensor) : List Int × Int := if checkV t = 0 then (bytesL t, 0) else ([], checkV t)
theorem u64_nonneg (x : Int) : 0 ≤ wk .u64 x := by rw [wk_u64]; omega
theorem Bytes_spec {fu : Nat} {t : T_Tensor} (hs : Small t) (hf : Fuel fu t) (hf8 : 8 < fu) : tens_Bytes fu t = some (bytesV t) := by
  unfold tens_Bytes bytesV
  rw [Check_spec hs hf, ob_some]
  by_cases hc : checkV t = 0
  · rw [if_pos hc, if_pos hc]
    obtain ⟨v1, v2, v3, v4⟩ := valid_lens hc
    have e1 := flatMap_len bF_len t.fF
    have e2 := flatMap_len bI_len t.fI
    unfold tens_Bytes_W5
    refine (outer_loop (f := bF) bF_len (c := fun m => tens_Bytes_k1 fu t m) hf.2.1 ?_ ?_).trans ?_
    · intro next k m hk hm
      unfold tens_Bytes_L5 tens_Bytes_W6
      simp only [List.length_nil] at hm ⊢
      rw [if_pos (by omega), at?_get hk, ob_some]
      refine (inner_loop (w := 4) (n := wk .u64 t.fF[k]) (c := fun m' => next (m', wk .i64 ((k : Int) + 1))) (by omega) ?_ ?_).trans ?_
      · intro next' j m' hj hm'
        unfold tens_Bytes_L6
        simp only []
        rw [if_pos (by omega), chk_pos (byte_chk (by omega)), chk_pos (by omega), byte_eq (u64_nonneg _) (by omega), wk_succ (by omega)]
      · intro next' m'
        unfold tens_Bytes_L6
        rw [if_neg (by simp)]
      · rw [wk_succ (by omega)]; rfl
    · intro next m
      unfold tens_Bytes_L5
      rw [if_neg (by simp)]
    · rw [List.nil_append]
      unfold tens_Bytes_k1 tens_Bytes_W3
      refine (outer_loop (f := bI) bI_len (c := fun m => tens_Bytes_k2 fu t m) hf.2.2.1 ?_ ?_).trans ?_
      · intro next k m hk hm
        unfold tens_Bytes_L3 tens_Bytes_W4
        simp only []
        rw [if_pos (by omega), at?_get hk, ob_some]
        refine (inner_loop (w := 8) (n := wk .u64 t.fI[k]) (c := fun m' => next (m', wk .i64 ((k : Int) + 1))) (by omega) ?_ ?_).trans ?_
        · intro next' j m' hj hm'
          unfold tens_Bytes_L4
          simp only []
          rw [if_pos (by omega), chk_pos (byte_chk (by omega)), chk_pos (by omega), byte_eq (u64_nonneg _) (by omega), wk_succ (by omega)]
        · intro next' m'
          unfold tens_Bytes_L4
          rw [if_neg (by simp)]
        · rw [wk_succ (by omega)]; rfl
      · intro next m
        unfold tens_Bytes_L3
        rw [if_neg (by simp)]
      · unfold tens_Bytes_k2 tens_Bytes_W1
        refine (outer_loop (f := bB) bB_len (c := fun m => some (m, 0)) hf.2.2.2 ?_ ?_).trans rfl
        · intro next k m hk hm
          rw [List.length_append, e1, e2] at hm
          have hin : ∀ n : Int, 0 ≤ n → tens_Bytes_k3 fu (fun x9 x10 => next (x9, x10)) m (k : Int) n = next (m ++ leB 1 n, ((k + 1 : Nat) : Int)) := fun n hn => by
            unfold tens_Bytes_k3 tens_Bytes_W2
            refine (inner_loop (w := 1) (n := n) (c := fun m' => next (m', wk .i64 ((k : Int) + 1))) (by omega) ?_ ?_).trans ?_
            · intro next' j m' hj hm'
              unfold tens_Bytes_L2
              simp only []
              rw [if_pos (by omega), chk_pos (byte_chk (by omega)), chk_pos (by omega), byte_eq hn (by omega), wk_succ (by omega)]
            · intro next' m'
              unfold tens_Bytes_L2
              rw [if_neg (by simp)]
            · rw [wk_succ (by omega)]
          unfold tens_Bytes_L1
          simp only []
          rw [if_pos (by omega), at?_get hk, ob_some, hin 1 (by decide), hin 0 (by decide)]
          unfold bB
          by_cases hb : t.fB[k] = true
          · rw [if_pos hb, if_pos hb]
          · rw [if_neg hb, if_neg hb]
        · intro next m
          unfold tens_Bytes_L1
          rw [if_neg (by simp)]
  · rw [if_neg hc, if_neg hc]
/-- the bytes of one number, by what is left of it -/
theorem inner_loop2 {β : Type} {w : Nat} {n : Int} {m : List Int} {B : ((List Int × Int × Int) → Option β) → (List Int × Int × Int) → Option β} {c : List Int → Option β} {fu : Nat} (hf : w < fu) (hn : 0 ≤ n)
    (hB : ∀ (next : List Int × Int × Int → Option β) (k : Nat) (m' : List Int) (q : Int), k < w → m'.length = m.length + k → 0 ≤ q → q ≤ n → B next (m', q, (k : Int)) = next (m' ++ [q % 256], q / 256, ((k + 1 : Nat) : Int)))
    (hE : ∀ next (m' : List Int) q, B next (m', q, (w : Int)) = c m') : cloop B fu (m, n, 0) = c (m ++ leB w n) := by
  have := cloop_up (σ := List Int × Int) (body := fun nx s => B (fun r => nx ((r.1, r.2.1), r.2.2)) (s.1.1, s.1.2, s.2)) (n := fu) w (fun k => (m ++ leB k n, n / 256 ^ k)) (c (m ++ leB w n)) ?_ ?_ hf
  · have key : ∀ (f : Nat) (s : List Int × Int × Int), cloop B f s = cloop (fun nx s => B (fun r => nx ((r.1, r.2.1), r.2.2)) (s.1.1, s.1.2, s.2)) f ((s.1, s.2.1), s.2.2) := fun f => by
      induction f with
      | zero => intro s; rfl
      | succ f ih =>
        intro s
        show B _ _ = B _ _
        congr 1
        funext r
        exact ih r
    rw [key]
    simpa [leB] using this
  · intro k hk next hnx
    simp only
    have h0 : 0 ≤ n / 256 ^ k := Int.ediv_nonneg hn (Int.le_of_lt (Int.pow_pos (by decide)))
    rw [hB _ k _ _ hk (by rw [List.length_append, leB_length]) h0 (Int.ediv_le_self _ hn)]
    simp only
    rw [List.append_assoc, ← leB_succ, Int.ediv_ediv_of_nonneg (Int.le_of_lt (Int.pow_pos (by decide))), ← Int.pow_succ]
    exact hnx
  · intro next
    simp only
    rw [hE]
end Go.Av
