/- The reference's shapes brought together; ShapeMeets: true. Conditions: those that each names. -/
import Derived.Test.YtoeineoiofjfdaaP08
import Derived.Test.YtoeineoiofjfdaaP11
set_option linter.unusedVariables false
namespace Go.Av
def pad (n : Nat) (l : List Int) : List Int := List.replicate (n - l.length) 1 ++ l
theorem pad_length {n : Nat} {l : List Int} (h : l.length ≤ n) : (pad n l).length = n := by simp [pad]; omega
theorem zipB_pad : ∀ (k : Nat) {p a b : List Int}, p.length = k → zipB (p ++ a) (List.replicate k 1 ++ b) = (zipB a b).map (p ++ ·)
  | 0, p, a, b, h => by
    have : p = [] := List.length_eq_zero_iff.1 h
    subst this
    simp
  | k + 1, [], a, b, h => by simp at h
  | k + 1, x :: p, a, b, h => by
    have ih := zipB_pad k (p := p) (a := a) (b := b) (by simpa using h)
    simp only [List.replicate_succ, List.cons_append, zipB, ih]
    by_cases h1 : x = 1
    · subst h1; rw [if_pos rfl]; cases zipB a b <;> rfl
    · simp only [h1, if_false, true_or, if_true]; cases zipB a b <;> rfl
theorem bc'_pad {a b : List Int} (h : b.length ≤ a.length) : bc' a b = zipB a (pad a.length b) := by
  unfold bc' pad
  have := zipB_pad (a.length - b.length) (p := a.take (a.length - b.length)) (a := a.drop (a.length - b.length)) (b := b) (by simp)
  rw [List.take_append_drop] at this
  exact this.symm
theorem pad_self {l : List Int} : pad l.length l = l := by simp [pad]
theorem bc_pad {a b : List Int} {n : Nat} (hn : n = max a.length b.length) : bc a b = zipB (pad n a) (pad n b) := by
  unfold bc
  by_cases h : a.length < b.length
  · have : n = b.length := by omega
    subst this
    rw [if_pos h, bc'_pad (by omega), pad_self]
    exact zipB_comm (by rw [pad_length (by omega)])
  · have : n = a.length := by omega
    subst this
    rw [if_neg h, bc'_pad (by omega), pad_self]
theorem zipB_none : ∀ (k : Nat) {a b : List Int}, a.length = b.length → zipB (a.drop k) (b.drop k) = none → zipB a b = none
  | 0, a, b, hl, h => by simpa using h
  | k + 1, [], [], hl, h => by simp [zipB] at h
  | k + 1, x :: a, d :: b, hl, h => by
    have := zipB_none k (a := a) (b := b) (by simpa using hl) (by simpa using h)
    simp [zipB, this]
theorem dim_spec {fu n : Nat} {l : List Int} {i : Nat} (hl : l.length ≤ n) (h8 : n ≤ 8) (hi : i < n) : ref04_dim fu l (i : Int) = (pad n l)[n - 1 - i]? := by
  unfold ref04_dim pad
  by_cases h : (l.length : Int) ≤ i
  · rw [if_pos h, List.getElem?_append_left (by simp; omega), List.getElem?_replicate, if_pos (by omega)]
  · rw [if_neg h, List.getElem?_append_right (by simp; omega), wk_eq (x := (l.length : Int) - 1) (by omega) (by omega), wk_eq (by omega) (by omega)]
    have e : (l.length : Int) - 1 - (i : Int) = ((l.length - 1 - i : Nat) : Int) := by omega
    rw [e, at?_nat, List.length_replicate, show n - 1 - i - (n - l.length) = l.length - 1 - i by omega]
    cases l[l.length - 1 - i]? <;> rfl
theorem imax_len {a b : List Int} : imax (a.length : Int) (b.length : Int) = ((max a.length b.length : Nat) : Int) := by
  unfold imax
  by_cases h : a.length < b.length
  · rw [if_pos (by omega)]; omega
  · rw [if_neg (by omega)]; omega
theorem refB_k1 {fu : Nat} {l : List Int} (hl : Short l) (hf : l.length < fu) : ref04_Broadcast_k1 fu l = some (if Good l then (l, 0) else ([], errS l)) := by
  unfold ref04_Broadcast_k1
  rw [refSize_spec hl hf, ob_some]
  simp only [sizeV]
  by_cases hg : Good l
  · simp only [if_pos hg, if_true]
  · simp only [if_neg hg]
    rw [if_neg (errS_ne l)]
theorem refBW_spec {fu n : Nat} {a b : List Int} (hn : n = max a.length b.length) (h8 : n ≤ 8) (hf : 9 < fu) : ref04_Broadcast_W1 fu a b (List.replicate n 0) 0 = some (match bc a b with
    | some l => if Good l then (l, 0) else ([], errS l)
    | none => ([], 3)) := by
  rw [bc_pad hn]
  have la := pad_length (n := n) (l := a) (by omega)
  have lb := pad_length (n := n) (l := b) (by omega)
  unfold ref04_Broadcast_W1
  refine cloop_ind (fun _ => some (match zipB (pad n a) (pad n b) with
    | some l => if Good l then (l, 0) else ([], errS l)
    | none => ([], 3))) (fun (s : List Int × Int) => ∃ i : Nat, i ≤ n ∧ s.2 = i ∧ ∃ t, zipB ((pad n a).drop (n - i)) ((pad n b).drop (n - i)) = some t ∧ t.length = i ∧ s.1 = List.replicate (n - i) 0 ++ t) (fun s => n - s.2.toNat) ?_ fu (List.replicate n 0, 0) ⟨0, by omega, rfl, [], by rw [List.drop_of_length_le (by omega), List.drop_of_length_le (by omega)]; rfl, rfl, by simp⟩ (by simp; omega)
  rintro ⟨o, q⟩ ⟨i, hi, rfl, t, ht, htl, rfl⟩ next hnx
  simp only at hnx ⊢
  unfold ref04_Broadcast_L1 ref04_Broadcast_k2 ref04_Broadcast_k3
  simp only [imax_len, ← hn]
  by_cases hin : i < n
  · have ka : n - 1 - i < (pad n a).length := by omega
    have kb : n - 1 - i < (pad n b).length := by omega
    rw [if_pos (by omega), dim_spec (n := n) (by omega) h8 hin, List.getElem?_eq_getElem ka, ob_some, dim_spec (n := n) (by omega) h8 hin, List.getElem?_eq_getElem kb, ob_some]
    rw [wk_eq (x := (n : Int) - 1) (by omega) (by omega), wk_eq (x := (n : Int) - 1 - (i : Int)) (by omega) (by omega)]
    have e : (n : Int) - 1 - (i : Int) = ((n - 1 - i : Nat) : Int) := by omega
    have e2 : n - i = (n - 1 - i) + 1 := by omega
    rw [e2] at ht
    have hz : zipB ((pad n a).drop (n - 1 - i)) ((pad n b).drop (n - 1 - i)) = if (pad n a)[n - 1 - i] = 1 then some ((pad n b)[n - 1 - i] :: t) else if (pad n b)[n - 1 - i] = 1 ∨ (pad n b)[n - 1 - i] = (pad n a)[n - 1 - i] then some ((pad n a)[n - 1 - i] :: t) else none := by
      rw [List.drop_eq_getElem_cons ka, List.drop_eq_getElem_cons kb]
      simp only [zipB, ht, Option.map_some]
    have hlen : (List.replicate (n - 1 - i + 1) (0 : Int) ++ t).length = n := by simp; omega
    rw [e, e2, hlen, Int.toNat_natCast, wk_succ (by omega), rep_set, rep_set, chk_pos (by omega), chk_pos (by omega)]
    generalize (pad n a)[n - 1 - i] = x at hz ⊢
    generalize (pad n b)[n - 1 - i] = d at hz ⊢
    have e3 : n - (i + 1) = n - 1 - i := by omega
    have hgo : ∀ y, zipB ((pad n a).drop (n - 1 - i)) ((pad n b).drop (n - 1 - i)) = some (y :: t) → next (List.replicate (n - 1 - i) 0 ++ y :: t, ((i + 1 : Nat) : Int)) = _ := fun y hy =>
      hnx (List.replicate (n - 1 - i) 0 ++ y :: t, ((i + 1 : Nat) : Int)) ⟨i + 1, by omega, rfl, y :: t, by rw [e3]; exact hy, by simp [htl], by rw [e3]⟩ (by simp; omega)
    have hbad : ¬ x = d → ¬ x = 1 → ¬ d = 1 → zipB (pad n a) (pad n b) = none := fun h1 h2 h3 => by
      refine zipB_none (n - 1 - i) (by omega) ?_
      rw [hz, if_neg h2, if_neg (fun h => h.elim h3 fun h => h1 h.symm)]
    by_cases h1 : x = 1
    · rw [if_pos h1] at hz
      by_cases h2 : x = d
      · rw [if_pos h2, if_pos h1]; exact hgo d hz
      · rw [if_neg h2, if_pos h1, if_pos h1]; exact hgo d hz
    · rw [if_neg h1] at hz
      by_cases h2 : x = d
      · rw [if_pos (.inr h2.symm)] at hz
        rw [if_pos h2, if_neg h1]; exact hgo x hz
      · rw [if_neg h2, if_neg h1]
        by_cases h3 : d = 1
        · rw [if_pos (.inl h3)] at hz
          rw [if_pos h3, if_neg h1]; exact hgo x hz
        · rw [if_neg h3, hbad h2 h1 h3]
  · have : i = n := by omega
    subst this
    rw [if_neg (by omega)]
    simp only [Nat.sub_self, List.drop_zero, List.replicate_zero, List.nil_append] at ht ⊢
    rw [ht, refB_k1 (by unfold Short; omega) (by omega)]
theorem refBroadcast_spec {fu : Nat} {a b : List Int} (ha : Short a) (hb : Short b) (hfa : a.length < fu) (hfb : b.length < fu) (hf : 9 < fu) : ref04_Broadcast fu a b = some (broadcastV a b) := by
  unfold ref04_Broadcast
  rw [refSize_spec ha hfa, ob_some]
  simp only [sizeV, broadcastV]
  by_cases ga : Good a
  · simp only [if_pos ga, if_true]
    rw [refSize_spec hb hfb, ob_some]
    simp only [sizeV]
    by_cases gb : Good b
    · simp only [if_pos gb, if_true]
      have := ga.1
      have := gb.1
      rw [imax_len, chk_pos (by omega), Int.toNat_natCast, refBW_spec rfl (by omega) hf]
      cases bc a b <;> rfl
    · simp only [if_neg gb]
      rw [if_neg (errS_ne b)]
  · simp only [if_neg ga]
    rw [if_neg (errS_ne a)]
theorem fromS_lt : ∀ {s l xs : List Int}, s.length = l.length → l.length = xs.length → dimsFit s l → okIx l xs = true → 0 ≤ fromS s xs ∧ fromS s xs < prod s
  | [], [], [], _, _, _, _ => by simp [fromS, prod]
  | d :: s, x :: l, y :: xs, h1, h2, hf, ho => by
    simp only [okIx, Bool.and_eq_true, decide_eq_true_eq] at ho
    obtain ⟨f1, f2⟩ := fromS_lt (s := s) (l := l) (xs := xs) (by simpa using h1) (by simpa using h2) hf.2 ho.2
    simp only [fromS, prod]
    by_cases hd : d = 1
    · rw [if_pos hd, hd, Int.one_mul]; omega
    · rw [if_neg hd]
      have := hf.1.resolve_left hd
      have m1 : (y + 1) * prod s ≤ d * prod s := Int.mul_le_mul_of_nonneg_right (by omega) (by omega)
      rw [Int.add_mul, Int.one_mul] at m1
      have m2 : 0 ≤ y * prod s := Int.mul_nonneg ho.1.1 (by omega)
      omega
theorem refFromW_spec {fu : Nat} {s l : List Int} {a e : Int} (hs : Good s) (hlg : Good l) (hls : s.length ≤ l.length) (hfit : dimsFit s (l.drop (l.length - s.length))) (h0 : 0 ≤ a) (h1 : a < prod l) (hf : 9 < fu) :
    ref04_From_W1 fu s l (idxV l a, e) 0 0 = some (fromS s ((idxV l a).drop (l.length - s.length)), 0) := by
  have hL := hlg.1
  have hS := hs.1
  have hP := hs.2.2
  have hn : prod l ≠ 0 := by omega
  have hok := okIx_drop (l.length - s.length) (okIx_idx (pos_of_good hlg hn) h0 h1)
  have hil := idxV_length l a
  have hw : wk .i64 ((l.length : Int) - (s.length : Int)) = ((l.length - s.length : Nat) : Int) := by rw [wk_eq (by omega) (by omega)]; omega
  unfold ref04_From_W1
  generalize hA : l.length - s.length = A at hw hok hfit ⊢
  generalize hx : (idxV l a).drop A = xs at hok ⊢
  have hxl : xs.length = s.length := by rw [← hx]; simp [hil]; omega
  have hdl : (l.drop A).length = s.length := by simp; omega
  obtain ⟨f1, f2⟩ := fromS_lt hdl.symm (by omega) hfit hok
  refine (cloop_ind (fun (t : Int × Int) => some (wk .i64 (t.1 * prod (s.drop t.2.toNat) + fromS (s.drop t.2.toNat) (xs.drop t.2.toNat)), (0 : Int))) (fun t => 0 ≤ t.2 ∧ t.2 ≤ s.length ∧ ∃ o', t.1 = wk .i64 o') (fun t => s.length - t.2.toNat) ?_ fu (0, 0) ⟨by simp, by simp, 0, by decide⟩ (by simp; omega)).trans ?_
  · rintro ⟨o, i⟩ ⟨q0, q1, o', rfl⟩ next hnx
    simp only at q0 q1 hnx ⊢
    obtain ⟨k, rfl⟩ := Int.eq_ofNat_of_zero_le q0
    unfold ref04_From_L1 ref04_From_k3
    simp only [Int.toNat_natCast, hw]
    have hidx : wk .i64 ((A : Int) + (k : Int)) = ((A + k : Nat) : Int) := by rw [wk_eq (by omega) (by omega)]; omega
    by_cases hk : k < s.length
    · have hkx : k < xs.length := by omega
      have hget : (idxV l a)[A + k]? = some xs[k] := by
        rw [← List.getElem?_eq_getElem hkx, ← hx, List.getElem?_drop]
      rw [if_pos (by omega), hidx, at?_nat, hget, ob_some, at?_get hk, ob_some, ob_some, ob_some, wk_succ (by omega)]
      rw [List.drop_eq_getElem_cons hk, List.drop_eq_getElem_cons hkx]
      simp only [fromS, prod]
      have hnext : ∀ y, next (wk .i64 (wk .i64 (wk .i64 o' * s[k]) + y), ((k + 1 : Nat) : Int)) = some (wk .i64 (wk .i64 o' * (s[k] * prod (s.drop (k + 1))) + (y * prod (s.drop (k + 1)) + fromS (s.drop (k + 1)) (xs.drop (k + 1)))), 0) := fun y => by
        rw [wk_add_l, hnx (wk .i64 (wk .i64 o' * s[k] + y), ((k + 1 : Nat) : Int)) ⟨by simp only []; omega, by simp only []; omega, _, rfl⟩ (by simp; omega)]
        simp only [Int.toNat_natCast]
        rw [wk_hor, Int.add_mul, Int.mul_assoc, Int.add_assoc]
      by_cases hd : s[k] = 1
      · rw [if_pos hd, if_pos hd, hnext]
        simp
      · rw [if_neg hd, if_neg hd, hnext]
    · rw [if_neg (by omega), List.drop_of_length_le (by omega), List.drop_of_length_le (by omega)]
      simp [fromS, prod, wk_idem]
  · simp only [Int.toNat_zero, List.drop_zero, Int.zero_mul, Int.zero_add]
    rw [wk_eq (by omega) (by omega)]
theorem bv_short {a b : List Int} : (broadcastV a b).1.length ≤ 8 := by
  unfold broadcastV
  split
  · split
    · rename_i ga gb
      cases hb : bc a b with
      | none => simp
      | some r =>
        simp only
        split
        · rename_i g; exact g.1
        · simp
    · simp
  · simp
theorem refFrom_spec {fu : Nat} {s l : List Int} {a : Int} (hs : Short s) (hl : Short l) (hfs : s.length < fu) (hfl : l.length < fu) (hf : 9 < fu) : ref04_From fu s l a = some (fromV s l a) := by
  unfold ref04_From ref04_From_k1 ref04_From_k2
  rw [refSize_spec hs hfs, ob_some]
  simp only [sizeV, fromV]
  by_cases gs : Good s
  · simp only [if_pos gs, if_true]
    rw [refSize_spec hl hfl, ob_some]
    simp only [sizeV]
    by_cases gl : Good l
    · simp only [if_pos gl, if_true]
      rw [refBroadcast_spec hs hl hfs hfl hf, ob_some]
      by_cases he : (broadcastV s l).2 = 0
      · rw [if_pos he]
        have hb8 := bv_short (a := s) (b := l)
        rw [SameInts_spec (by unfold Short; omega) (by omega), ob_some]
        by_cases heq : (broadcastV s l).1 = l
        · have hbv : broadcastV s l = (l, 0) := Prod.ext heq he
          rw [if_pos (by simpa using heq), if_pos hbv]
          by_cases h1 : a < 0
          · rw [if_pos h1, if_neg (by omega)]
          rw [if_neg h1]
          by_cases h2 : prod l ≤ a
          · rw [if_pos h2, if_neg (by omega)]
          rw [if_neg h2, if_pos (by omega), refIndex_spec hl hfl, ob_some]
          obtain ⟨f1, _, f3⟩ := bcast_fit gs gl hbv
          have : indexV l a = (idxV l a, 0) := by
            unfold indexV
            rw [if_pos gl, if_pos (by omega)]
          rw [this, refFromW_spec gs gl f1 f3 (by omega) (by omega) hf]
        · rw [if_neg (by simpa using heq), if_neg (fun h => heq (by rw [h]))]
      · rw [if_neg he, if_neg (fun h => he (by rw [h]))]
    · simp only [if_neg gl]
      rw [if_neg (errS_ne l)]
  · simp only [if_neg gs]
    rw [if_neg (errS_ne s)]
theorem Meets_law {fu : Nat} {l xs : List Int} {a : Int} (hl : Lend l) (hx : Lend xs) (hf : l.length < fu) (hf2 : xs.length < fu) (hf9 : 9 < fu) : law04_ShapeMeets fu l xs a = some true := by
  have sl := lendS hl
  have sx := lendS hx
  have g1 : (0 : Int) ≤ ((l.length + 2 : Nat) : Int) ∧ ((l.length + 2 : Nat) : Int) ≤ ((l.length + 2 : Nat) : Int) := by omega
  have g2 : (0 : Int) ≤ ((xs.length + 2 : Nat) : Int) ∧ ((xs.length + 2 : Nat) : Int) ≤ ((xs.length + 2 : Nat) : Int) := by omega
  have i1 : 0 ≤ (l.length : Int) ∧ (l.length : Int) < ((l.length + 2 : Nat) : Int) := by omega
  have i2 : 0 ≤ (xs.length : Int) ∧ (xs.length : Int) < ((xs.length + 2 : Nat) : Int) := by omega
  have j1 : 0 ≤ ((l.length + 1 : Nat) : Int) ∧ ((l.length + 1 : Nat) : Int) < ((l.length + 2 : Nat) : Int) := by omega
  have j2 : 0 ≤ ((xs.length + 1 : Nat) : Int) ∧ ((xs.length + 1 : Nat) : Int) < ((xs.length + 2 : Nat) : Int) := by omega
  have hb8 := bv_short (a := l) (b := xs)
  have sb : Short (broadcastV l xs).1 := by unfold Short; omega
  unfold law04_ShapeMeets
  rw [chk_pos (lend0 hl), chk_pos (lend1 hl), chk_pos lend2, chk_pos (lend0 hx), chk_pos (lend1 hx), chk_pos lend2]
  rw [Broadcast_spec sl sx hf hf2 hf9, ob_some, refBroadcast_spec sl sx hf hf2 hf9, ob_some, From_spec sl sx hf hf2 hf9, ob_some, refFrom_spec sl sx hf hf2 hf9, ob_some]
  rw [From_spec sl sb hf (by omega) hf9, ob_some, refFrom_spec sl sb hf (by omega) hf9, ob_some, SameInts_spec sb (by omega), ob_some, if_pos dec_self, if_pos rfl, if_pos rfl, if_pos rfl, if_pos rfl, if_pos rfl]
  rw [lw2 hl, lw2 hx, lw1 hl, lw1 hx, Int.toNat_natCast, Int.toNat_natCast, chk_pos g1, SameInts_spec sl hf, ob_some, if_pos dec_self, chk_pos i1, tail0, ob_some, if_pos rfl, chk_pos j1, tail1, ob_some, if_pos rfl]
  rw [chk_pos g2, SameInts_spec sx hf2, ob_some, if_pos dec_self, chk_pos i2, tail0, ob_some, if_pos rfl, chk_pos j2, tail1, ob_some]
  rfl
end Go.Av
