/- Shapes brought together. Conditions: those that each names. -/
import Derived.Test.YtoeineoiofjfdaaP05
set_option linter.unusedVariables false
namespace Go.Av
theorem drop_same {a b : List Int} {i : Nat} (ha : i < a.length) (hb : i < b.length) : a.drop i = b.drop i ↔ a[i] = b[i] ∧ a.drop (i + 1) = b.drop (i + 1) := by
  rw [List.drop_eq_getElem_cons ha, List.drop_eq_getElem_cons hb]
  exact List.cons_eq_cons
theorem Equal_spec {fu : Nat} {a b : List Int} (hl : Short a) (hf : a.length < fu) : slices_Equal_int fu a b = some (decide (a = b)) := by
  unfold slices_Equal_int slices_Equal_int_W1
  by_cases hlen : a.length = b.length
  · rw [if_pos (by omega)]
    refine (cloop_ind (fun (i : Int) => some (decide (a.drop i.toNat = b.drop i.toNat))) (fun i => 0 ≤ i ∧ i ≤ a.length) (fun i => a.length - i.toNat) ?_ fu 0 (by simp) (by simp; omega)).trans (by simp)
    rintro i ⟨h0, h1⟩ next hn
    obtain ⟨k, rfl⟩ := Int.eq_ofNat_of_zero_le h0
    unfold slices_Equal_int_L1
    simp only [Int.toNat_natCast]
    by_cases hk : k < a.length
    · rw [if_pos (by omega), at?_get hk, ob_some, at?_get (by omega : k < b.length), ob_some, wk_succ (by unfold Short at hl; omega)]
      have hd := drop_same hk (by omega : k < b.length)
      by_cases he : a[k] = b[k]
      · rw [if_pos he, hn _ (by omega) (by simp; omega)]
        simp [hd, he]
      · rw [if_neg he]
        simp [hd, he]
    · rw [if_neg (by omega)]
      have e1 : a.drop k = b.drop k := by rw [List.drop_of_length_le (by omega), List.drop_of_length_le (by omega)]
      simp [e1]
  · rw [if_neg (by omega)]
    have : ¬ a = b := fun h => hlen (by rw [h])
    simp [this]
theorem SameInts_spec {fu : Nat} {a b : List Int} (hl : Short a) (hf : a.length < fu) : ref04_SameInts fu a b = some (decide (a = b)) := by
  unfold ref04_SameInts ref04_SameInts_W1
  by_cases hlen : a.length = b.length
  · rw [if_pos (by omega)]
    refine (cloop_ind (fun (i : Int) => some (decide (a.drop i.toNat = b.drop i.toNat))) (fun i => 0 ≤ i ∧ i ≤ a.length) (fun i => a.length - i.toNat) ?_ fu 0 (by simp) (by simp; omega)).trans (by simp)
    rintro i ⟨h0, h1⟩ next hn
    obtain ⟨k, rfl⟩ := Int.eq_ofNat_of_zero_le h0
    unfold ref04_SameInts_L1
    simp only [Int.toNat_natCast]
    by_cases hk : k < a.length
    · rw [if_pos (by omega), at?_get hk, ob_some, at?_get (by omega : k < b.length), ob_some, wk_succ (by unfold Short at hl; omega)]
      have hd := drop_same hk (by omega : k < b.length)
      by_cases he : a[k] = b[k]
      · rw [if_pos he, hn _ (by omega) (by simp; omega)]
        simp [hd, he]
      · rw [if_neg he]
        simp [hd, he]
    · rw [if_neg (by omega)]
      have e1 : a.drop k = b.drop k := by rw [List.drop_of_length_le (by omega), List.drop_of_length_le (by omega)]
      simp [e1]
  · rw [if_neg (by omega)]
    have : ¬ a = b := fun h => hlen (by rw [h])
    simp [this]

/-- dims side by side -/
def zipB : List Int → List Int → Option (List Int)
  | x :: a, d :: b => if x = 1 then (zipB a b).map (d :: ·) else if d = 1 ∨ d = x then (zipB a b).map (x :: ·) else none
  | _, _ => some []
def bc' (a b : List Int) : Option (List Int) := (zipB (a.drop (a.length - b.length)) b).map (a.take (a.length - b.length) ++ ·)
def bc (a b : List Int) : Option (List Int) := if a.length < b.length then bc' b a else bc' a b
def broadcastV (a b : List Int) : List Int × Int :=
  if Good a then (if Good b then (match bc a b with
    | some l => if Good l then (l, 0) else ([], errS l)
    | none => ([], 3)) else ([], errS b)) else ([], errS a)
theorem zipB_length : ∀ {a b r : List Int}, a.length = b.length → zipB a b = some r → r.length = b.length
  | [], [], r, _, h => by simp [zipB] at h; subst h; rfl
  | x :: a, d :: b, r, hl, h => by
    simp only [zipB] at h
    have hl' : a.length = b.length := by simpa using hl
    split at h
    · simp only [Option.map_eq_some_iff] at h
      obtain ⟨q, hq, rfl⟩ := h
      simp [zipB_length hl' hq]
    · split at h
      · simp only [Option.map_eq_some_iff] at h
        obtain ⟨q, hq, rfl⟩ := h
        simp [zipB_length hl' hq]
      · cases h
theorem bc'_length {a b r : List Int} (hl : b.length ≤ a.length) (h : bc' a b = some r) : r.length = a.length := by
  unfold bc' at h
  simp only [Option.map_eq_some_iff] at h
  obtain ⟨q, hq, rfl⟩ := h
  have := zipB_length (by simp; omega) hq
  simp; omega
theorem k3_spec {fu : Nat} {l : List Int} (hl : Short l) (hf : l.length < fu) : shape_Broadcast_k3 fu l = some (if Good l then (l, 0) else ([], errS l)) := by
  unfold shape_Broadcast_k3
  rw [Size_spec hl hf, ob_some]
  simp only [sizeV]
  by_cases hg : Good l
  · simp only [if_pos hg, if_true]
  · simp only [if_neg hg]
    rw [if_neg (errS_ne l)]
theorem BW_spec {fu : Nat} {a b : List Int} (ha : a.length ≤ 8) (hl : b.length ≤ a.length) (hf : 9 < fu) : shape_Broadcast_W1 fu a b a 0 = some (match bc' a b with
    | some l => if Good l then (l, 0) else ([], errS l)
    | none => ([], 3)) := by
  unfold shape_Broadcast_W1
  have key : ∀ l : List Int, l.length = a.length → shape_Broadcast_k3 fu l = some (if Good l then (l, 0) else ([], errS l)) := fun l h => k3_spec (by unfold Short; omega) (by omega)
  have hah : wk .i64 ((a.length : Int) - (b.length : Int)) = ((a.length - b.length : Nat) : Int) := by rw [wk_eq (by omega) (by omega)]; omega
  generalize hA : a.length - b.length = A at hah
  refine (cloop_ind (fun (s : List Int × Int) => some (match (zipB (s.1.drop (A + s.2.toNat)) (b.drop s.2.toNat)).map (s.1.take (A + s.2.toNat) ++ ·) with
    | some l => if Good l then (l, 0) else ([], errS l)
    | none => ([], 3))) (fun s => 0 ≤ s.2 ∧ s.2 ≤ b.length ∧ s.1.length = a.length) (fun s => b.length - s.2.toNat) ?_ fu (a, 0) ⟨by simp, by simp, rfl⟩ (by simp; omega)).trans (by simp [bc', hA])
  rintro ⟨o, i⟩ ⟨h0, h1, h2⟩ next hn
  simp only at h0 h1 h2 hn ⊢
  obtain ⟨k, rfl⟩ := Int.eq_ofNat_of_zero_le h0
  unfold shape_Broadcast_L1
  simp only [Int.toNat_natCast, hah]
  have hidx : wk .i64 ((A : Int) + (k : Int)) = ((A + k : Nat) : Int) := by rw [wk_eq (by omega) (by omega)]; omega
  by_cases hk : k < b.length
  · have hko : A + k < o.length := by omega
    rw [if_pos (by omega), at?_get hk, ob_some, hidx, at?_get hko, ob_some, wk_succ (by omega), Int.toNat_natCast]
    rw [List.drop_eq_getElem_cons hko, List.drop_eq_getElem_cons hk]
    simp only [zipB]
    have hnext : ∀ o' : List Int, o'.length = a.length → next (o', ((k + 1 : Nat) : Int)) = _ := fun o' ho' => hn (o', ((k + 1 : Nat) : Int)) ⟨by simp only []; omega, by simp only []; omega, ho'⟩ (by simp; omega)
    simp only [Int.toNat_natCast] at hnext
    by_cases h3 : o[A + k] = 1
    · rw [if_pos h3, if_pos h3, chk_pos (by omega), hnext _ (by simp [h2])]
      have e1 : (o.set (A + k) b[k]).drop (A + (k + 1)) = o.drop (A + k + 1) := by
        rw [List.drop_set_of_lt (by omega)]; rfl
      have e2 : (o.set (A + k) b[k]).take (A + (k + 1)) = o.take (A + k) ++ [b[k]] := by
        rw [← Nat.add_assoc, List.take_succ_eq_append_getElem (by simp; omega), List.take_set, List.set_eq_of_length_le (by simp; omega)]
        simp
      rw [e1, e2]
      cases zipB (o.drop (A + k + 1)) (b.drop (k + 1)) <;> simp
    · rw [if_neg h3, if_neg h3]
      have e2 : o.take (A + (k + 1)) = o.take (A + k) ++ [o[A + k]] := by
        rw [← Nat.add_assoc, List.take_succ_eq_append_getElem hko]
      by_cases h4 : b[k] = 1
      · rw [if_pos h4, if_pos (.inl h4), hnext _ h2, e2]
        cases zipB (o.drop (A + k + 1)) (b.drop (k + 1)) with
        | none => rfl
        | some r => simp only [Option.map_some, List.append_assoc, List.cons_append, List.nil_append]
      · rw [if_neg h4]
        by_cases h5 : b[k] = o[A + k]
        · rw [if_pos h5, if_pos (.inr h5), hnext _ h2, e2]
          cases zipB (o.drop (A + k + 1)) (b.drop (k + 1)) with
          | none => rfl
          | some r => simp only [Option.map_some, List.append_assoc, List.cons_append, List.nil_append]
        · rw [if_neg h5, if_neg (fun h => h.elim h4 h5)]
          rfl
  · rw [if_neg (by omega), key o h2, List.drop_of_length_le (by omega), List.drop_of_length_le (by omega), List.take_of_length_le (by omega)]
    simp [zipB]
theorem Clone_spec {fu : Nat} {l : List Int} (h : l.length * 8 ≤ 140737488355328) : slices_Clone_int fu l = some l := by
  unfold slices_Clone_int
  rw [chk_pos (by omega)]
theorem Broadcast_spec {fu : Nat} {a b : List Int} (ha : Short a) (hb : Short b) (hfa : a.length < fu) (hfb : b.length < fu) (hf : 9 < fu) : shape_Broadcast fu a b = some (broadcastV a b) := by
  unfold shape_Broadcast shape_Broadcast_W2
  have hk1 : Good a → Good b → ∀ z, shape_Broadcast_k1 fu a b z = some (broadcastV a b) := by
    intro ga gb z
    unfold shape_Broadcast_k1 shape_Broadcast_k2
    simp only [broadcastV, if_pos ga, if_pos gb, bc]
    by_cases hlt : a.length < b.length
    · rw [if_pos (by omega), if_pos hlt, Clone_spec (good_short gb), ob_some, BW_spec gb.1 (by omega) hf]
    · rw [if_neg (by omega), if_neg hlt, Clone_spec (good_short ga), ob_some, BW_spec ga.1 (by omega) hf]
  obtain ⟨f, rfl⟩ : ∃ f, fu = f + 3 := ⟨fu - 3, by omega⟩
  have h0 : at? [a, b] (0 : Int) = some a := rfl
  have h1 : at? [a, b] (1 : Int) = some b := rfl
  have w0 : wk .i64 ((0 : Int) + 1) = 1 := by decide
  have w1 : wk .i64 ((1 : Int) + 1) = 2 := by decide
  unfold cloop shape_Broadcast_L2
  simp only
  rw [if_pos (by decide), h0, ob_some, Size_spec ha hfa, ob_some]
  simp only [sizeV]
  by_cases ga : Good a
  · simp only [if_pos ga, if_true, w0]
    unfold cloop
    simp only
    rw [if_pos (by decide), h1, ob_some, Size_spec hb hfb, ob_some]
    simp only [sizeV]
    by_cases gb : Good b
    · simp only [if_pos gb, if_true, w1]
      unfold cloop
      simp only
      rw [if_neg (by decide), hk1 ga gb]
    · simp only [if_neg gb]
      rw [if_neg (errS_ne b)]
      simp [broadcastV, ga, gb]
  · simp only [if_neg ga]
    rw [if_neg (errS_ne a)]
    simp [broadcastV, ga]
end Go.Av
