/- Layer 5: new tensors, sameness, what is written over; TensNews: true. Conditions: those that each names. -/
import Derived.Test.YtoeineoiofjfdaaP13
set_option linter.unusedVariables false
namespace Go.Av
theorem same_loop {α : Type} [DecidableEq α] {a b : List α} (hl : a.length = b.length) {fu : Nat} (hf : a.length < fu) (hs : a.length ≤ 140737488355328) {L : (Int → Option Bool) → Int → Option Bool} {c : Option Bool}
    (hL : ∀ nx i, L nx i = if i < (a.length : Int) then ((at? a i).bind fun x => (at? b i).bind fun y => if x = y then (nx (wk .i64 (i + 1))) else some false) else c) : cloop L fu 0 = if a = b then c else some false := by
  refine (cloop_ind (fun (i : Int) => if a.drop i.toNat = b.drop i.toNat then c else some false) (fun i => 0 ≤ i ∧ i ≤ a.length) (fun i => a.length - i.toNat) ?_ fu 0 (by simp) (by simp; omega)).trans (by simp)
  rintro i ⟨h0, h1⟩ next hn
  obtain ⟨k, rfl⟩ := Int.eq_ofNat_of_zero_le h0
  rw [hL]
  simp only [Int.toNat_natCast]
  by_cases hk : k < a.length
  · have hkb : k < b.length := by omega
    have hd : a.drop k = b.drop k ↔ a[k] = b[k] ∧ a.drop (k + 1) = b.drop (k + 1) := by
      rw [List.drop_eq_getElem_cons hk, List.drop_eq_getElem_cons hkb]; exact List.cons_eq_cons
    rw [if_pos (by omega), at?_get hk, ob_some, at?_get hkb, ob_some, wk_succ (by omega)]
    by_cases he : a[k] = b[k]
    · rw [if_pos he, hn _ (by omega) (by simp; omega)]
      by_cases h2 : a.drop (k + 1) = b.drop (k + 1)
      · rw [if_pos (by simpa using h2), if_pos (hd.2 ⟨he, h2⟩)]
      · rw [if_neg (by simpa using h2), if_neg (fun h => h2 (hd.1 h).2)]
    · rw [if_neg he, if_neg (fun h => he (hd.1 h).1)]
  · rw [if_neg (by omega), if_pos (by rw [List.drop_of_length_le (by omega), List.drop_of_length_le (by omega)])]
/-- a list that is written over, one after the other -/
theorem spoil_loop {α β : Type} {n fu : Nat} (g : α → α) {B : ((List α × Int) → Option β) → (List α × Int) → Option β} {c : List α → Option β} {R : Option β} {l : List α} (hl : l.length = n) (hn : n ≤ 140737488355328) (hf : n < fu)
    (hB : ∀ next s, B next s = if s.2 < (n : Int) then chk (0 ≤ s.2 ∧ s.2 < (n : Int)) ((at? s.1 s.2).bind fun x => chk (0 ≤ s.2 ∧ s.2 < (s.1.length : Int)) (next (s.1.set s.2.toNat (g x), wk .i64 (s.2 + 1)))) else c s.1)
    (hc : ∀ m, m.length = n → c m = R) : cloop B fu (l, 0) = R := by
  refine cloop_ind (fun _ => R) (fun (s : List α × Int) => 0 ≤ s.2 ∧ s.2 ≤ n ∧ s.1.length = n) (fun s => n - s.2.toNat) ?_ fu (l, 0) (by simp [hl]) (by simp; omega)
  rintro ⟨m, i⟩ ⟨h0, h1, h2⟩ next hnx
  simp only at h0 h1 h2 hnx ⊢
  obtain ⟨k, rfl⟩ := Int.eq_ofNat_of_zero_le h0
  rw [hB]
  simp only
  by_cases hk : k < n
  · rw [if_pos (by omega), chk_pos (by omega), at?_get (by omega : k < m.length), ob_some, chk_pos (by omega), wk_succ (by omega)]
    exact hnx _ ⟨by simp only []; omega, by simp only []; omega, by simp [h2]⟩ (by simp; omega)
  · rw [if_neg (by omega)]
    exact hc m h2
/-- are two tensors the same? -/
def sameB (a b : T_Tensor) : Bool := decide (a.fType = b.fType) && decide (a.fDims = b.fDims) && decide (a.fF = b.fF) && decide (a.fI = b.fI) && decide (a.fB = b.fB)
def Small (t : T_Tensor) : Prop := t.fDims.length * 8 ≤ 140737488351232 ∧ t.fF.length ≤ 140737488351232 ∧ t.fI.length ≤ 140737488351232 ∧ t.fB.length ≤ 140737488351232
def Fuel (fu : Nat) (t : T_Tensor) : Prop := t.fDims.length < fu ∧ t.fF.length < fu ∧ t.fI.length < fu ∧ t.fB.length < fu
theorem refSame_spec {fu : Nat} {a b : T_Tensor} (hs : Small a) (hf : Fuel fu a) : ref05_Same fu a b = some (sameB a b) := by
  obtain ⟨s1, s2, s3, s4⟩ := hs
  obtain ⟨f1, f2, f3, f4⟩ := hf
  unfold ref05_Same sameB
  by_cases h1 : a.fType = b.fType
  · rw [if_pos h1, SameInts_spec (by unfold Short; omega) f1, ob_some]
    by_cases h2 : a.fDims = b.fDims
    · rw [if_pos (by simpa using h2)]
      by_cases l3 : a.fF.length = b.fF.length
      · rw [if_pos (by omega)]
        by_cases l4 : a.fI.length = b.fI.length
        · rw [if_pos (by omega)]
          by_cases l5 : a.fB.length = b.fB.length
          · rw [if_pos (by omega)]
            unfold ref05_Same_k1 ref05_Same_W3
            rw [same_loop (L := fun next s => ref05_Same_L3 fu a b next s) (a := a.fF) (b := b.fF) l3 f2 (by omega) (c := ref05_Same_k2 fu a b) (fun nx i => rfl)]
            unfold ref05_Same_k2 ref05_Same_W2
            rw [same_loop (L := fun next s => ref05_Same_L2 fu a b next s) (a := a.fI) (b := b.fI) l4 f3 (by omega) (c := ref05_Same_k3 fu a b) (fun nx i => rfl)]
            unfold ref05_Same_k3 ref05_Same_W1
            rw [same_loop (L := fun next s => ref05_Same_L1 fu a b next s) (a := a.fB) (b := b.fB) l5 f4 (by omega) (c := some true) (fun nx i => by unfold ref05_Same_L1; simp only [beq_iff_eq])]
            by_cases e3 : a.fF = b.fF <;> by_cases e4 : a.fI = b.fI <;> by_cases e5 : a.fB = b.fB <;> simp [h1, h2, e3, e4, e5]
          · rw [if_neg (by omega)]
            have : ¬ a.fB = b.fB := fun h => l5 (by rw [h])
            simp [this]
        · rw [if_neg (by omega)]
          have : ¬ a.fI = b.fI := fun h => l4 (by rw [h])
          simp [this]
      · rw [if_neg (by omega)]
        have : ¬ a.fF = b.fF := fun h => l3 (by rw [h])
        simp [this]
    · rw [if_neg (by simpa using h2)]
      simp [h2]
  · rw [if_neg h1]
    simp [h1]
theorem sameB_self (a : T_Tensor) : sameB a a = true := by simp [sameB]
def noT : T_Tensor := ⟨0, [], [], [], []⟩
def newV (k : Int) (d : List Int) : T_Tensor × Int :=
  if k = 1 ∨ k = 7 ∨ k = 9 then (if Good d then (if k = 1 then (⟨k, d, List.replicate (prod d).toNat 0, [], []⟩, 0) else if k = 7 then (⟨k, d, [], List.replicate (prod d).toNat 0, []⟩, 0) else (⟨k, d, [], [], List.replicate (prod d).toNat false⟩, 0)) else (noT, errS d)) else (noT, 5)
theorem known_spec {fu : Nat} {k : Int} : tens_known fu k = some (decide (k = 1 ∨ k = 7 ∨ k = 9)) := by
  unfold tens_known tens_Width
  by_cases h1 : k = 1
  · simp [h1]
  · by_cases h2 : k = 7
    · simp [h2]
    · by_cases h3 : k = 9 <;> simp [h1, h2, h3]
theorem refKnown_spec {fu : Nat} {k : Int} : ref05_Known fu k = some (decide (k = 1 ∨ k = 7 ∨ k = 9)) := by
  unfold ref05_Known
  by_cases h1 : k = 1
  · simp [h1]
  · by_cases h2 : k = 7
    · simp [h2]
    · by_cases h3 : k = 9 <;> simp [h1, h2, h3]
theorem New_spec {fu : Nat} {k : Int} {d : List Int} (hd : Short d) (hf : d.length < fu) : tens_New fu k d = some (newV k d) := by
  unfold tens_New newV
  rw [known_spec, ob_some, Size_spec hd hf, ob_some]
  by_cases hk : k = 1 ∨ k = 7 ∨ k = 9
  · rw [if_pos (by simpa using hk), if_pos hk]
    simp only [sizeV]
    by_cases hg : Good d
    · simp only [if_pos hg, if_true]
      have h1 := prod_nonneg hg.2.1
      have h2 := hg.2.2
      have h3 := hg.1
      unfold slices_Clone_int
      rw [chk_pos (by omega), ob_some, chk_pos (by omega), chk_pos (by omega), chk_pos (by omega)]
      by_cases e1 : k = 1
      · rw [if_pos e1, if_pos e1]
      · rw [if_neg e1, if_neg e1]
        by_cases e2 : k = 7
        · rw [if_pos e2, if_pos e2]
        · rw [if_neg e2, if_neg e2]
    · simp only [if_neg hg]
      rw [if_neg (errS_ne d)]
      rfl
  · rw [if_neg (by simpa using hk), if_neg hk]
    rfl
theorem refNew_spec {fu : Nat} {k : Int} {d : List Int} (hd : Short d) (hf : d.length < fu) : ref05_New fu k d = some (newV k d) := by
  unfold ref05_New newV
  rw [refKnown_spec, ob_some, refSize_spec hd hf, ob_some]
  by_cases hk : k = 1 ∨ k = 7 ∨ k = 9
  · rw [if_pos (by simpa using hk), if_pos hk]
    simp only [sizeV]
    by_cases hg : Good d
    · simp only [if_pos hg, if_true]
      have h1 := prod_nonneg hg.2.1
      have h2 := hg.2.2
      have h3 := hg.1
      rw [chk_pos (by omega), chk_pos (by omega), chk_pos (by omega), chk_pos (by omega)]
      by_cases e1 : k = 1
      · rw [if_pos e1, if_pos e1]
      · rw [if_neg e1, if_neg e1]
        by_cases e2 : k = 7
        · rw [if_pos e2, if_pos e2]
        · rw [if_neg e2, if_neg e2]
    · simp only [if_neg hg]
      rw [if_neg (errS_ne d)]
      rfl
  · rw [if_neg (by simpa using hk), if_neg hk]
    rfl
theorem newV_small (k : Int) (d : List Int) : (newV k d).1.fDims.length ≤ 8 ∧ (newV k d).1.fF.length ≤ 4096 ∧ (newV k d).1.fI.length ≤ 4096 ∧ (newV k d).1.fB.length ≤ 4096 := by
  unfold newV noT
  split
  · split
    · rename_i hg
      have h2 := hg.2.2
      have h3 := hg.1
      split
      · simp; omega
      · split <;> simp <;> omega
    · simp
  · simp
end Go.Av
