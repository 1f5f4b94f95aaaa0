/- Layer 5: whether a tensor may be, picked elements, lists of whole numbers; TensPicks: true. Conditions: those that each names. -/
import Derived.Test.YtoeineoiofjfdaaP20
import Derived.Test.YtoeineoiofjfdaaQA
set_option linter.unusedVariables false
namespace Go.Av
def Known (k : Int) : Prop := k = 1 ∨ k = 7 ∨ k = 9
instance (k : Int) : Decidable (Known k) := by unfold Known; infer_instance
def LensOK (t : T_Tensor) : Prop := (t.fF.length : Int) = (if t.fType = 1 then prod t.fDims else 0) ∧ (t.fI.length : Int) = (if t.fType = 7 then prod t.fDims else 0) ∧ (t.fB.length : Int) = (if t.fType = 9 then prod t.fDims else 0)
instance (t : T_Tensor) : Decidable (LensOK t) := by unfold LensOK; infer_instance
def checkV (t : T_Tensor) : Int := if Known t.fType then (if Good t.fDims then (if LensOK t then 0 else 3) else errS t.fDims) else 5
theorem small_of {t : T_Tensor} (h : Q_42 t) : Small t := by
  obtain ⟨_, h1, h2, h3, h4, _⟩ := h
  exact ⟨h1.1, by have := h2.1; omega, by have := h3.1; omega, by have := h4.1; omega⟩
theorem Check_spec {fu : Nat} {t : T_Tensor} (hs : Small t) (hf : Fuel fu t) : tens_Check fu t = some (checkV t) := by
  obtain ⟨s1, s2, s3, s4⟩ := hs
  unfold tens_Check checkV
  rw [known_spec, ob_some, Size_spec (by unfold Short; omega) hf.1]
  by_cases hk : Known t.fType
  · rw [if_pos (by simpa [Known] using hk), ob_some, if_pos hk]
    simp only [sizeV]
    by_cases hg : Good t.fDims
    · simp only [if_pos hg, if_true]
      have hp := prod_nonneg hg.2.1
      have hsum : wk .i64 ((wk .i64 ((t.fF.length : Int) + (t.fI.length : Int))) + (t.fB.length : Int)) = t.fF.length + t.fI.length + t.fB.length := by
        rw [wk_add_l, wk_eq (by omega) (by omega)]
      unfold tens_Check_k1 LensOK
      simp only [hsum]
      rcases hk with e | e | e
      · simp only [e, show ¬ (1 : Int) = 7 by decide, show ¬ (1 : Int) = 9 by decide, if_false, if_true]
        by_cases h1 : (t.fF.length : Int) = prod t.fDims
        · by_cases h2 : (t.fF.length : Int) + t.fI.length + t.fB.length = prod t.fDims
          · rw [if_pos h1, if_pos h2, if_pos ⟨h1, by omega, by omega⟩]
          · rw [if_pos h1, if_neg h2, if_neg (fun h => h2 (by omega))]
        · rw [if_neg h1, if_neg (fun h => h1 h.1)]
      · simp only [e, show ¬ (7 : Int) = 1 by decide, show ¬ (7 : Int) = 9 by decide, if_false, if_true]
        by_cases h1 : (t.fI.length : Int) = prod t.fDims
        · by_cases h2 : (t.fF.length : Int) + t.fI.length + t.fB.length = prod t.fDims
          · rw [if_pos h1, if_pos h2, if_pos ⟨by omega, h1, by omega⟩]
          · rw [if_pos h1, if_neg h2, if_neg (fun h => h2 (by omega))]
        · rw [if_neg h1, if_neg (fun h => h1 h.2.1)]
      · simp only [e, show ¬ (9 : Int) = 1 by decide, show ¬ (9 : Int) = 7 by decide, if_false, if_true]
        by_cases h1 : (t.fB.length : Int) = prod t.fDims
        · by_cases h2 : (t.fF.length : Int) + t.fI.length + t.fB.length = prod t.fDims
          · rw [if_pos h1, if_pos h2, if_pos ⟨by omega, by omega, h1⟩]
          · rw [if_pos h1, if_neg h2, if_neg (fun h => h2 (by omega))]
        · rw [if_neg h1, if_neg (fun h => h1 h.2.2)]
    · simp only [if_neg hg]
      rw [if_neg (errS_ne _)]
  · rw [if_neg (by simpa [Known] using hk), if_neg hk]
theorem refCheck_spec {fu : Nat} {t : T_Tensor} (hs : Small t) (hf : Fuel fu t) : ref05_Check fu t = some (checkV t) := by
  obtain ⟨s1, s2, s3, s4⟩ := hs
  unfold ref05_Check checkV
  rw [refKnown_spec, ob_some, refSize_spec (by unfold Short; omega) hf.1]
  by_cases hk : Known t.fType
  · rw [if_pos (by simpa [Known] using hk), ob_some, if_pos hk]
    simp only [sizeV]
    by_cases hg : Good t.fDims
    · simp only [if_pos hg, if_true]
      unfold ref05_Check_k1 LensOK
      have key : ∀ a b c : Int, (if (t.fF.length : Int) = a then (if (t.fI.length : Int) = b then (if (t.fB.length : Int) = c then (some 0 : Option Int) else some 3) else some 3) else some 3) = some (if (t.fF.length : Int) = a ∧ (t.fI.length : Int) = b ∧ (t.fB.length : Int) = c then 0 else 3) := fun a b c => by
        by_cases h1 : (t.fF.length : Int) = a <;> by_cases h2 : (t.fI.length : Int) = b <;> by_cases h3 : (t.fB.length : Int) = c <;> simp [h1, h2, h3]
      rcases hk with e | e | e
      · simp only [e, show ¬ (1 : Int) = 7 by decide, show ¬ (1 : Int) = 9 by decide, if_false, if_true, key]
      · simp only [e, show ¬ (7 : Int) = 1 by decide, show ¬ (7 : Int) = 9 by decide, if_false, if_true, key]
      · simp only [e, show ¬ (9 : Int) = 1 by decide, show ¬ (9 : Int) = 7 by decide, if_false, if_true, key]
    · simp only [if_neg hg]
      rw [if_neg (errS_ne _)]
  · rw [if_neg (by simpa [Known] using hk), if_neg hk]
theorem checkV_zero {t : T_Tensor} : checkV t = 0 ↔ Known t.fType ∧ Good t.fDims ∧ LensOK t := by
  unfold checkV
  by_cases hk : Known t.fType <;> by_cases hg : Good t.fDims <;> by_cases hl : LensOK t <;> simp [hk, hg, hl, errS_ne]

/-- elements that are written one by one into a new row -/
theorem pick_loop {σ α β : Type} (st : List α → Nat → σ) {B : (σ → Option β) → σ → Option β} {at_ : List Int} (bad : Int → Bool) (pk : Int → α) (z : α) {e : Option β} {c : List α → Option β}
    (hB : ∀ (next : σ → Option β) (k : Nat) (m : List α) (hk : k < at_.length), m.length = at_.length → B next (st m k) = if bad at_[k] = true then e else next (st (if 0 ≤ at_[k] then m.set k (pk at_[k]) else m) (k + 1)))
    (hE : ∀ (next : σ → Option β) (m : List α), m.length = at_.length → B next (st m at_.length) = c m) (hz : ∀ a, ¬ 0 ≤ a → pk a = z) {fu : Nat} (hf : at_.length < fu) :
    cloop B fu (st (List.replicate at_.length z) 0) = if at_.any bad = true then e else c (at_.map pk) := by
  have key : ∀ (f k : Nat), k ≤ at_.length → at_.length - k < f → cloop B f (st ((at_.take k).map pk ++ List.replicate (at_.length - k) z) k) = if (at_.drop k).any bad = true then e else c (at_.map pk) := by
    intro f
    induction f with
    | zero => intro k _ h; omega
    | succ f ih =>
      intro k hk hf
      by_cases hkn : k = at_.length
      · subst hkn
        show B _ _ = _
        have := hE (cloop B f) ((at_.take at_.length).map pk ++ List.replicate (at_.length - at_.length) z) (by simp)
        rw [this]
        simp
      · have hk' : k < at_.length := by omega
        show B _ _ = _
        rw [hB _ _ _ hk' (by simp; omega), List.drop_eq_getElem_cons hk', List.any_cons]
        by_cases hb : bad at_[k] = true
        · simp [hb]
        · rw [if_neg hb]
          have hm : (if 0 ≤ at_[k] then ((at_.take k).map pk ++ List.replicate (at_.length - k) z).set k (pk at_[k]) else (at_.take k).map pk ++ List.replicate (at_.length - k) z) = (at_.take (k + 1)).map pk ++ List.replicate (at_.length - (k + 1)) z := by
            have hr : List.replicate (at_.length - k) z = z :: List.replicate (at_.length - (k + 1)) z := by rw [show at_.length - k = at_.length - (k + 1) + 1 by omega, List.replicate_succ]
            have ht : at_.take (k + 1) = at_.take k ++ [at_[k]] := by rw [List.take_add_one, List.getElem?_eq_getElem hk']; rfl
            have hlen : ((at_.take k).map pk).length = k := by simp; omega
            rw [hr, ht, List.map_append, List.append_assoc]
            split
            · rw [List.set_append_right _ _ (by omega), hlen, Nat.sub_self]
              rfl
            · rename_i h0
              rw [List.map_singleton, hz _ h0]
              rfl
          rw [hm, ih (k + 1) (by omega) (by omega)]
          simp [hb]
  have := key fu 0 (by omega) (by omega)
  simpa using this
def badP (N : Int) (x : Int) : Bool := decide (x < -1) || decide (N ≤ x)
def pkOf {α : Type} (src : List α) (z : α) (a : Int) : α := if 0 ≤ a then src.getD a.toNat z else z
def pickV (t : T_Tensor) (d l : List Int) : T_Tensor × Int :=
  if checkV t = 0 then (if (newV t.fType d).2 = 0 then (if (l.length : Int) = prod d then (if l.any (badP (t.fF.length + t.fI.length + t.fB.length)) = true then (noT, 2) else
    (if t.fType = 1 then ⟨t.fType, d, l.map (pkOf t.fF 0), [], []⟩ else if t.fType = 7 then ⟨t.fType, d, [], l.map (pkOf t.fI 0), []⟩ else ⟨t.fType, d, [], [], l.map (pkOf t.fB false)⟩, 0)) else (noT, 3)) else (noT, (newV t.fType d).2)) else (noT, checkV t)
theorem at?_pk {α : Type} {src : List α} {z : α} {a : Int} (h0 : 0 ≤ a) (h : a < src.length) : at? src a = some (pkOf src z a) := by
  obtain ⟨k, rfl⟩ := Int.eq_ofNat_of_zero_le h0
  rw [at?_get (by omega), pkOf, if_pos h0, List.getD_eq_getElem?_getD, Int.toNat_natCast, List.getElem?_eq_getElem (by omega)]
  rfl
theorem pkOf_neg {α : Type} {src : List α} {z : α} {a : Int} (h : ¬ 0 ≤ a) : pkOf src z a = z := if_neg h
theorem newV_ok {k : Int} {d : List Int} (h : (newV k d).2 = 0) : Known k ∧ Good d ∧ newV k d = (if k = 1 then (⟨k, d, List.replicate (prod d).toNat 0, [], []⟩, 0) else if k = 7 then (⟨k, d, [], List.replicate (prod d).toNat 0, []⟩, 0) else (⟨k, d, [], [], List.replicate (prod d).toNat false⟩, 0)) := by
  unfold newV at h ⊢
  by_cases hk : k = 1 ∨ k = 7 ∨ k = 9
  · rw [if_pos hk] at h ⊢
    by_cases hg : Good d
    · rw [if_pos hg]
      exact ⟨hk, hg, rfl⟩
    · rw [if_neg hg] at h
      exact absurd h (errS_ne d)
  · rw [if_neg hk] at h
    cases h
theorem pred_spec {fu : Nat} {N x : Int} : tens_Pick_1 fu x N = some (badP N x) := by
  unfold tens_Pick_1 badP
  by_cases h : x < -1
  · rw [if_pos h]; simp [h]
  · rw [if_neg h]; simp [h]
theorem sumW {a b c : Nat} (h1 : a ≤ 140737488355328) (h2 : b ≤ 140737488355328) (h3 : c ≤ 140737488355328) : wk .i64 ((wk .i64 ((a : Int) + (b : Int))) + (c : Int)) = (a : Int) + b + c := by
  rw [wk_add_l, wk_eq (by omega) (by omega)]
theorem notbad {N : Int} {l : List Int} (h : ¬ l.any (badP N) = true) {k : Nat} (hk : k < l.length) : -1 ≤ l[k] ∧ l[k] < N := by
  have := h
  simp only [List.any_eq_true, not_exists, not_and, badP, Bool.or_eq_true, decide_eq_true_eq] at this
  have := this _ (List.getElem_mem hk)
  omega
theorem Pick_spec {fu : Nat} {t : T_Tensor} {d l : List Int} (hs : Small t) (hf : Fuel fu t) (hd : Short d) (hfd : d.length < fu) (hl : Short l) (hfl : l.length < fu) : tens_Pick fu t d l = some (pickV t d l) := by
  unfold tens_Pick pickV
  rw [Check_spec hs hf, ob_some]
  by_cases hc : checkV t = 0
  · rw [if_pos hc, if_pos hc, New_spec hd hfd, ob_some]
    obtain ⟨_, hg0, hlen⟩ := checkV_zero.1 hc
    obtain ⟨s1, s2, s3, s4⟩ := hs
    by_cases hn : (newV t.fType d).2 = 0
    · obtain ⟨hk, hg, e⟩ := newV_ok hn
      rw [if_pos hn, if_pos hn]
      rw [sumW (a := t.fF.length) (by omega) (by omega) (by omega)]
      have hpn := prod_nonneg hg.2.1
      have hp4 := hg.2.2
      have hcf : slices_ContainsFunc_int fu l (fun y0 => tens_Pick_1 fu y0 ((t.fF.length : Int) + t.fI.length + t.fB.length)) = some (l.any (badP (t.fF.length + t.fI.length + t.fB.length))) := ContainsFunc_spec (fun x => pred_spec) hl hfl
      unfold Short at hl
      rw [hcf]
      rcases hk with e1 | e1 | e1
      · obtain ⟨l1, l2, l3⟩ := hlen
        rw [e1] at e
        simp only [if_true] at e
        simp only [e1, e, if_true, List.length_replicate, List.length_nil] at l1 l2 l3 ⊢
        simp only [show ¬ (1 : Int) = 7 by decide, show ¬ (1 : Int) = 9 by decide, if_false] at l2 l3
        rw [sumW (by omega) (by omega) (by omega)]
        by_cases hll : (l.length : Int) = prod d
        · rw [if_pos (by omega), if_pos hll, ob_some]
          by_cases hb : l.any (badP (t.fF.length + t.fI.length + t.fB.length)) = true
          · rw [if_pos hb, if_pos hb]; rfl
          · rw [if_neg hb, if_neg hb]
            have hnl : (prod d).toNat = l.length := by omega
            rw [hnl]
            have fin : ∀ m : List Int, m.length = l.length → tens_Pick_c1 fu t l (⟨1, d, List.replicate l.length 0, [], []⟩, 0) m = some (⟨1, d, m, [], []⟩, 0) := fun m hm => by
              simp [tens_Pick_c1, tens_Pick_c2, tens_Pick_c3, chk, hm]
            by_cases h0 : l = []
            · subst h0
              exact (if_pos rfl).trans (fin [] rfl)
            · have hpos : 0 < l.length := List.length_pos_iff.2 h0
              rw [if_neg (by omega)]
              unfold tens_Pick_W3
              refine (pick_loop (fun (m : List Int) (k : Nat) => (m, (k : Int))) (fun _ => false) (pkOf t.fF 0) 0 (e := none) (c := fun m => some (⟨1, d, m, [], []⟩, 0)) ?_ ?_ (fun a => pkOf_neg) hfl).trans (by simp)
              · intro next k m hk hm
                have hnb := notbad hb hk
                unfold tens_Pick_L3
                simp only [Int.toNat_natCast, List.length_replicate]
                rw [if_pos (by omega), at?_get hk, ob_some, wk_succ (by omega), if_neg (show ¬ (false = true) by decide)]
                by_cases ha : 0 ≤ l[k]
                · rw [if_pos ha, if_pos ha, at?_pk (z := 0) ha (by omega), ob_some, chk_pos (by omega), chk_pos (by omega)]
                · rw [if_neg ha, if_neg ha]
              · intro next m hm
                unfold tens_Pick_L3
                rw [if_neg (by simp)]
                exact fin m hm
        · rw [if_neg (by omega), if_neg hll]; rfl
      · obtain ⟨l1, l2, l3⟩ := hlen
        rw [e1] at e
        simp only [show ¬ (7 : Int) = 1 by decide, if_false, if_true] at e
        simp only [e1, e, if_true, List.length_replicate, List.length_nil, show ¬ (7 : Int) = 1 by decide, show ¬ (7 : Int) = 9 by decide, if_false] at l1 l2 l3 ⊢
        rw [sumW (by omega) (by omega) (by omega)]
        by_cases hll : (l.length : Int) = prod d
        · rw [if_pos (by omega), if_pos hll, ob_some]
          by_cases hb : l.any (badP (t.fF.length + t.fI.length + t.fB.length)) = true
          · rw [if_pos hb, if_pos hb]; rfl
          · rw [if_neg hb, if_neg hb]
            have hnl : (prod d).toNat = l.length := by omega
            rw [hnl]
            have fin : ∀ m : List Int, m.length = l.length → tens_Pick_c2 fu t l (⟨7, d, [], List.replicate l.length 0, []⟩, 0) [] m = some (⟨7, d, [], m, []⟩, 0) := fun m hm => by
              simp [tens_Pick_c2, tens_Pick_c3, chk, hm]
            rw [if_pos (by simp)]
            unfold tens_Pick_c1
            rw [chk_pos (by simp)]
            simp only [List.length_replicate]
            by_cases h0 : l = []
            · subst h0
              exact (if_pos rfl).trans (fin [] rfl)
            · have hpos : 0 < l.length := List.length_pos_iff.2 h0
              rw [if_neg (by omega)]
              unfold tens_Pick_W2
              refine (pick_loop (fun (m : List Int) (k : Nat) => (m, (k : Int))) (fun _ => false) (pkOf t.fI 0) 0 (e := none) (c := fun m => some (⟨7, d, [], m, []⟩, 0)) ?_ ?_ (fun a => pkOf_neg) hfl).trans (by simp)
              · intro next k m hk hm
                have hnb := notbad hb hk
                unfold tens_Pick_L2
                simp only [Int.toNat_natCast, List.length_replicate]
                rw [if_pos (by omega), at?_get hk, ob_some, wk_succ (by omega), if_neg (show ¬ (false = true) by decide)]
                by_cases ha : 0 ≤ l[k]
                · rw [if_pos ha, if_pos ha, at?_pk (z := 0) ha (by omega), ob_some, chk_pos (by omega), chk_pos (by omega)]
                · rw [if_neg ha, if_neg ha]
              · intro next m hm
                unfold tens_Pick_L2
                rw [if_neg (by simp)]
                exact fin m hm
        · rw [if_neg (by omega), if_neg hll]; rfl
      · obtain ⟨l1, l2, l3⟩ := hlen
        rw [e1] at e
        simp only [show ¬ (9 : Int) = 1 by decide, show ¬ (9 : Int) = 7 by decide, if_false] at e
        simp only [e1, e, if_true, List.length_replicate, List.length_nil, show ¬ (9 : Int) = 1 by decide, show ¬ (9 : Int) = 7 by decide, if_false] at l1 l2 l3 ⊢
        rw [sumW (by omega) (by omega) (by omega)]
        by_cases hll : (l.length : Int) = prod d
        · rw [if_pos (by omega), if_pos hll, ob_some]
          by_cases hb : l.any (badP (t.fF.length + t.fI.length + t.fB.length)) = true
          · rw [if_pos hb, if_pos hb]; rfl
          · rw [if_neg hb, if_neg hb]
            have hnl : (prod d).toNat = l.length := by omega
            rw [hnl]
            have fin : ∀ m : List Bool, m.length = l.length → tens_Pick_c3 fu (⟨9, d, [], [], List.replicate l.length false⟩, 0) [] [] m = some (⟨9, d, [], [], m⟩, 0) := fun m hm => by
              simp [tens_Pick_c3, chk, hm]
            rw [if_pos (by simp)]
            unfold tens_Pick_c1
            rw [chk_pos (by simp), if_pos (by simp)]
            unfold tens_Pick_c2
            rw [chk_pos (by simp)]
            simp only [List.length_replicate]
            by_cases h0 : l = []
            · subst h0
              exact (if_pos rfl).trans (fin [] rfl)
            · have hpos : 0 < l.length := List.length_pos_iff.2 h0
              rw [if_neg (by omega)]
              unfold tens_Pick_W1
              refine (pick_loop (fun (m : List Bool) (k : Nat) => (m, (k : Int))) (fun _ => false) (pkOf t.fB false) false (e := none) (c := fun m => some (⟨9, d, [], [], m⟩, 0)) ?_ ?_ (fun a => pkOf_neg) hfl).trans (by simp)
              · intro next k m hk hm
                have hnb := notbad hb hk
                unfold tens_Pick_L1
                simp only [Int.toNat_natCast, List.length_replicate]
                rw [if_pos (by omega), at?_get hk, ob_some, wk_succ (by omega), if_neg (show ¬ (false = true) by decide)]
                by_cases ha : 0 ≤ l[k]
                · rw [if_pos ha, if_pos ha, at?_pk (z := false) ha (by omega), ob_some, chk_pos (by omega), chk_pos (by omega)]
                · rw [if_neg ha, if_neg ha]
              · intro next m hm
                unfold tens_Pick_L1
                rw [if_neg (by simp)]
                exact fin m hm
        · rw [if_neg (by omega), if_neg hll]; rfl
    · rw [if_neg hn, if_neg hn]; rfl
  · rw [if_neg hc, if_neg hc]; rfl
end Go.Av
