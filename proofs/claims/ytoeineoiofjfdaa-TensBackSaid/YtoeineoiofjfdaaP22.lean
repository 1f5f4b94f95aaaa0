/- Layer 5: TensPicks: true. Conditions: those that each names. -/
import Derived.Test.YtoeineoiofjfdaaP21
set_option linter.unusedVariables false
namespace Go.Av
theorem refPick_spec {fu : Nat} {t : T_Tensor} {d l : List Int} (hs : Small t) (hf : Fuel fu t) (hd : Short d) (hfd : d.length < fu) (hl : Short l) (hfl : l.length < fu) : ref05_Pick fu t d l = some (pickV t d l) := by
  unfold ref05_Pick pickV
  rw [refCheck_spec hs hf, ob_some]
  by_cases hc : checkV t = 0
  · rw [if_pos hc, if_pos hc, refNew_spec hd hfd, ob_some]
    obtain ⟨_, hg0, hlen⟩ := checkV_zero.1 hc
    obtain ⟨s1, s2, s3, s4⟩ := hs
    by_cases hn : (newV t.fType d).2 = 0
    · obtain ⟨hk, hg, e⟩ := newV_ok hn
      rw [if_pos hn, if_pos hn, refSize_spec hd hfd, ob_some]
      have hpn := prod_nonneg hg.2.1
      have hp4 := hg.2.2
      unfold Short at hl
      simp only [sizeV, if_pos hg]
      by_cases hll : (l.length : Int) = prod d
      · rw [if_pos hll, if_pos hll]
        have hnl : (prod d).toNat = l.length := by omega
        have hN : wk .i64 ((wk .i64 ((t.fF.length : Int) + (t.fI.length : Int))) + (t.fB.length : Int)) = t.fF.length + t.fI.length + t.fB.length := sumW (by omega) (by omega) (by omega)
        obtain ⟨l1, l2, l3⟩ := hlen
        have hbad : ∀ {k : Nat} (hk : k < l.length) {R : Option (T_Tensor × Int)}, (if l[k] < -1 then some (noT, (2 : Int)) else if (t.fF.length : Int) + t.fI.length + t.fB.length ≤ l[k] then some (noT, 2) else R) = if badP (t.fF.length + t.fI.length + t.fB.length) l[k] = true then some (noT, 2) else R := fun {k} hk {R} => by
          unfold badP
          by_cases h1 : l[k] < -1
          · simp [h1]
          · by_cases h2 : (t.fF.length : Int) + t.fI.length + t.fB.length ≤ l[k] <;> simp [h1, h2]
        have hwrap : ∀ {a b : T_Tensor × Int}, (if (l.any (badP (t.fF.length + t.fI.length + t.fB.length)) = true) then (some a) else some b) = some (if (l.any (badP (t.fF.length + t.fI.length + t.fB.length)) = true) then a else b) := fun {a b} => by split <;> rfl
        rcases hk with e1 | e1 | e1
        · rw [e1] at e
          simp only [if_true] at e
          simp only [e1, e, if_true, show ¬ (1 : Int) = 7 by decide, show ¬ (1 : Int) = 9 by decide, if_false, hnl] at l1 l2 l3 ⊢
          unfold ref05_Pick_W1
          refine (pick_loop (fun (m : List Int) (k : Nat) => (m, ([] : List Int), ([] : List Bool), (k : Int))) (badP (t.fF.length + t.fI.length + t.fB.length)) (pkOf t.fF 0) 0 (e := some (noT, 2)) (c := fun m => some (⟨1, d, m, [], []⟩, 0)) ?_ ?_ (fun a => pkOf_neg) hfl).trans hwrap
          · intro next k m hk hm
            unfold ref05_Pick_L1
            simp only []
            rw [hN, if_pos (by omega), at?_get hk, ob_some]
            refine Eq.trans (hbad hk) ?_
            by_cases hb : badP (t.fF.length + t.fI.length + t.fB.length) l[k] = true
            · rw [if_pos hb, if_pos hb]
            · rw [if_neg hb, if_neg hb]
              unfold ref05_Pick_k1 ref05_Pick_c2
              have hnb : -1 ≤ l[k] ∧ l[k] < (t.fF.length : Int) + t.fI.length + t.fB.length := by
                simp only [badP, Bool.or_eq_true, decide_eq_true_eq] at hb; omega
              simp only [Int.toNat_natCast]
              rw [at?_get hk, ob_some, wk_succ (by omega)]
              by_cases ha : 0 ≤ l[k]
              · rw [if_pos ha, if_pos ha, if_pos trivial, at?_pk (z := 0) ha (by omega), ob_some, chk_pos (by omega), chk_pos (by simp), chk_pos trivial, chk_pos trivial]
              · rw [if_neg ha, if_neg ha]
          · intro next m hm
            unfold ref05_Pick_L1
            rw [if_neg (by simp only []; omega)]
        · rw [e1] at e
          simp only [show ¬ (7 : Int) = 1 by decide, if_false, if_true] at e
          simp only [e1, e, if_true, show ¬ (7 : Int) = 1 by decide, show ¬ (7 : Int) = 9 by decide, if_false, hnl] at l1 l2 l3 ⊢
          unfold ref05_Pick_W1
          refine (pick_loop (fun (m : List Int) (k : Nat) => (([] : List Int), m, ([] : List Bool), (k : Int))) (badP (t.fF.length + t.fI.length + t.fB.length)) (pkOf t.fI 0) 0 (e := some (noT, 2)) (c := fun m => some (⟨7, d, [], m, []⟩, 0)) ?_ ?_ (fun a => pkOf_neg) hfl).trans hwrap
          · intro next k m hk hm
            unfold ref05_Pick_L1
            simp only []
            rw [hN, if_pos (by omega), at?_get hk, ob_some]
            refine Eq.trans (hbad hk) ?_
            by_cases hb : badP (t.fF.length + t.fI.length + t.fB.length) l[k] = true
            · rw [if_pos hb, if_pos hb]
            · rw [if_neg hb, if_neg hb]
              unfold ref05_Pick_k1 ref05_Pick_c2
              have hnb : -1 ≤ l[k] ∧ l[k] < (t.fF.length : Int) + t.fI.length + t.fB.length := by
                simp only [badP, Bool.or_eq_true, decide_eq_true_eq] at hb; omega
              simp only [Int.toNat_natCast]
              rw [at?_get hk, ob_some, wk_succ (by omega)]
              by_cases ha : 0 ≤ l[k]
              · rw [if_pos ha, if_pos ha, if_neg (by decide), if_pos trivial, at?_pk (z := 0) ha (by omega), ob_some, chk_pos (by omega), chk_pos trivial, chk_pos (by simp), chk_pos trivial]
              · rw [if_neg ha, if_neg ha]
          · intro next m hm
            unfold ref05_Pick_L1
            rw [if_neg (by simp only []; omega)]
        · rw [e1] at e
          simp only [show ¬ (9 : Int) = 1 by decide, show ¬ (9 : Int) = 7 by decide, if_false] at e
          simp only [e1, e, if_true, show ¬ (9 : Int) = 1 by decide, show ¬ (9 : Int) = 7 by decide, if_false, hnl] at l1 l2 l3 ⊢
          unfold ref05_Pick_W1
          refine (pick_loop (fun (m : List Bool) (k : Nat) => (([] : List Int), ([] : List Int), m, (k : Int))) (badP (t.fF.length + t.fI.length + t.fB.length)) (pkOf t.fB false) false (e := some (noT, 2)) (c := fun m => some (⟨9, d, [], [], m⟩, 0)) ?_ ?_ (fun a => pkOf_neg) hfl).trans hwrap
          · intro next k m hk hm
            unfold ref05_Pick_L1
            simp only []
            rw [hN, if_pos (by omega), at?_get hk, ob_some]
            refine Eq.trans (hbad hk) ?_
            by_cases hb : badP (t.fF.length + t.fI.length + t.fB.length) l[k] = true
            · rw [if_pos hb, if_pos hb]
            · rw [if_neg hb, if_neg hb]
              unfold ref05_Pick_k1 ref05_Pick_c2
              have hnb : -1 ≤ l[k] ∧ l[k] < (t.fF.length : Int) + t.fI.length + t.fB.length := by
                simp only [badP, Bool.or_eq_true, decide_eq_true_eq] at hb; omega
              simp only [Int.toNat_natCast]
              rw [at?_get hk, ob_some, wk_succ (by omega)]
              by_cases ha : 0 ≤ l[k]
              · rw [if_pos ha, if_pos ha, if_neg (by decide), if_neg (by decide), at?_pk (z := false) ha (by omega), ob_some, chk_pos (by omega), chk_pos trivial, chk_pos trivial, chk_pos (by simp)]
              · rw [if_neg ha, if_neg ha]
          · intro next m hm
            unfold ref05_Pick_L1
            rw [if_neg (by simp only []; omega)]
      · rw [if_neg hll, if_neg hll]; rfl
    · rw [if_neg hn, if_neg hn]; rfl
  · rw [if_neg hc, if_neg hc]; rfl
/-- a list that is made anew, one after the other -/
theorem list_loop {β : Type} {l : List Int} {B : ((List Int × Int) → Option β) → (List Int × Int) → Option β} {c : List Int → Option β} {fu : Nat} (hf : l.length < fu)
    (hB : ∀ (next : List Int × Int → Option β) (k : Nat) (m : List Int) (hk : k < l.length), m.length = k → B next (m, (k : Int)) = next (m ++ [l[k]], ((k + 1 : Nat) : Int)))
    (hE : ∀ next (m : List Int), m.length = l.length → B next (m, (l.length : Int)) = c m) : cloop B fu ([], 0) = c l := by
  refine (cloop_up l.length (fun k => l.take k) (c l) ?_ ?_ hf)
  · intro k hk next hn
    rw [hB next k _ hk (by simp; omega)]
    rw [show l.take k ++ [l[k]] = l.take (k + 1) by rw [List.take_add_one, List.getElem?_eq_getElem hk]; rfl]
    exact hn
  · intro next
    rw [hE next _ (by simp)]
    simp
def intsV (t : T_Tensor) : List Int × Int := if checkV t = 0 then (if t.fType = 7 then (if 1 < (t.fDims.length : Int) then ([], 3) else (t.fI, 0)) else ([], 5)) else ([], checkV t)
theorem valid_lens {t : T_Tensor} (h : checkV t = 0) : t.fF.length ≤ 4096 ∧ t.fI.length ≤ 4096 ∧ t.fB.length ≤ 4096 ∧ t.fDims.length ≤ 8 := by
  obtain ⟨hk, hg, l1, l2, l3⟩ := checkV_zero.1 h
  have := hg.2.2
  refine ⟨?_, ?_, ?_, hg.1⟩
  · split at l1 <;> omega
  · split at l2 <;> omega
  · split at l3 <;> omega
theorem Ints_spec {fu : Nat} {t : T_Tensor} (hs : Small t) (hf : Fuel fu t) : tens_Ints fu t = some (intsV t) := by
  unfold tens_Ints intsV
  rw [Check_spec hs hf, ob_some]
  by_cases hc : checkV t = 0
  · have hv := valid_lens hc
    rw [if_pos hc, if_pos hc]
    by_cases h7 : t.fType = 7
    · rw [if_pos h7, if_pos h7]
      by_cases h1 : 1 < (t.fDims.length : Int)
      · rw [if_pos h1, if_pos h1]
      · rw [if_neg h1, if_neg h1]
        unfold tens_Ints_W1
        refine list_loop (c := fun m => some (m, 0)) hf.2.2.1 ?_ ?_
        · intro next k m hk hm
          unfold tens_Ints_L1
          simp only []
          rw [if_pos (by omega), at?_get hk, ob_some, chk_pos (by omega), wk_succ (by omega)]
        · intro next m hm
          unfold tens_Ints_L1
          rw [if_neg (by simp)]
    · rw [if_neg h7, if_neg h7]
  · rw [if_neg hc, if_neg hc]
theorem refInts_spec {fu : Nat} {t : T_Tensor} (hs : Small t) (hf : Fuel fu t) : ref05_Ints fu t = some (intsV t) := by
  unfold ref05_Ints intsV
  rw [refCheck_spec hs hf, ob_some]
  by_cases hc : checkV t = 0
  · have hv := valid_lens hc
    rw [if_pos hc, if_pos hc]
    by_cases h7 : t.fType = 7
    · rw [if_pos h7, if_pos h7]
      by_cases h1 : 1 < (t.fDims.length : Int)
      · rw [if_pos h1, if_pos h1]
      · rw [if_neg h1, if_neg h1]
        unfold ref05_Ints_W1
        refine list_loop (c := fun m => some (m, 0)) hf.2.2.1 ?_ ?_
        · intro next k m hk hm
          unfold ref05_Ints_L1
          simp only []
          rw [if_pos (by omega), at?_get hk, ob_some, chk_pos (by omega), wk_succ (by omega)]
        · intro next m hm
          unfold ref05_Ints_L1
          rw [if_neg (by simp)]
    · rw [if_neg h7, if_neg h7]
  · rw [if_neg hc, if_neg hc]
theorem refCopy_spec {fu : Nat} {t : T_Tensor} (h : Q_42 t) : ref05_Copy fu t = some t := by
  obtain ⟨_, h1, h2, h3, h4, _⟩ := h
  have := h1.1; have := h2.1; have := h3.1; have := h4.1
  unfold ref05_Copy
  rw [chk_pos (by omega), chk_pos (by omega), chk_pos (by omega), chk_pos (by omega)]
theorem pickV_small (t : T_Tensor) (d l : List Int) : (pickV t d l).1.fDims.length ≤ 8 ∧ (pickV t d l).1.fF.length ≤ 4096 ∧ (pickV t d l).1.fI.length ≤ 4096 ∧ (pickV t d l).1.fB.length ≤ 4096 := by
  unfold pickV
  split
  · split
    · rename_i hn
      obtain ⟨hk, hg, e⟩ := newV_ok hn
      have h2 := hg.2.2
      have h3 := hg.1
      split
      · split
        · simp [noT]
        · split
          · simp; omega
          · split <;> simp <;> omega
      · simp [noT]
    · simp [noT]
  · simp [noT]
/-- one list of numbers that is written over with the same number -/
theorem fill_loop {β : Type} {z : Int} {B : ((List Int × Int) → Option β) → (List Int × Int) → Option β} {l : List Int} {R : Option β} {fu : Nat} (hn : l.length ≤ 140737488355328) (hf : l.length < fu)
    (hB : ∀ next s, B next s = if s.2 < (s.1.length : Int) then chk (0 ≤ s.2 ∧ s.2 < (s.1.length : Int)) (next (s.1.set s.2.toNat z, wk .i64 (s.2 + 1))) else R) : cloop B fu (l, 0) = R := by
  refine cloop_ind (fun _ => R) (fun (s : List Int × Int) => 0 ≤ s.2 ∧ s.2 ≤ l.length ∧ s.1.length = l.length) (fun s => l.length - s.2.toNat) ?_ fu (l, 0) (by simp) (by simp; omega)
  rintro ⟨m, i⟩ ⟨h0, h1, h2⟩ next hnx
  simp only at h0 h1 h2 hnx ⊢
  obtain ⟨k, rfl⟩ := Int.eq_ofNat_of_zero_le h0
  rw [hB]
  simp only
  by_cases hk : k < m.length
  · rw [if_pos (by omega), chk_pos (by omega), wk_succ (by omega)]
    exact hnx _ ⟨by simp only []; omega, by simp only []; omega, by simp [h2]⟩ (by simp; omega)
  · rw [if_neg (by omega)]
theorem law_8 (a0 : T_Tensor) (a1 : List Int) (a2 : List Int) (w0 : Q_42 a0) (w1 : a1.length * 8 ≤ 140737488351232 ∧ ∀ z0 ∈ a1, ((Lit.int .i64 z0).wf = true)) (w2 : a2.length * 8 ≤ 140737488351232 ∧ ∀ z0 ∈ a2, ((Lit.int .i64 z0).wf = true)) : ∃ fu, law05_TensPicks fu a0 a1 a2 = some true := by
  refine ⟨a0.fDims.length + a0.fF.length + a0.fI.length + a0.fB.length + a1.length + a2.length + 5000, ?_⟩
  generalize hfu : a0.fDims.length + a0.fF.length + a0.fI.length + a0.fB.length + a1.length + a2.length + 5000 = fu
  have hs := small_of w0
  have hf : Fuel fu a0 := ⟨by omega, by omega, by omega, by omega⟩
  have sd : Short a1 := by have := w1.1; unfold Short; omega
  have sl : Short a2 := by have := w2.1; unfold Short; omega
  obtain ⟨n1, n2, n3, n4⟩ := pickV_small a0 a1 a2
  obtain ⟨s1, s2, s3, s4⟩ := hs
  have hil : (intsV a0).1.length ≤ 4096 := by
    unfold intsV
    split
    · rename_i hc
      have := valid_lens hc
      split
      · split
        · simp
        · exact this.2.1
      · simp
    · simp
  unfold law05_TensPicks
  rw [refCopy_spec w0, ob_some, Pick_spec ⟨s1, s2, s3, s4⟩ hf sd (by omega) sl (by omega), ob_some, refPick_spec ⟨s1, s2, s3, s4⟩ hf sd (by omega) sl (by omega), ob_some,
    Ints_spec ⟨s1, s2, s3, s4⟩ hf, ob_some, refInts_spec ⟨s1, s2, s3, s4⟩ hf, ob_some, refSame_spec ⟨by omega, by omega, by omega, by omega⟩ ⟨by omega, by omega, by omega, by omega⟩, ob_some, sameB_self, if_pos rfl,
    SameInts_spec (by unfold Short; omega) (by omega), ob_some]
  simp only [decide_true]
  generalize hp : pickV a0 a1 a2 = p at n1 n2 n3 n4 ⊢
  unfold law05_TensPicks_k1 law05_TensPicks_W5
  refine spoil_loop (n := p.1.fDims.length) (fun x => bxor .i64 x 64) rfl (by omega) (by omega) (c := fun m => law05_TensPicks_k2 fu a0 a0 p p (intsV a0) (intsV a0) true m) (fun next s => rfl) fun m1 l1 => ?_
  unfold law05_TensPicks_k2 law05_TensPicks_W4
  refine spoil_loop (n := p.1.fF.length) (fun x => bxor .u32 x 1) rfl (by omega) (by omega) (c := fun m => law05_TensPicks_k3 fu a0 a0 p p (intsV a0) (intsV a0) true m1 m) (fun next s => rfl) fun m2 l2 => ?_
  unfold law05_TensPicks_k3 law05_TensPicks_W3
  refine spoil_loop (n := p.1.fI.length) (fun x => bxor .i64 x 1) rfl (by omega) (by omega) (c := fun m => law05_TensPicks_k4 fu a0 a0 p p (intsV a0) (intsV a0) true m1 m2 m) (fun next s => rfl) fun m3 l3 => ?_
  unfold law05_TensPicks_k4 law05_TensPicks_W1
  refine spoil_loop (n := p.1.fB.length) (fun x => !x) rfl (by omega) (by omega) (c := fun m => chk (p.1.fDims.length = m1.length) <| chk (p.1.fF.length = m2.length) <| chk (p.1.fI.length = m3.length) <| chk (p.1.fB.length = m.length) <| law05_TensPicks_W2 fu a0 a0 p p (intsV a0) (intsV a0) true (intsV a0).1 0) (fun next s => rfl) fun m4 l4 => ?_
  rw [chk_pos l1.symm, chk_pos l2.symm, chk_pos l3.symm, chk_pos l4.symm]
  unfold law05_TensPicks_W2
  have fin : ∀ m, law05_TensPicks_k5 fu a0 a0 p p (intsV a0) (intsV a0) true m = some true := fun m => by
    unfold law05_TensPicks_k5
    rw [if_pos rfl, if_pos rfl, if_pos rfl, refSame_spec ⟨s1, s2, s3, s4⟩ hf, ob_some, sameB_self]
  refine fill_loop (z := -9) (by omega) (by omega) (fun next s => ?_)
  unfold law05_TensPicks_L2
  rw [fin]
end Go.Av
