/- Layer 5: TensTurns: true. Conditions: those that each names. -/
import Derived.Test.YtoeineoiofjfdaaP27
set_option linter.unusedVariables false
namespace Go.Av
def sig (n : Nat) (c : Int) (i : Int) : Int := n - 1 - (i + c) % n
def tau (n : Nat) (c : Int) (j : Int) : Int := (n - 1 - j - c) % n
theorem sig_range {n : Nat} {c i : Int} (hn : 0 < n) : 0 ≤ sig n c i ∧ sig n c i < n := by
  unfold sig
  have h1 := Int.emod_nonneg (i + c) (show (n : Int) ≠ 0 by omega)
  have h2 := Int.emod_lt_of_pos (i + c) (show (0 : Int) < n by omega)
  omega
theorem tau_range {n : Nat} {c i : Int} (hn : 0 < n) : 0 ≤ tau n c i ∧ tau n c i < n := by
  unfold tau
  have h1 := Int.emod_nonneg (n - 1 - i - c) (show (n : Int) ≠ 0 by omega)
  have h2 := Int.emod_lt_of_pos (n - 1 - i - c) (show (0 : Int) < n by omega)
  omega
theorem sig_tau {n : Nat} {c j : Int} (h0 : 0 ≤ j) (h1 : j < n) : sig n c (tau n c j) = j := by
  unfold sig tau
  rw [Int.emod_add_emod, show (n : Int) - 1 - j - c + c = n - 1 - j by omega, Int.emod_eq_of_lt (by omega) (by omega)]
  omega
theorem tau_sig {n : Nat} {c i : Int} (h0 : 0 ≤ i) (h1 : i < n) : tau n c (sig n c i) = i := by
  unfold sig tau
  have e : (n : Int) - 1 - (n - 1 - (i + c) % n) - c = (i + c) % n + (-c) := by omega
  rw [e, Int.emod_add_emod, show i + c + -c = i by omega, Int.emod_eq_of_lt h0 h1]
def thereL (n : Nat) (c : Int) : List Int := (List.range n).map fun i : Nat => sig n c i
def backL (n : Nat) (c : Int) : List Int := (List.range n).map fun i : Nat => tau n c i
theorem thereL_length {n : Nat} {c : Int} : (thereL n c).length = n := by simp [thereL]
theorem backL_length {n : Nat} {c : Int} : (backL n c).length = n := by simp [backL]
theorem thereL_get {n : Nat} {c : Int} {i : Nat} (h : i < (thereL n c).length) : (thereL n c)[i] = sig n c i := by simp [thereL]
theorem backL_get {n : Nat} {c : Int} {i : Nat} (h : i < (backL n c).length) : (backL n c)[i] = tau n c i := by simp [backL]
theorem pkOf_get {α : Type} {l : List α} {z : α} {a : Int} (h0 : 0 ≤ a) (h : a < l.length) : pkOf l z a = l[a.toNat]'(by omega) := by
  unfold pkOf
  rw [if_pos h0, List.getD_eq_getElem?_getD, List.getElem?_eq_getElem (by omega)]
  rfl
theorem turn_back {α : Type} {l : List α} {z : α} {n : Nat} {c : Int} (hl : l.length = n) : (backL n c).map (pkOf ((thereL n c).map (pkOf l z)) z) = l := by
  refine List.ext_getElem (by simp [backL_length, hl]) fun j h1 h2 => ?_
  have hj : j < n := by simpa [backL_length] using h1
  obtain ⟨t1, t2⟩ := tau_range (n := n) (c := c) (i := (j : Int)) (by omega)
  rw [List.getElem_map, backL_get, pkOf_get t1 (by simp [thereL_length]; omega), List.getElem_map, thereL_get, Int.toNat_of_nonneg t1, sig_tau (by omega) (by omega), pkOf_get (by omega) (by omega)]
  congr 1
theorem badP_no {l : List Int} {N : Int} (h : ∀ x ∈ l, 0 ≤ x ∧ x < N) : ¬ l.any (badP N) = true := by
  rw [Bool.not_eq_true, List.any_eq_false]
  intro x hx
  have := h x hx
  simp [badP]; omega
theorem thereL_in {n : Nat} {c : Int} : ∀ x ∈ thereL n c, 0 ≤ x ∧ x < n := fun x hx => by
  obtain ⟨i, hi, rfl⟩ := List.mem_map.1 hx
  exact sig_range (by have := List.mem_range.1 hi; omega)
theorem backL_in {n : Nat} {c : Int} : ∀ x ∈ backL n c, 0 ≤ x ∧ x < n := fun x hx => by
  obtain ⟨i, hi, rfl⟩ := List.mem_map.1 hx
  exact tau_range (by have := List.mem_range.1 hi; omega)
theorem newV_err0 {k : Int} {d : List Int} (hk : Known k) (hg : Good d) : (newV k d).2 = 0 := by
  unfold newV
  rw [if_pos (show k = 1 ∨ k = 7 ∨ k = 9 from hk), if_pos hg]
  split
  · rfl
  · split <;> rfl
theorem prod_one {n : Int} : prod [n] = n := by simp [prod]
theorem good_one {n : Nat} (h : n ≤ 4096) : Good [(n : Int)] := ⟨by simp, fun x hx => by simp at hx; omega, by rw [prod_one]; omega⟩
theorem picks_back {t : T_Tensor} {n : Nat} {c : Int} (hc : checkV t = 0) (hp : prod t.fDims = n) :
    (pickV t [(n : Int)] (thereL n c)).2 = 0 ∧ pickV (pickV t [(n : Int)] (thereL n c)).1 t.fDims (backL n c) = (t, 0) := by
  obtain ⟨hk, hg, l1, l2, l3⟩ := checkV_zero.1 hc
  have h4 := hg.2.2
  have hg1 := good_one (n := n) (by omega)
  have hn1 := newV_err0 hk hg1
  have hn2 := newV_err0 hk hg
  obtain ⟨ty, d, F, I, B⟩ := t
  simp only at hk hg l1 l2 l3 hn1 hn2 hp h4
  rcases hk with e | e | e
  · subst e
    simp only [if_true, show ¬ (1 : Int) = 7 by decide, show ¬ (1 : Int) = 9 by decide, if_false] at l1 l2 l3
    have hI : I = [] := List.eq_nil_of_length_eq_zero (by omega)
    have hB : B = [] := List.eq_nil_of_length_eq_zero (by omega)
    subst hI hB
    have e1 : pickV ⟨1, d, F, [], []⟩ [(n : Int)] (thereL n c) = (⟨1, [(n : Int)], (thereL n c).map (pkOf F 0), [], []⟩, 0) := by
      unfold pickV
      rw [if_pos hc, if_pos hn1, if_pos (by rw [thereL_length, prod_one]), if_neg (badP_no fun x hx => by have := thereL_in x hx; simp; omega), if_pos rfl]
    rw [e1]
    refine ⟨rfl, ?_⟩
    have hc2 : checkV ⟨1, [(n : Int)], (thereL n c).map (pkOf F 0), [], []⟩ = 0 := checkV_zero.2 ⟨.inl rfl, hg1, by simp [LensOK, prod_one, thereL_length]⟩
    unfold pickV
    rw [if_pos hc2, if_pos hn2, if_pos (by rw [backL_length]; exact hp.symm), if_neg (badP_no fun x hx => by have := backL_in x hx; simp [thereL_length]; omega), if_pos rfl]
    simp only []
    rw [turn_back (by omega)]
  · subst e
    simp only [if_true, show ¬ (7 : Int) = 1 by decide, show ¬ (7 : Int) = 9 by decide, if_false] at l1 l2 l3
    have hF : F = [] := List.eq_nil_of_length_eq_zero (by omega)
    have hB : B = [] := List.eq_nil_of_length_eq_zero (by omega)
    subst hF hB
    have e1 : pickV ⟨7, d, [], I, []⟩ [(n : Int)] (thereL n c) = (⟨7, [(n : Int)], [], (thereL n c).map (pkOf I 0), []⟩, 0) := by
      unfold pickV
      rw [if_pos hc, if_pos hn1, if_pos (by rw [thereL_length, prod_one]), if_neg (badP_no fun x hx => by have := thereL_in x hx; simp; omega), if_neg (show ¬ (7 : Int) = 1 by decide), if_pos rfl]
    rw [e1]
    refine ⟨rfl, ?_⟩
    have hc2 : checkV ⟨7, [(n : Int)], [], (thereL n c).map (pkOf I 0), []⟩ = 0 := checkV_zero.2 ⟨.inr (.inl rfl), hg1, by simp [LensOK, prod_one, thereL_length]⟩
    unfold pickV
    rw [if_pos hc2, if_pos hn2, if_pos (by rw [backL_length]; exact hp.symm), if_neg (badP_no fun x hx => by have := backL_in x hx; simp [thereL_length]; omega), if_neg (show ¬ (7 : Int) = 1 by decide), if_pos rfl]
    simp only []
    rw [turn_back (by omega)]
  · subst e
    simp only [if_true, show ¬ (9 : Int) = 1 by decide, show ¬ (9 : Int) = 7 by decide, if_false] at l1 l2 l3
    have hF : F = [] := List.eq_nil_of_length_eq_zero (by omega)
    have hI : I = [] := List.eq_nil_of_length_eq_zero (by omega)
    subst hF hI
    have e1 : pickV ⟨9, d, [], [], B⟩ [(n : Int)] (thereL n c) = (⟨9, [(n : Int)], [], [], (thereL n c).map (pkOf B false)⟩, 0) := by
      unfold pickV
      rw [if_pos hc, if_pos hn1, if_pos (by rw [thereL_length, prod_one]), if_neg (badP_no fun x hx => by have := thereL_in x hx; simp; omega), if_neg (show ¬ (9 : Int) = 1 by decide), if_neg (show ¬ (9 : Int) = 7 by decide)]
    rw [e1]
    refine ⟨rfl, ?_⟩
    have hc2 : checkV ⟨9, [(n : Int)], [], [], (thereL n c).map (pkOf B false)⟩ = 0 := checkV_zero.2 ⟨.inr (.inr rfl), hg1, by simp [LensOK, prod_one, thereL_length]⟩
    unfold pickV
    rw [if_pos hc2, if_pos hn2, if_pos (by rw [backL_length]; exact hp.symm), if_neg (badP_no fun x hx => by have := backL_in x hx; simp [thereL_length]; omega), if_neg (show ¬ (9 : Int) = 1 by decide), if_neg (show ¬ (9 : Int) = 7 by decide)]
    simp only []
    rw [turn_back (by omega)]
theorem band_range (x : Int) : 0 ≤ band .i64 x 4095 ∧ band .i64 x 4095 ≤ 4095 := by
  unfold band
  rw [show IntKind.i64.bits = 64 from rfl, BitVec.toNat_and]
  have h : (BitVec.ofInt 64 x).toNat &&& (BitVec.ofInt 64 4095).toNat ≤ 4095 := Nat.le_trans Nat.and_le_right (by decide)
  have := wk_eq (x := (((BitVec.ofInt 64 x).toNat &&& (BitVec.ofInt 64 4095).toNat : Nat) : Int)) (by omega) (by omega)
  unfold wk at this
  rw [this]
  omega
theorem law_12 (a0 : T_Tensor) (a1 : Int) (w0 : Q_42 a0) (w1 : (Lit.int .i64 a1).wf = true) : ∃ fu, law05_TensTurns fu a0 a1 = some true := by
  refine ⟨a0.fDims.length + a0.fF.length + a0.fI.length + a0.fB.length + 5000, ?_⟩
  generalize hfu : a0.fDims.length + a0.fF.length + a0.fI.length + a0.fB.length + 5000 = fu
  have hs := small_of w0
  have hf : Fuel fu a0 := ⟨by omega, by omega, by omega, by omega⟩
  have sd : Short a0.fDims := by have := hs.1; unfold Short; omega
  unfold law05_TensTurns
  rw [Check_spec hs hf, ob_some]
  by_cases hc : checkV a0 = 0
  · rw [if_pos hc, refSize_spec sd (by omega), ob_some]
    obtain ⟨hk, hg, hlen⟩ := checkV_zero.1 hc
    have hpn := prod_nonneg hg.2.1
    have hp4 := hg.2.2
    obtain ⟨n, hn⟩ := Int.eq_ofNat_of_zero_le hpn
    simp only [sizeV, if_pos hg, hn]
    have hn4 : n ≤ 4096 := by omega
    obtain ⟨c, hcd⟩ : ∃ c, band .i64 a1 4095 = c := ⟨_, rfl⟩
    obtain ⟨b1, b2⟩ := band_range a1
    rw [hcd] at b1 b2
    have fin : law05_TensTurns_k2 fu a0 ((n : Int), 0) (thereL n c) (backL n c) = some true := by
      unfold law05_TensTurns_k2
      simp only []
      obtain ⟨p1, p2⟩ := picks_back (c := c) hc hn
      obtain ⟨m1, m2, m3, m4⟩ := pickV_small a0 [(n : Int)] (thereL n c)
      rw [Pick_spec hs hf (by simp [Short]) (by simp; omega) (by unfold Short; rw [thereL_length]; omega) (by rw [thereL_length]; omega), ob_some,
        Pick_spec ⟨by omega, by omega, by omega, by omega⟩ ⟨by omega, by omega, by omega, by omega⟩ sd (by omega) (by unfold Short; rw [backL_length]; omega) (by rw [backL_length]; omega), ob_some, if_pos p1, p2, if_pos rfl, Same_spec hs hf, ob_some, sameB_self]
    have back : law05_TensTurns_k1 fu a0 ((n : Int), 0) (thereL n c) = some true := by
      unfold law05_TensTurns_k1 law05_TensTurns_W1
      simp only []
      rw [chk_pos (by omega), Int.toNat_natCast]
      have := cloop_up (body := fun next s => law05_TensTurns_L1 fu a0 ((n : Int), 0) (thereL n c) (fun x11 x12 => next (x11, x12)) s.1 s.2) (n := fu) n (fun k => (List.range n).map fun j : Nat => if tau n c j < k then tau n c j else 0) (some true) ?_ ?_ (by omega)
      · have e : ((List.range n).map fun j : Nat => if tau n c j < ((0 : Nat) : Int) then tau n c j else 0) = List.replicate n 0 := by
          refine List.ext_getElem (by simp) fun j h1 h2 => ?_
          have hj : j < n := by simpa using h2
          have := (tau_range (n := n) (c := c) (i := (j : Int)) (by omega)).1
          simp only [List.getElem_map, List.getElem_range, List.getElem_replicate]
          rw [if_neg (by omega)]
        rw [e] at this
        exact this
      · intro k hk next hnx
        unfold law05_TensTurns_L1
        simp only []
        obtain ⟨s1, s2⟩ := sig_range (n := n) (c := c) (i := (k : Int)) (by omega)
        have hkt : k < (thereL n c).length := by rw [thereL_length]; exact hk
        rw [if_pos (by omega), at?_get hkt, ob_some, thereL_get hkt, chk_pos (by simp; omega), wk_succ (by omega)]
        have e : ((List.range n).map fun j : Nat => if tau n c j < (k : Int) then tau n c j else 0).set (sig n c k).toNat (k : Int) = (List.range n).map fun j : Nat => if tau n c j < ((k + 1 : Nat) : Int) then tau n c j else 0 := by
          refine List.ext_getElem (by simp) fun j h1 h2 => ?_
          have hj : j < n := by simpa using h2
          obtain ⟨t1, t2⟩ := tau_range (n := n) (c := c) (i := (j : Int)) (by omega)
          rw [List.getElem_set]
          simp only [List.getElem_map, List.getElem_range]
          by_cases hjs : (sig n c k).toNat = j
          · have hj2 : (j : Int) = sig n c k := by omega
            rw [if_pos hjs, hj2, tau_sig (by omega) (by omega), if_pos (by omega)]
          · rw [if_neg hjs]
            have hne : tau n c j ≠ k := fun h => hjs (by rw [← h, sig_tau (by omega) (by omega)]; omega)
            by_cases hlt : tau n c j < k
            · rw [if_pos hlt, if_pos (by omega)]
            · rw [if_neg hlt, if_neg (by omega)]
        rw [e]
        exact hnx
      · intro next
        unfold law05_TensTurns_L1
        simp only []
        rw [if_neg (by omega)]
        have e : ((List.range n).map fun j : Nat => if tau n c j < (n : Int) then tau n c j else 0) = backL n c := by
          unfold backL
          refine List.map_congr_left fun j hj => ?_
          rw [if_pos (tau_range (by have := List.mem_range.1 hj; omega)).2]
        rw [e]
        exact fin
    unfold law05_TensTurns_W2
    refine (cloop_up (body := fun next s => law05_TensTurns_L2 fu a0 a1 ((n : Int), 0) (fun x15 x16 => next (x15, x16)) s.1 s.2) (n := fu) n (fun k => (List.range k).map fun i : Nat => sig n c i) (some true) ?_ ?_ (by omega))
    · intro k hk next hnx
      unfold law05_TensTurns_L2
      simp only []
      rw [hcd, if_pos (by omega), chk_pos (by omega), chk_pos (by simp; omega), wk_succ (by omega), wk_eq (x := (n : Int) - 1) (by omega) (by omega), wk_eq (x := (k : Int) + c) (by omega) (by omega), Int.tmod_eq_emod_of_nonneg (by omega)]
      have hr := sig_range (n := n) (c := c) (i := (k : Int)) (by omega)
      have e1 : wk .i64 ((n : Int) - 1 - ((k : Int) + c) % (n : Int)) = sig n c k := by
        unfold sig at hr ⊢
        rw [wk_eq (by omega) (by omega)]
      rw [e1]
      have e2 : ((List.range k).map fun i : Nat => sig n c i) ++ [sig n c k] = (List.range (k + 1)).map fun i : Nat => sig n c i := by rw [List.range_succ, List.map_append]; rfl
      rw [e2]
      exact hnx
    · intro next
      unfold law05_TensTurns_L2
      simp only []
      rw [if_neg (by omega)]
      exact back
  · rw [if_neg hc]
end Go.Av
