/- MovesPadded: the law over the plain functions. Conditions: those that each names. -/
import Derived.Test.YtnpnomlnajgbcaaGreatVV
import Derived.Test.YtnpnomlnajgbcaaGreatQA
set_option linter.unusedVariables false
namespace Go.Av
theorem ten_of {t : T_Tensor} (h : Q_27 t) : Ten t := by
  obtain ⟨_, h1, h2, h3, h4, _⟩ := h
  have l1 := h1.1; have l2 := h2.1; have l3 := h3.1; have l4 := h4.1
  refine ⟨by omega, by omega, by omega, by omega, fun x hx => ?_⟩
  have := h2.2 x hx
  simp [Lit.wf, IntKind.min, IntKind.max, IntKind.signed, IntKind.bits] at this
  omega
def setM (m : Int) : T_Setting := T_Setting.mk 0 ([]) false false false false false ([]) false 0 0 0 false false false 0 m false false 0 ([]) ([]) ([]) ([]) 0 false false 0 0 0 false (T_Tensor.mk 0 ([]) ([]) ([]) ([]))
def stP (d l : List Int) : List Int := (List.range d.length).map (gI l)
def enP (d l : List Int) : List Int := (List.range d.length).map fun k => gI l k + gI d k
theorem stP_at {d l : List Int} {k : Nat} (h : k < d.length) : gI (stP d l) k = gI l k := by
  rw [gI_get (by simp [stP]; exact h)]; simp [stP]
theorem enP_at {d l : List Int} {k : Nat} (h : k < d.length) : gI (enP d l) k = gI l k + gI d k := by
  rw [gI_get (by simp [enP]; exact h)]; simp [enP]
theorem sl_ok {m : Int} {d l : List Int} (h : PadIn m d l) : SlOK (eP d l) (stP d l) (enP d l) d := ⟨by simp [stP, eP_length], by simp [enP, eP_length], by rw [eP_length], fun k hk => by
  rw [eP_length] at hk
  obtain ⟨r1, r2, r3, r4, r5, r6, _⟩ := h.row hk
  rw [stP_at hk, enP_at hk, eP_at hk]
  omega⟩
theorem law_loop {fu : Nat} {x : T_Tensor} {l : List Int} {x5 : List T_Tensor × Int} {m : Int} (h : PadIn m x.fDims l) (hf : 5000 < fu) :
    law12_MovesPadded.W1 fu x l x5 [] [] 0 = law12_MovesPadded.k2 fu x x5 (stP x.fDims l) (enP x.fDims l) (stP x.fDims l) (enP x.fDims l) := by
  have h8 := h.gd.1
  have hl := h.ok.len
  unfold law12_MovesPadded.W1
  have hz : (([] : List Int), ([] : List Int), (0 : Int)) = (fun k : Nat => ((List.range k).map (gI l), (List.range k).map (fun k => gI l k + gI x.fDims k), (k : Int))) 0 := rfl
  rw [hz]
  refine cloop_to x.fDims.length (fun k : Nat => ((List.range k).map (gI l), (List.range k).map (fun k => gI l k + gI x.fDims k), (k : Int))) _ ?_ ?_ (by omega)
  · intro k hk next hn
    show law12_MovesPadded.L1 fu x l x5 (fun a b c => next (a, b, c)) ((List.range k).map (gI l)) ((List.range k).map (fun k => gI l k + gI x.fDims k)) (k : Int) = _
    obtain ⟨r1, r2, r3, r4, r5, r6, _⟩ := h.row hk
    rw [law12_MovesPadded.L1, if_pos (by omega), at_gI (by omega), ob_some, chk_pos (by simp; omega), at_gI hk, ob_some, chk_pos (by simp; omega), wk_eq (x := gI l k + gI x.fDims k) (by omega) (by omega), wk_succ (by omega), ← hn, List.range_succ, List.map_append, List.map_append]
    rfl
  · intro next
    show law12_MovesPadded.L1 fu x l x5 (fun a b c => next (a, b, c)) ((List.range x.fDims.length).map (gI l)) ((List.range x.fDims.length).map (fun k => gI l k + gI x.fDims k)) (x.fDims.length : Int) = _
    rw [law12_MovesPadded.L1, if_neg (by omega)]
    rfl
theorem law_6 (a0 : T_Tensor) (a1 : List Int) (a2 : Int) (w0 : Q_27 a0) (w1 : a1.length * 8 ≤ 140737488351232 ∧ ∀ z0 ∈ a1, ((Lit.int .i64 z0).wf = true)) (w2 : (Lit.int .i64 a2).wf = true) : ∃ fu, law12_MovesPadded fu a0 a1 a2 = some true := by
  refine ⟨a0.fDims.length + a0.fF.length + a0.fI.length + a0.fB.length + a1.length + 20000, ?_⟩
  generalize hfu : a0.fDims.length + a0.fF.length + a0.fI.length + a0.fB.length + a1.length + 20000 = fu
  have ht := ten_of w0
  have hft : Fuel fu a0 := ⟨by omega, by omega, by omega, by omega⟩
  have w1l := w1.1
  obtain ⟨M, hM⟩ : ∃ M, M = wk .i64 ((wk .i64 (1 + (band .i64 a2 1))) + (band .i64 (shrk .i64 a2 1) 1)) := ⟨_, rfl⟩
  have e : law12_MovesPadded fu a0 a1 a2 = (moves_Do fu 53 (setM M) ([a0, lt a1]) 1).bind fun x5 => if x5.2 = 0 then (if (x5.1.length : Int) = 1 then (if (a1.length : Int) < (a0.fDims.length : Int) then (some false) else law12_MovesPadded.W1 fu a0 a1 x5 [] [] 0) else some false) else law12_MovesPadded.k3 fu x5 := by rw [hM]; rfl
  rw [e]
  by_cases hg : a0.fType ≠ 0 ∧ checkV a0 = 0 ∧ a1.length ≤ 4096 ∧ PadIn (setM M).fMode a0.fDims a1
  · obtain ⟨h0, hc, hl, hp⟩ := hg
    have hp' : PadIn M a0.fDims a1 := hp
    have hll := hp.ok.len
    have hcc : checkV (canonT a0) = 0 := by rw [canonT_check]; exact hc
    obtain ⟨n, hn⟩ := Int.eq_ofNat_of_zero_le (prod_nonneg hp.gd.2.1)
    obtain ⟨N, hN⟩ := Int.eq_ofNat_of_zero_le (prod_nonneg hp.ge.2.1)
    have hP : PickOK (eP a0.fDims a1) N n (fPd M a0.fDims a1) (canonT a0) := ⟨hcc, hp.ge, hN, hn, fun k hk => by
      have hk' : (k : Int) < prod (eP a0.fDims a1) := by rw [hN]; exact Int.ofNat_lt.2 hk
      have hpe := pos_of_good hp.ge (by omega)
      have := pad_rng hp' (i := idxV (eP a0.fDims a1) (k : Int)) (idxV_length _ _) (okIx_idx hpe (by omega) hk')
      rw [hn] at this
      unfold fPd
      omega⟩
    have hs := sl_ok hp'
    have hG : ∀ k, k < n → 0 ≤ gSl (eP a0.fDims a1) (stP a0.fDims a1) a0.fDims k ∧ gSl (eP a0.fDims a1) (stP a0.fDims a1) a0.fDims k < N ∧ fPd M a0.fDims a1 (gSl (eP a0.fDims a1) (stP a0.fDims a1) a0.fDims k).toNat = k := fun k hk => by
      have hk' : (k : Int) < prod a0.fDims := by rw [hn]; exact Int.ofNat_lt.2 hk
      have hpd := pos_of_good hp.gd (by omega)
      have hi := okIx_idx hpd (a := (k : Int)) (by omega) hk'
      have hil := idxV_length a0.fDims (k : Int)
      obtain ⟨z1, z2⟩ := pad_in hp' hil hi
      have ha : addL (stP a0.fDims a1) (idxV a0.fDims (k : Int)) = addL a1 (idxV a0.fDims (k : Int)) := ext_gI (by rw [addL_len, addL_len]) fun a ha => by
        rw [addL_len] at ha
        rw [addL_at ha, addL_at ha, stP_at (by omega)]
      have hle : (addL a1 (idxV a0.fDims (k : Int))).length = (eP a0.fDims a1).length := by rw [addL_len, hil, eP_length]
      have he0 : ∀ z ∈ eP a0.fDims a1, 0 ≤ z := fun z hz => (hp.ge.2.1 z hz).1
      obtain ⟨b1, b2⟩ := offV_lt he0 hle z1
      rw [hN] at b2
      unfold gSl
      rw [ha]
      refine ⟨b1, b2, ?_⟩
      unfold fPd
      rw [Int.toNat_of_nonneg b1, idxV_off he0 hle z1, z2]
      exact offV_idx hpd (by omega) hk'
    rw [Do_53 ht hft h0 hc hl hp hN (by omega), ob_some, if_pos rfl, if_pos (by simp), if_neg (by omega), law_loop hp' (by omega)]
    have t1 := pT_ten ht hP
    obtain ⟨y1, y2⟩ := pT_type hP
    have c1 := pT_check hP
    obtain ⟨r1, r2, r3, r4⟩ := len_small c1
    have hd2 := Do_49 (fu := fu) (s := setM 0) (t := pT (eP a0.fDims a1) N (fPd M a0.fDims a1) (canonT a0)) (p := stP a0.fDims a1) (q := enP a0.fDims a1) (d := a0.fDims) (N := n) t1 ⟨by omega, by omega, by omega, by omega⟩ (by rw [y1]; exact h0) c1 hp.gd (by rw [y2]; exact hs) hn (by omega)
    have e2 : law12_MovesPadded.k2 fu a0 ([pT (eP a0.fDims a1) N (fPd M a0.fDims a1) (canonT a0)], 0) (stP a0.fDims a1) (enP a0.fDims a1) (stP a0.fDims a1) (enP a0.fDims a1) = (moves_Do fu 49 (setM 0) [pT (eP a0.fDims a1) N (fPd M a0.fDims a1) (canonT a0), lt (stP a0.fDims a1), lt (enP a0.fDims a1)] 1).bind fun x11 => if x11.2 = 0 then (if (x11.1.length : Int) = 1 then ((at? x11.1 0).bind fun x12 => (ref05_Canon fu a0).bind fun x13 => (ref05_Same fu x12 x13).bind fun x14 => some x14) else some false) else some false := rfl
    show law12_MovesPadded.k2 fu a0 ([pT (eP a0.fDims a1) N (fPd M a0.fDims a1) (canonT a0)], 0) (stP a0.fDims a1) (enP a0.fDims a1) (stP a0.fDims a1) (enP a0.fDims a1) = _
    rw [e2, hd2, ob_some, if_pos rfl, if_pos (by simp)]
    have hbk := pT_back hP hG
    have hdc : (canonT a0).fDims = a0.fDims := rfl
    rw [hdc] at hbk
    rw [y2]
    show (some (pT a0.fDims n (gSl (eP a0.fDims a1) (stP a0.fDims a1) a0.fDims) (canonT (pT (eP a0.fDims a1) N (fPd M a0.fDims a1) (canonT a0))))).bind _ = _
    rw [ob_some, refCanon_spec ht (by omega), ob_some, pT_canon hP, hbk, refSame_spec (canonT_small ht) (canonT_fuel hft), ob_some, sameT_self]
  · obtain ⟨er, he, hd⟩ := Do_53_bad (fu := fu) (s := setM M) ht hft (by omega) (by omega) hg (by omega)
    rw [hd, ob_some, if_neg he]
    rfl
end Go.Av
