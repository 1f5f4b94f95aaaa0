/- The mean of a whole image is that of the pool whose one window is the image. Conditions: none but those of the argument's data. -/
import Derived.Test.YtebfneaimafcoaaGreatVV
import Derived.Test.YtebfneaimafcoaaGreatQA
set_option linter.unusedVariables false
namespace Go.Av
theorem ten_of {t : T_Tensor} (h : Q_31 t) : Ten t := by
  obtain ⟨_, h1, h2, h3, h4, _⟩ := h
  have l1 := h1.1; have l2 := h2.1; have l3 := h3.1; have l4 := h4.1
  refine ⟨by omega, by omega, by omega, by omega, fun x hx => ?_⟩
  have := h2.2 x hx
  simp [Lit.wf, IntKind.min, IntKind.max, IntKind.signed, IntKind.bits] at this
  omega
section
variable {fu : Nat} {t : T_Tensor} {a b h w : Int} {s : T_Setting}
theorem none_78 : infer_Node (fu + 4) 78 s [zeroVal] 1 = some ([], 1) := by kernel_rfl
theorem none_77 : infer_Node (fu + 4) 77 s [zeroVal] 1 = some ([], 1) := by kernel_rfl
def bothV (t : T_Tensor) (a b h w : Int) : T_Tensor × Int :=
  if t.fType = 0 then (noT, 1) else if checkV t = 0 then (if t.fType = 1 then (if h = 0 ∨ w = 0 then (noT, 3) else (⟨1, [a, b, 1, 1], poolF a.toNat b.toNat h.toNat w.toNat (t.fF.map canonF), [], []⟩, 0)) else (noT, 5)) else (noT, checkV t)
theorem new_4 (hg : Good [a, b, 1, 1]) : newV 1 [a, b, 1, 1] = (⟨1, [a, b, 1, 1], List.replicate (a.toNat * b.toNat) 0, [], []⟩, 0) := by
  have ha := (hg.2.1 a (by simp)).1
  have hb := (hg.2.1 b (by simp)).1
  unfold newV
  rw [if_pos (.inl rfl), if_pos hg, if_pos rfl]
  have e : (prod [a, b, 1, 1]).toNat = a.toNat * b.toNat := by
    simp only [prod, Int.mul_one]
    exact Int.toNat_mul ha hb
  rw [e]
theorem jn_id {ρ τ β : Type} {i : Nat} {r : ρ} {k : τ → Option β} {s : Option β} : jn i r k s = s := rfl
theorem prod_nat {A B H W : Nat} : prod [(A : Int), (B : Int), (H : Int), (W : Int)] = ((A * B * (H * W) : Nat) : Int) := by
  simp only [prod, Int.mul_one]
  rw [Int.natCast_mul, Int.natCast_mul, Int.natCast_mul, Int.mul_assoc]
theorem canon_4 (hd : t.fDims = [a, b, h, w]) (h1 : t.fType = 1) : canonT t = ⟨1, [a, b, h, w], t.fF.map canonF, t.fI, t.fB⟩ := by unfold canonT; rw [hd, h1]
theorem Do_78 (ht : Ten t) (hft : Fuel (fu + 10) t) (hd : t.fDims = [a, b, h, w]) (hf : 20001000 < fu) : reduce_Do (fu + 10) 78 setR [t] = some (bothV t a b h w) := by
  have hT : Tens (fu + 10) [t] := ⟨by simp, by show 1 < fu + 10; omega, fun z hz => by
    simp at hz; subst hz; exact ⟨ht, hft⟩⟩
  have e : reduce_Do (fu + 10) 78 setR [t] = reduce_Do.W2 (fu + 10) setR [t] [] 0 := rfl
  rw [e]
  unfold reduce_Do.W2
  rw [head_loop hT (L := reduce_Do.L2 (fu + 10) setR [t]) (k1 := reduce_Do.k1 (fu + 10) setR [t]) (er := fun e => some (noT, e)) (fun nx acc i => rfl)]
  unfold bothV
  by_cases h0 : t.fType = 0
  · have hb : badV [t] = none := by unfold badV; rw [if_pos (.inl h0)]; rfl
    rw [hb, if_pos h0]
    show reduce_Do.k1 (fu + 10) setR [t] [canonT t] = _
    unfold reduce_Do.k1
    have hv : valOf t = zeroVal := if_pos h0
    rw [Vals_all hT, ob_some]
    show (infer_Node (fu + 10) 78 setR [valOf t] 1).bind _ = _
    rw [hv, none_78 (fu := fu + 6)]
    rfl
  rw [if_neg h0]
  by_cases hc : ¬ checkV t = 0
  · have hb : badV [t] = some (checkV t) := by unfold badV; rw [if_neg (fun hh => hh.elim h0 hc)]
    rw [hb, if_neg hc]
  have hc := Decidable.not_not.1 hc
  have hb : badV [t] = none := by unfold badV; rw [if_pos (.inr hc)]; rfl
  obtain ⟨hkn, hg, hL⟩ := checkV_zero.1 hc
  rw [hd] at hg
  rw [hb, if_pos hc]
  show reduce_Do.k1 (fu + 10) setR [t] [canonT t] = _
  unfold reduce_Do.k1
  have hv : valOf t = ⟨t.fType, t.fDims, true, t⟩ := if_neg h0
  rw [Vals_all hT, ob_some]
  show (infer_Node (fu + 10) 78 setR [valOf t] 1).bind _ = _
  rw [hv, Node_78 (fu := fu + 6) hkn hd hg (by omega), ob_some]
  unfold poolV
  show (if (if t.fType = 1 then (if h = 0 ∨ w = 0 then (([], 3) : List T_Val × Int) else ([outV 1 [a, b, 1, 1]], 0)) else ([], 5)).2 = 0 then _ else _) = _
  by_cases h1 : ¬ t.fType = 1
  · rw [if_neg h1, if_neg h1, if_neg (by decide)]; rfl
  have h1 := Decidable.not_not.1 h1
  rw [if_pos h1, if_pos h1]
  by_cases hz : h = 0 ∨ w = 0
  · rw [if_pos hz, if_pos hz, if_neg (by decide)]; rfl
  rw [if_neg hz, if_neg hz, if_pos rfl]
  have hgo := good_out hg hz
  show (some (canonT t)).bind _ = _
  rw [ob_some]
  show (some (outV 1 [a, b, 1, 1])).bind _ = _
  rw [ob_some, canon_4 hd h1]
  show (tens_New (fu + 10) 1 [a, b, 1, 1]).bind _ = _
  rw [New_spec (by simp [Short]) (by show 4 < fu + 10; omega), ob_some, new_4 hgo, work_78, ob_some, strides_4 hg (by omega), ob_some]
  rw [jn_id, rows_4]
  obtain ⟨A, rfl⟩ := Int.eq_ofNat_of_zero_le (hg.2.1 a (by simp)).1
  obtain ⟨B, rfl⟩ := Int.eq_ofNat_of_zero_le (hg.2.1 b (by simp)).1
  obtain ⟨H, rfl⟩ := Int.eq_ofNat_of_zero_le (hg.2.1 h (by simp)).1
  obtain ⟨W, rfl⟩ := Int.eq_ofNat_of_zero_le (hg.2.1 w (by simp)).1
  obtain ⟨hA, hB, hH, hW, hN⟩ := good_nat hg
  have hF : (t.fF.map canonF).length = A * B * (H * W) := by
    have := hL.1
    rw [if_pos h1, hd, prod_nat] at this
    rw [List.length_map]; omega
  simp only [Int.toNat_natCast]
  exact k2_spec hA hB hH hW hN hF (by omega)
theorem Do_77 (ht : Ten t) (hft : Fuel (fu + 10) t) (hd : t.fDims = [a, b, h, w]) (hf : 20001000 < fu) : reduce_Do (fu + 10) 77 (setP h w) [t] = some (bothV t a b h w) := by
  have hT : Tens (fu + 10) [t] := ⟨by simp, by show 1 < fu + 10; omega, fun z hz => by
    simp at hz; subst hz; exact ⟨ht, hft⟩⟩
  have e : reduce_Do (fu + 10) 77 (setP h w) [t] = reduce_Do.W6 (fu + 10) (setP h w) [t] [] 0 := rfl
  rw [e]
  unfold reduce_Do.W6
  rw [head_loop hT (L := reduce_Do.L6 (fu + 10) (setP h w) [t]) (k1 := reduce_Do.k3 (fu + 10) (setP h w) [t]) (er := fun e => some (noT, e)) (fun nx acc i => rfl)]
  unfold bothV
  by_cases h0 : t.fType = 0
  · have hb : badV [t] = none := by unfold badV; rw [if_pos (.inl h0)]; rfl
    rw [hb, if_pos h0]
    show reduce_Do.k3 (fu + 10) (setP h w) [t] [canonT t] = _
    unfold reduce_Do.k3
    have hv : valOf t = zeroVal := if_pos h0
    rw [Vals_all hT, ob_some]
    show (infer_Node (fu + 10) 77 (setP h w) [valOf t] 1).bind _ = _
    rw [hv, none_77 (fu := fu + 6)]
    rfl
  rw [if_neg h0]
  by_cases hc : ¬ checkV t = 0
  · have hb : badV [t] = some (checkV t) := by unfold badV; rw [if_neg (fun hh => hh.elim h0 hc)]
    rw [hb, if_neg hc]
  have hc := Decidable.not_not.1 hc
  have hb : badV [t] = none := by unfold badV; rw [if_pos (.inr hc)]; rfl
  obtain ⟨hkn, hg, hL⟩ := checkV_zero.1 hc
  rw [hd] at hg
  rw [hb, if_pos hc]
  show reduce_Do.k3 (fu + 10) (setP h w) [t] [canonT t] = _
  unfold reduce_Do.k3
  have hv : valOf t = ⟨t.fType, t.fDims, true, t⟩ := if_neg h0
  rw [Vals_all hT, ob_some]
  show (infer_Node (fu + 10) 77 (setP h w) [valOf t] 1).bind _ = _
  rw [hv, Node_77 (fu := fu + 6) hkn hd hg (by omega), ob_some]
  unfold poolV
  show (if (if t.fType = 1 then (if h = 0 ∨ w = 0 then (([], 3) : List T_Val × Int) else ([outV 1 [a, b, 1, 1]], 0)) else ([], 5)).2 = 0 then _ else _) = _
  by_cases h1 : ¬ t.fType = 1
  · rw [if_neg h1, if_neg h1, if_neg (by decide)]; rfl
  have h1 := Decidable.not_not.1 h1
  rw [if_pos h1, if_pos h1]
  by_cases hz : h = 0 ∨ w = 0
  · rw [if_pos hz, if_pos hz, if_neg (by decide)]; rfl
  rw [if_neg hz, if_neg hz, if_pos rfl]
  have hgo := good_out hg hz
  show (some (canonT t)).bind _ = _
  rw [ob_some]
  show (some (outV 1 [a, b, 1, 1])).bind _ = _
  rw [ob_some, canon_4 hd h1]
  show (tens_New (fu + 10) 1 [a, b, 1, 1]).bind _ = _
  rw [New_spec (by simp [Short]) (by show 4 < fu + 10; omega), ob_some, new_4 hgo, strides_4 hg (by omega), ob_some]
  obtain ⟨A, rfl⟩ := Int.eq_ofNat_of_zero_le (hg.2.1 a (by simp)).1
  obtain ⟨B, rfl⟩ := Int.eq_ofNat_of_zero_le (hg.2.1 b (by simp)).1
  obtain ⟨H, rfl⟩ := Int.eq_ofNat_of_zero_le (hg.2.1 h (by simp)).1
  obtain ⟨W, rfl⟩ := Int.eq_ofNat_of_zero_le (hg.2.1 w (by simp)).1
  have hF : (t.fF.map canonF).length = A * B * (H * W) := by
    have := hL.1
    rw [if_pos h1, hd, prod_nat] at this
    rw [List.length_map]; omega
  simp only [Int.toNat_natCast]
  exact w3_spec hg (by omega) (by omega) hF (by omega)
end
theorem bothV_small {fu : Nat} {t : T_Tensor} {a b h w : Int} (hd : t.fDims = [a, b, h, w]) (hf : 20000000 < fu) : Small (bothV t a b h w).1 ∧ Fuel fu (bothV t a b h w).1 := by
  have hn : Small noT ∧ Fuel fu noT := ⟨⟨by simp [noT], by simp [noT], by simp [noT], by simp [noT]⟩, ⟨by show 0 < fu; omega, by show 0 < fu; omega, by show 0 < fu; omega, by show 0 < fu; omega⟩⟩
  unfold bothV
  split
  · exact hn
  · split
    · rename_i hc
      obtain ⟨_, hg, _⟩ := checkV_zero.1 hc
      rw [hd] at hg
      split
      · split
        · exact hn
        · have ha := hg.2.1 a (by simp)
          have hb := hg.2.1 b (by simp)
          have := Nat.mul_le_mul (show a.toNat ≤ 4096 by omega) (show b.toNat ≤ 4096 by omega)
          have e : (poolF a.toNat b.toNat h.toNat w.toNat (t.fF.map canonF)).length = a.toNat * b.toNat := by simp [poolF]
          exact ⟨⟨by simp, by show (poolF _ _ _ _ _).length ≤ _; rw [e]; omega, by simp, by simp⟩, ⟨by show 4 < fu; omega, by show (poolF _ _ _ _ _).length < _; rw [e]; omega, by show 0 < fu; omega, by show 0 < fu; omega⟩⟩
      · exact hn
    · exact hn
theorem bothV_ok {t : T_Tensor} {a b h w : Int} (h2 : (bothV t a b h w).2 ≠ 0) : (bothV t a b h w).1 = noT := by
  unfold bothV at h2 ⊢
  split
  · rfl
  · rename_i h0
    rw [if_neg h0] at h2
    split
    · rename_i hc
      rw [if_pos hc] at h2
      split
      · rename_i h1
        rw [if_pos h1] at h2
        split
        · rfl
        · rename_i hz
          rw [if_neg hz] at h2
          exact absurd rfl h2
      · rfl
    · rfl
theorem law_7 (a0 : T_Tensor) (w0 : Q_31 a0) : ∃ fu, law13_ReducePools fu a0 = some true := by
  refine ⟨a0.fDims.length + a0.fF.length + a0.fI.length + a0.fB.length + 20001001 + 10, ?_⟩
  generalize hfu : a0.fDims.length + a0.fF.length + a0.fI.length + a0.fB.length + 20001001 = fu
  have ht := ten_of w0
  have hft : Fuel (fu + 10) a0 := ⟨by omega, by omega, by omega, by omega⟩
  unfold law13_ReducePools
  by_cases h4 : ¬ (a0.fDims.length : Int) = 4
  · rw [if_neg h4]
  have h4 := Decidable.not_not.1 h4
  rw [if_pos h4]
  obtain ⟨a, b, h, w, hd⟩ : ∃ a b h w, a0.fDims = [a, b, h, w] := by
    match hm : a0.fDims, h4 with
    | [a, b, h, w], _ => exact ⟨a, b, h, w, rfl⟩
    | [], h4 => simp at h4
    | [_], h4 => simp at h4
    | [_, _], h4 => simp at h4
    | [_, _, _], h4 => simp at h4
    | _ :: _ :: _ :: _ :: _ :: _, h4 => simp at h4; omega
  have e1 := Do_78 (fu := fu) ht hft hd (by omega)
  unfold setR at e1
  rw [e1, ob_some]
  have q2 : at? a0.fDims 2 = some h := by rw [hd]; rfl
  have q3 : at? a0.fDims 3 = some w := by rw [hd]; rfl
  have e2 := Do_77 (fu := fu) ht hft hd (by omega)
  unfold setP at e2
  rw [q2, ob_some, q3, ob_some, e2, ob_some]
  by_cases hz : (bothV a0 a b h w).2 = 0
  · obtain ⟨hs, hf⟩ := bothV_small (fu := fu + 10) hd (by omega)
    rw [if_pos hz, if_pos hz, refSame_spec hs hf, sameT_self]
    rfl
  · rw [if_neg hz]
    unfold law13_ReducePools.k1 jn
    rw [bothV_ok hz]
    rfl
end Go.Av
