/- ConvGroups: the law over the plain functions. Conditions: those that each names. -/
import Derived.Test.YtpbegnnholhkdaaGreatVV
import Derived.Test.YtpbegnnholhkdaaGreatQA
set_option linter.unusedVariables false
namespace Go.Av
def withG (s : T_Setting) (g : Int) : T_Setting := T_Setting.mk s.fAxis s.fAxes s.fHasAxes s.fKeep s.fNoop s.fLast s.fZero s.fPerm s.fHasPerm s.fAlpha s.fBeta s.fEpsilon s.fLow s.fHigh s.fFmod s.fTo s.fMode s.fTransA s.fTransB g s.fKernel s.fStrides s.fPads s.fDilations s.fAuto s.fCeil s.fCount s.fBlock s.fStart s.fEnd s.fHasEnd s.fValue
def big (t : T_Tensor) : Nat := t.fDims.length + t.fF.length + t.fI.length + t.fB.length
theorem ten_of {t : T_Tensor} (h : Q_28 t) : Ten t := by
  obtain ⟨_, h1, h2, h3, h4, _⟩ := h
  refine ⟨h1.1, h2.1, h3.1, by have := h4.1; omega, fun x hx => ?_⟩
  have := h2.2 x hx
  simp [Lit.wf, IntKind.min, IntKind.max, IntKind.signed, IntKind.bits] at this
  omega
theorem tens_two {fu : Nat} {x y : T_Tensor} (hx : Ten x) (hy : Ten y) (hf : 1200000 + big x + big y < fu) : Tens fu [x, y] := by
  unfold big at hf
  refine ⟨by simp, by simp; omega, fun t ht => ?_⟩
  simp at ht
  rcases ht with rfl | rfl
  · exact ⟨hx, by omega, by omega, by omega, by omega⟩
  · exact ⟨hy, by omega, by omega, by omega, by omega⟩
theorem winA_g {s : T_Setting} {g : Int} {a : Nat} {sz k : Int} : winA (withG s g) a sz k = winA s a sz k := rfl
theorem axV_g {s : T_Setting} {g : Int} {a : Nat} {sz k : Int} : axV (withG s g) a sz k = axV s a sz k := rfl
/-- a tensor of floats that may be -/
theorem check_F {d l : List Int} (hg : Good d) (hl : (l.length : Int) = prod d) : checkV ⟨1, d, l, [], []⟩ = 0 := checkV_zero.2 ⟨.inl rfl, hg, by simp [LensOK, hl]⟩
theorem Ten.getD {t : T_Tensor} (h : Ten t) (i : Nat) : 0 ≤ t.fF.getD i 0 ∧ t.fF.getD i 0 < 4294967296 := by
  by_cases hi : i < t.fF.length
  · rw [List.getD_eq_getElem?_getD, List.getElem?_eq_getElem hi]; exact h.2.2.2.2 _ (List.getElem_mem hi)
  · rw [List.getD_eq_getElem?_getD, List.getElem?_eq_none (by omega)]; simp
theorem law_3 (a0 : T_Setting) (a1 a2 : T_Tensor) (a3 : Bool) (w0 : Q_30 a0) (w1 : Q_28 a1) (w2 : Q_28 a2) : ∃ fu, law15_ConvGroups fu a0 a1 a2 a3 = some true := by
  have tx := ten_of w1
  have ty := ten_of w2
  refine ⟨2000000 + big a1 + big a2 + 3, ?_⟩
  generalize hfu : 2000000 + big a1 + big a2 = fu
  have hV : Tens (fu + 3) [a1, a2] := tens_two tx ty (by omega)
  have hlaw : law15_ConvGroups (fu + 3) a0 a1 a2 a3 = (conv_Do (fu + 3) 75 (withG a0 2) [a1, a2]).bind fun x5 => if x5.2 = 0 then ((at? a2.fDims 0).bind fun x6 => (at? a2.fDims 1).bind fun x7 => (at? a2.fDims 2).bind fun x8 => (at? a2.fDims 3).bind fun x9 => chk (0 ≤ wk .i64 (Int.tdiv (a2.fF.length : Int) 2) ∧ wk .i64 (Int.tdiv (a2.fF.length : Int) 2) ≤ (a2.fF.length : Int)) <|
    if a3 = true then (law15_ConvGroups.k1 (fu + 3) a0 a1 x5 1 [wk .i64 (Int.tdiv x6 2), x7, x8, x9] (subN a2.fF (wk .i64 (Int.tdiv (a2.fF.length : Int) 2)).toNat a2.fF.length) [] [] true) else law15_ConvGroups.k1 (fu + 3) a0 a1 x5 1 [wk .i64 (Int.tdiv x6 2), x7, x8, x9] (subN a2.fF 0 (wk .i64 (Int.tdiv (a2.fF.length : Int) 2)).toNat) [] [] false) else some (decide ((x5.1.fF.length : Int) = 0)) := rfl
  rw [hlaw, Do_head hV]
  cases hb : badV [a1, a2] with
  | some e =>
    show (some (noT, e)).bind _ = _
    rw [ob_some, if_neg (badV_some hb)]; rfl
  | none =>
    have hT := badV_none hb
    have hS := sized_of hT
    show (conv_Do.k1 (fu + 3) (withG a0 2) [a1, a2] ([a1, a2].map canonT)).bind _ = _
    rw [Do_k1]
    rcases Node_tot (fu := fu) (s := withG a0 2) hS (by simp) (by simp; omega) with ⟨e, he, hN⟩ | ⟨x0, x1, x2, x3, y0, y1, y2, y3, hN⟩
    · rw [k1G_bad hV he hN, ob_some, if_neg he]; rfl
    · obtain ⟨A, gr, c, m, H, W, kh, kw, C, D, a, hd⟩ := ans_of hT hN
      have hgr : gr = 2 := by
        have := a.cv.grp
        have h2 : (withG a0 2).fGroup = 2 := rfl
        rw [h2] at this; omega
      subst hgr
      have E := a.cv
      have hk := k1G_ok (T := fun w => conv_work_sum (fu + 3) w) hV (by omega) hS hN a hd (fun i k p q hi hk hp hq hp2 hq2 => sum_spec E rfl rfl hi hk hp2 hq2 (by omega))
      rw [hk, ob_some, if_pos rfl]
      have e1t : a1.fType = 1 := by
        have h := hN.typed (valOf a1) (by simp)
        have f0 : (valOf a1).fType ≠ 0 := hN.full.2.2.1
        have n0 : a1.fType ≠ 0 := fun e => f0 (by unfold valOf; rw [if_pos e]; rfl)
        have v0 : (valOf a1).fType = a1.fType := by unfold valOf; rw [if_neg n0]
        rw [v0] at h; exact h.resolve_left n0
      have e2t : a2.fType = 1 := by
        have h := hN.typed (valOf a2) (by simp)
        have f0 : (valOf a2).fType ≠ 0 := hN.full.2.2.2
        have n0 : a2.fType ≠ 0 := fun e => f0 (by unfold valOf; rw [if_pos e]; rfl)
        have v0 : (valOf a2).fType = a2.fType := by unfold valOf; rw [if_neg n0]
        rw [v0] at h; exact h.resolve_left n0
      have c1 := (hT a1 (by simp)).resolve_left (by omega)
      have c2 := (hT a2 (by simp)).resolve_left (by omega)
      obtain ⟨g1, l1, b1, _, _⟩ := lens_F e1t c1
      obtain ⟨g2, l2, b2, _, _⟩ := lens_F e2t c2
      have dX : a1.fDims = [(A : Int), ((2 * c : Nat) : Int), (H : Int), (W : Int)] := E.dX
      have dY : a2.fDims = [((2 * m : Nat) : Int), (c : Int), (kh : Int), (kw : Int)] := E.dY
      have lX : a1.fF.length = A * (2 * c) * H * W := by have := E.lX; rwa [show (canonT a1).fF = a1.fF.map canonF from rfl, List.length_map] at this
      have lY : a2.fF.length = 2 * m * c * kh * kw := by have := E.lY; rwa [show (canonT a2).fF = a2.fF.map canonF from rfl, List.length_map] at this
      rw [dX] at g1
      rw [dY] at g2 ⊢
      have r1 := g1.2.1
      have r2 := g2.2.1
      have q2m := r2 ((2 * m : Nat) : Int) (by simp)
      have qc := r2 (c : Int) (by simp)
      have qkh := r2 (kh : Int) (by simp)
      have qkw := r2 (kw : Int) (by simp)
      show (some ((2 * m : Nat) : Int)).bind _ = _
      rw [ob_some]
      show (some (c : Int)).bind _ = _
      rw [ob_some]
      show (some (kh : Int)).bind _ = _
      rw [ob_some]
      show (some (kw : Int)).bind _ = _
      rw [ob_some]
      have em : wk .i64 (Int.tdiv ((2 * m : Nat) : Int) 2) = (m : Int) := by
        rw [Int.tdiv_eq_ediv_of_nonneg (Int.natCast_nonneg _), wk_eq (by omega) (by omega)]; omega
      have hlen : 2 * m * c * kh * kw = 2 * (m * c * kh * kw) := by simp only [Nat.mul_assoc]
      have en : wk .i64 (Int.tdiv (a2.fF.length : Int) 2) = ((m * c * kh * kw : Nat) : Int) := by
        rw [lY, hlen, Int.tdiv_eq_ediv_of_nonneg (Int.natCast_nonneg _), wk_eq (by omega) (by omega)]; omega
      rw [em, en, chk_pos (by omega), Int.toNat_natCast]
      have good1 := half_good g1
      have ea1 : A * (1 * c) * H * W = A * (c * (H * W)) := by simp only [Nat.one_mul, Nat.mul_assoc]
      have ea2 : A * (2 * c) * H * W = A * (2 * (c * (H * W))) := by simp only [Nat.mul_assoc]
      -- the answer's dims
      have gd := a.gd
      have gd1 := half_good (c := m) gd
      have eN2 : A * (2 * m * (C * D)) = A * (2 * (m * (C * D))) := by simp only [Nat.mul_assoc]
      -- for either half
      have key : ∀ (o : Nat) (sec : Bool) (l : List Int), (if sec = true then 1 else 0) = o → l.length = m * c * kh * kw → (∀ e, e < m * c * kh * kw → l.getD e 0 = a2.fF.getD (o * (m * c * kh * kw) + e) 0) → (∀ z ∈ l, 0 ≤ z ∧ z < 4294967296) →
          law15_ConvGroups.k1 (fu + 3) a0 a1 (ansV (withG a0 2) a1 a2 [] A 2 c m H W kh kw C D, 0) 1 [(m : Int), (c : Int), (kh : Int), (kw : Int)] l [] [] sec = some true := fun o sec l ho hl hlv hlw => by
        have ho2 : o < 2 := by rw [← ho]; split <;> omega
        have hif : ∀ P : Nat, (if sec = true then P else 0) = o * P := fun P => by
          rw [← ho]; split <;> simp
        have hlaw2 : law15_ConvGroups.k1 (fu + 3) a0 a1 (ansV (withG a0 2) a1 a2 [] A 2 c m H W kh kw C D, 0) 1 [(m : Int), (c : Int), (kh : Int), (kw : Int)] l [] [] sec = (law15_half (fu + 3) a1 sec).bind fun x17 => (conv_Do (fu + 3) 75 (withG a0 1) [x17, ⟨1, [(m : Int), (c : Int), (kh : Int), (kw : Int)], l, [], []⟩]).bind fun x18 =>
            if x18.2 = 0 then ((law15_half (fu + 3) (ansV (withG a0 2) a1 a2 [] A 2 c m H W kh kw C D) sec).bind fun x19 => (ref05_Same (fu + 3) x19 x18.1).bind fun x20 => some x20) else some false := rfl
        rw [hlaw2, half_spec e1t dX c1 tx.small (hV.2.2 a1 (by simp)).2 (by omega), ob_some, hif]
        generalize hhx : halfV a1 A (c * (H * W)) (o * (c * (H * W))) [(A : Int), (c : Int), (H : Int), (W : Int)] = hx
        generalize hown : T_Tensor.mk 1 [(m : Int), (c : Int), (kh : Int), (kw : Int)] l [] [] = own
        have hxF : hx.fF = (List.range (A * (c * (H * W)))).map fun k => a1.fF.getD (srcV (c * (H * W)) (o * (c * (H * W))) k) 0 := by rw [← hhx]; rfl
        have hxl : hx.fF.length = A * (c * (H * W)) := by rw [hxF]; simp
        have hxd : hx.fDims = [(A : Int), (c : Int), (H : Int), (W : Int)] := by rw [← hhx]; rfl
        have hxt : hx.fType = 1 := by rw [← hhx]; rfl
        have hxe : hx = ⟨1, [(A : Int), (c : Int), (H : Int), (W : Int)], hx.fF, [], []⟩ := by rw [← hhx]; rfl
        have oF : own.fF = l := by rw [← hown]
        have od : own.fDims = [(m : Int), (c : Int), (kh : Int), (kw : Int)] := by rw [← hown]
        have ot : own.fType = 1 := by rw [← hown]
        have hxN : A * (c * (H * W)) ≤ 4096 := by rw [lX, ea2] at b1; have : A * (c * (H * W)) ≤ A * (2 * (c * (H * W))) := Nat.mul_le_mul_left _ (by omega); omega
        have hoN : m * c * kh * kw ≤ 4096 := by rw [lY, hlen] at b2; omega
        have tenx : Ten hx := by
          rw [hxe]
          refine ⟨by simp, by simp only [hxl]; omega, by simp, by simp, fun z hz => ?_⟩
          simp only [hxF] at hz
          obtain ⟨k, _, rfl⟩ := List.mem_map.1 hz
          exact tx.getD _
        have teno : Ten own := by rw [← hown]; exact ⟨by simp, by simp only [hl]; omega, by simp, by simp, hlw⟩
        have bx : big hx ≤ 5000 := by rw [hxe]; unfold big; simp only [hxl, List.length_cons, List.length_nil]; omega
        have bo : big own ≤ 5000 := by rw [← hown]; unfold big; simp only [hl, List.length_cons, List.length_nil]; omega
        have hV1 : Tens (fu + 3) [hx, own] := tens_two tenx teno (by omega)
        have gown : Good [(m : Int), (c : Int), (kh : Int), (kw : Int)] := by
          refine ⟨by simp, fun z hz => ?_, ?_⟩
          · simp at hz; omega
          · have : prod [(m : Int), (c : Int), (kh : Int), (kw : Int)] = ((m * c * kh * kw : Nat) : Int) := by rw [← mul4]; simp [prod]
            rw [this]; omega
        have cx : checkV hx = 0 := by rw [hxe]; exact check_F good1 (by rw [hxl]; simp [prod])
        have co : checkV own = 0 := by rw [← hown]; exact check_F gown (by rw [hl, ← mul4]; simp [prod])
        have hT1 : ∀ t ∈ [hx, own], t.fType = 0 ∨ checkV t = 0 := fun t ht => by
          simp at ht; rcases ht with rfl | rfl
          · exact .inr cx
          · exact .inr co
        have vx : valOf hx = ⟨1, [(A : Int), (c : Int), (H : Int), (W : Int)], true, hx⟩ := by unfold valOf; rw [if_neg (by omega), hxt, hxd]
        have vo : valOf own = ⟨1, [(m : Int), (c : Int), (kh : Int), (kw : Int)], true, own⟩ := by unfold valOf; rw [if_neg (by omega), ot, od]
        have at2 := a.attr
        have at1 : AttrOK (withG a0 1) := ⟨by show (1 : Int) ≤ 1; decide, by show (1 : Int) ≤ 4096; decide, at2.ker, at2.str, at2.dil, at2.pad⟩
        have hker : (withG a0 1).fKernel.length = 0 ∨ (withG a0 1).fKernel = [(kh : Int), (kw : Int)] := by
          have h := hN.conv.ker
          have hdy := hN.conv.dy
          have : (vAt ([a1, a2].map valOf) 1).fDims = a2.fDims := by
            show (valOf a2).fDims = _; unfold valOf; rw [if_neg (by omega)]
          rw [this, dY] at hdy
          injection hdy with _ hdy; injection hdy with _ hdy; injection hdy with h2 hdy; injection hdy with h3 _
          rw [← h2, ← h3] at h; exact h
        have hc0 := E.c0
        have hm0 := E.m0
        have nodeC : NodeC (withG a0 1) ([hx, own].map valOf) (A : Int) (c : Int) (H : Int) (W : Int) (m : Int) (c : Int) (kh : Int) (kw : Int) := by
          refine ⟨⟨by simp, by simp, ?_, ?_⟩, ?_, at1, ⟨?_, ?_, by omega, by omega, ?_, ?_, ?_, ?_, hker, a.w0, a.w1⟩, ?_⟩
          · show (valOf hx).fType ≠ 0; rw [vx]; exact (by decide : ¬ (1 : Int) = 0)
          · show (valOf own).fType ≠ 0; rw [vo]; exact (by decide : ¬ (1 : Int) = 0)
          · intro v hv
            simp at hv
            rcases hv with rfl | rfl
            · right; rw [vx]
            · right; rw [vo]
          · show (valOf hx).fDims = _; rw [vx]
          · show (valOf own).fDims = _; rw [vo]
          · show Int.tmod (c : Int) 1 = 0; rw [Int.tmod_one]
          · show Int.tmod (m : Int) 1 = 0; rw [Int.tmod_one]
          · show (c : Int) = wk .i64 (Int.tdiv (c : Int) 1); rw [Int.tdiv_one, wk_eq (by omega) (by omega)]
          · intro h; exact absurd rfl h
          · unfold dimsC
            rw [winA_g, winA_g]
            have h0 : (winA a0 0 (H : Int) (kh : Int)).1 = (C : Int) := a.n0
            have h1 : (winA a0 1 (W : Int) (kw : Int)).1 = (D : Int) := a.n1
            rw [h0, h1]; exact gd1
        have E1 : Cv (withG a0 1) (canonT hx) (canonT own) A 1 c m H W kh kw (axV (withG a0 2) 0 (H : Int) (kh : Int)) (axV (withG a0 2) 1 (W : Int) (kw : Int)) := by
          have q1 := E.c1; have q2 := E.m1
          refine ⟨?_, ?_, ?_, ?_, ?_, ?_, rfl, by omega, by omega, hm0, by omega, hc0, by omega, E.ah, E.aw⟩
          · show hx.fDims = _; rw [hxd, Nat.one_mul]
          · show own.fDims = _; rw [od, Nat.one_mul]
          · show (hx.fF.map canonF).length = _; rw [List.length_map, hxl, ea1]
          · show (own.fF.map canonF).length = _; rw [List.length_map, oF, hl, Nat.one_mul]
          · show (hx.fF.map canonF).length ≤ _; rw [List.length_map, hxl]; exact hxN
          · show (own.fF.map canonF).length ≤ _; rw [List.length_map, oF, hl]; exact hoN
        have ans1 : Ans (withG a0 1) hx own [] A 1 c m H W kh kw C D := ⟨E1, a.w0, a.w1, a.n0, a.n1, by show Good hx.fDims; rw [hxd]; exact good1, by rw [Nat.one_mul]; exact gd1, at1, fun t2 h2 => by cases h2⟩
        have hd1 : dimsC (withG a0 1) (A : Int) (H : Int) (W : Int) (m : Int) (kh : Int) (kw : Int) = [(A : Int), ((1 * m : Nat) : Int), (C : Int), (D : Int)] := by
          unfold dimsC
          rw [winA_g, winA_g, Nat.one_mul]
          have h0 : (winA a0 0 (H : Int) (kh : Int)).1 = (C : Int) := a.n0
          have h1 : (winA a0 1 (W : Int) (kw : Int)).1 = (D : Int) := a.n1
          rw [h0, h1]
        have hk1 := k1G_ok (T := fun w => conv_work_sum (fu + 3) w) hV1 (by omega) (sized_of hT1) nodeC ans1 hd1 (fun i k p q hi hk hp hq hp2 hq2 => sum_spec E1 rfl rfl hi hk hp2 hq2 (by omega))
        have hb1 : badV [hx, own] = none := by unfold badV; rw [if_pos (.inr cx)]; unfold badV; rw [if_pos (.inr co)]; rfl
        have hDo1 : conv_Do (fu + 3) 75 (withG a0 1) [hx, own] = some (ansV (withG a0 1) hx own [] A 1 c m H W kh kw C D, 0) := by
          rw [Do_head hV1, hb1]
          show conv_Do.k1 (fu + 3) (withG a0 1) [hx, own] ([hx, own].map canonT) = _
          rw [Do_k1]; exact hk1
        rw [hDo1, ob_some, if_pos rfl]
        -- the half of the answer
        have eNa : prod [(A : Int), ((2 * m : Nat) : Int), (C : Int), (D : Int)] = ((A * (2 * m * (C * D)) : Nat) : Int) := by simp [prod]
        have hNa := gd.2.2
        rw [eNa] at hNa
        have la : (ansV (withG a0 2) a1 a2 [] A 2 c m H W kh kw C D).fF.length = A * (2 * m * (C * D)) := by simp [ansV]
        have sa : Small (ansV (withG a0 2) a1 a2 [] A 2 c m H W kh kw C D) := ⟨by simp [ansV], by rw [la]; omega, by simp [ansV], by simp [ansV]⟩
        have fa : Fuel (fu + 3) (ansV (withG a0 2) a1 a2 [] A 2 c m H W kh kw C D) := ⟨by simp [ansV]; omega, by rw [la]; omega, by simp [ansV], by simp [ansV]⟩
        have ca : checkV (ansV (withG a0 2) a1 a2 [] A 2 c m H W kh kw C D) = 0 := check_F gd (by rw [eNa]; simp)
        rw [half_spec (A := A) (c := m) (H := C) (W := D) rfl rfl ca sa fa (by omega), ob_some, hif]
        have heq : halfV (ansV (withG a0 2) a1 a2 [] A 2 c m H W kh kw C D) A (m * (C * D)) (o * (m * (C * D))) [(A : Int), (m : Int), (C : Int), (D : Int)] = ansV (withG a0 1) hx own [] A 1 c m H W kh kw C D := by
          unfold halfV
          have e1 : ansV (withG a0 1) hx own [] A 1 c m H W kh kw C D = ⟨1, [(A : Int), (m : Int), (C : Int), (D : Int)], (List.range (A * (m * (C * D)))).map fun k => elV (withG a0 1) hx own 1 c m H W kh kw C D k, [], []⟩ := by
            unfold ansV biasV; rw [Nat.one_mul]; rfl
          rw [e1]
          congr 1
          refine List.map_congr_left fun e he => ?_
          have he := List.mem_range.1 he
          have hsl := src_lt (o := o * (m * (C * D))) he (by have : o ≤ 1 := by omega
                                                             exact Nat.le_trans (Nat.mul_le_mul_right _ this) (by omega))
          have hget : (ansV (withG a0 2) a1 a2 [] A 2 c m H W kh kw C D).fF.getD (srcV (m * (C * D)) (o * (m * (C * D))) e) 0 = elV (withG a0 2) a1 a2 2 c m H W kh kw C D (srcV (m * (C * D)) (o * (m * (C * D))) e) := by
            show ((List.range (A * (2 * m * (C * D)))).map fun k => biasV ([a1, a2].map canonT) (k % (2 * m * (C * D)) / (C * D)) (elV (withG a0 2) a1 a2 2 c m H W kh kw C D k)).getD _ 0 = _
            rw [List.getD_eq_getElem?_getD, List.getElem?_map, List.getElem?_range (by rw [eN2]; exact hsl)]
            rfl
          rw [hget]
          unfold elV
          have I := ix_of he
          have hP : 0 < m * (C * D) := Nat.pos_of_ne_zero fun h => by rw [h] at he; simp at he
          have hQ : 0 < C * D := Nat.pos_of_ne_zero fun h => by rw [h] at hP; simp at hP
          have e2m : 2 * m * (C * D) = 2 * (m * (C * D)) := Nat.mul_assoc _ _ _
          have hr := Nat.mod_lt e hP
          have hin : o * (m * (C * D)) + e % (m * (C * D)) < 2 * (m * (C * D)) := by
            have : o = 0 ∨ o = 1 := by omega
            rcases this with rfl | rfl <;> omega
          have s1 : srcV (m * (C * D)) (o * (m * (C * D))) e / (2 * m * (C * D)) = e / (m * (C * D)) := by
            unfold srcV
            rw [e2m, Nat.add_assoc, Nat.mul_comm (e / (m * (C * D))), Nat.mul_add_div (by omega), Nat.div_eq_of_lt hin]; rfl
          have s2 : srcV (m * (C * D)) (o * (m * (C * D))) e % (2 * m * (C * D)) = o * (m * (C * D)) + e % (m * (C * D)) := by
            unfold srcV
            rw [e2m, Nat.add_assoc, Nat.mul_comm (e / (m * (C * D))), Nat.mul_add_mod, Nat.mod_eq_of_lt hin]
          have s3 : (o * (m * (C * D)) + e % (m * (C * D))) / (C * D) = e % (m * (C * D)) / (C * D) + o * m := by
            rw [← Nat.mul_assoc, Nat.mul_comm (o * m), Nat.mul_add_div hQ, Nat.add_comm]
          have s4 : (o * (m * (C * D)) + e % (m * (C * D))) % (C * D) = e % (m * (C * D)) % (C * D) := by
            rw [← Nat.mul_assoc, Nat.mul_comm (o * m), Nat.mul_add_mod]
          rw [s1, s2, s3, s4, Nat.one_mul]
          congr 1
          refine (terms_half (s1 := withG a0 1) (s2 := withG a0 2) E1 E ho2 ?_ ?_ I.a I.b).symm
          · intro q hq
            rw [hxF, List.getD_eq_getElem?_getD, List.getElem?_map, List.getElem?_range hq]; rfl
          · intro q hq
            rw [oF]; exact hlv q hq
        rw [heq]
        have lb : (ansV (withG a0 1) hx own [] A 1 c m H W kh kw C D).fF.length = A * (1 * m * (C * D)) := by simp [ansV]
        have eNb : prod [(A : Int), (m : Int), (C : Int), (D : Int)] = ((A * (m * (C * D)) : Nat) : Int) := by simp [prod]
        have hNb := gd1.2.2
        rw [eNb] at hNb
        rw [refSame_spec ⟨by simp [ansV], by rw [lb, Nat.one_mul]; omega, by simp [ansV], by simp [ansV]⟩ ⟨by simp [ansV]; omega, by rw [lb, Nat.one_mul]; omega, by simp [ansV], by simp [ansV]⟩, ob_some, sameT_self]
      have hwd : ∀ z ∈ a2.fF, 0 ≤ z ∧ z < 4294967296 := ty.2.2.2.2
      by_cases h3 : a3 = true
      · rw [if_pos h3]
        refine key 1 true _ rfl ?_ ?_ ?_
        · unfold subN; simp only [List.length_take, List.length_drop]; omega
        · intro e he
          unfold subN
          rw [List.getD_eq_getElem?_getD, List.getD_eq_getElem?_getD, List.getElem?_take, if_pos (by omega), List.getElem?_drop, Nat.one_mul]
        · intro z hz
          exact hwd z (List.mem_of_mem_drop (List.mem_of_mem_take hz))
      · rw [if_neg h3]
        refine key 0 false _ rfl ?_ ?_ ?_
        · unfold subN; simp only [List.length_take, List.length_drop]; omega
        · intro e he
          unfold subN
          rw [List.getD_eq_getElem?_getD, List.getD_eq_getElem?_getD, List.getElem?_take, if_pos (by omega), List.drop_zero, Nat.zero_mul, Nat.zero_add]
        · intro z hz
          exact hwd z (List.mem_of_mem_drop (List.mem_of_mem_take hz))
end Go.Av
