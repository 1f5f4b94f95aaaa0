/- ConvColumns: the law over the plain functions (continued). Conditions: those that each names. -/
import Derived.Test.YtpbegnnholhkdaaGreatVV
import Derived.Test.YtpbegnnholhkdaaGreatQA
set_option linter.unusedVariables false
namespace Go.Av
section
variable {fu : Nat} {s : T_Setting} {t0 t1 : T_Tensor} {rest : List T_Tensor} {A gr c m H W kh kw C D : Nat} {T : T_conv_work → Int → Int → Int → Int → Option Int}
def elV (s : T_Setting) (t0 t1 : T_Tensor) (gr c m H W kh kw C D k : Nat) : Int :=
  sumOf 0 (termsV (canonT t0) (canonT t1) gr c m H W kh kw (axV s 0 (H : Int) (kh : Int)) (axV s 1 (W : Int) (kw : Int)) (k / (gr * m * (C * D))) (k % (gr * m * (C * D)) / (C * D)) (k % (gr * m * (C * D)) % (C * D) / D) (k % (gr * m * (C * D)) % (C * D) % D))
def ansV (s : T_Setting) (t0 t1 : T_Tensor) (rest : List T_Tensor) (A gr c m H W kh kw C D : Nat) : T_Tensor :=
  ⟨1, [(A : Int), ((gr * m : Nat) : Int), (C : Int), (D : Int)], (List.range (A * (gr * m * (C * D)))).map fun k => biasV ((t0 :: t1 :: rest).map canonT) (k % (gr * m * (C * D)) / (C * D)) (elV s t0 t1 gr c m H W kh kw C D k), [], []⟩
theorem k1G_ok {x0 x1 x2 x3 y0 y1 y2 y3 : Int} (hV : Tens fu (t0 :: t1 :: rest)) (hf : 1200000 < fu) (hS : SizedV ((t0 :: t1 :: rest).map valOf)) (hN : NodeC s ((t0 :: t1 :: rest).map valOf) x0 x1 x2 x3 y0 y1 y2 y3)
    (a : Ans s t0 t1 rest A gr c m H W kh kw C D) (hd : dimsC s x0 x2 x3 y0 y2 y3 = [(A : Int), ((gr * m : Nat) : Int), (C : Int), (D : Int)])
    (hT : ∀ i k p q : Nat, i < A → k < gr * m → p < C → q < D → p ≤ 4096 → q ≤ 4096 → T (cvW s ((t0 :: t1 :: rest).map canonT) [(A : Int), ((gr * m : Nat) : Int), (C : Int), (D : Int)] (axV s 0 (H : Int) (kh : Int)) (axV s 1 (W : Int) (kw : Int))) (i : Int) (k : Int) (p : Int) (q : Int) =
      some (sumOf 0 (termsV (canonT t0) (canonT t1) gr c m H W kh kw (axV s 0 (H : Int) (kh : Int)) (axV s 1 (W : Int) (kw : Int)) i k p q))) :
    k1G T fu s (t0 :: t1 :: rest) ((t0 :: t1 :: rest).map canonT) = some (ansV s t0 t1 rest A gr c m H W kh kw C D, 0) := by
  obtain ⟨f, rfl⟩ : ∃ f, fu = f + 3 := ⟨fu - 3, by omega⟩
  have hlv : ((t0 :: t1 :: rest).map valOf).length ≤ 3 := hN.full.2.1
  have gd := a.gd
  have E := a.cv
  have hC := gd.2.1 (C : Int) (by simp)
  have hD := gd.2.1 (D : Int) (by simp)
  unfold k1G
  rw [Vals_all hV, ob_some, Node_fwd hN hS (by omega), ob_some, if_pos rfl, hd]
  show (some _).bind _ = _
  rw [ob_some]
  show (some (canonT t0)).bind _ = _
  rw [ob_some]
  show (some (canonT t1)).bind _ = _
  rw [ob_some, E.dX, E.dY]
  show (some (H : Int)).bind _ = _
  rw [ob_some]
  show (some (kh : Int)).bind _ = _
  rw [ob_some]
  have x0' := axisOf_spec (fu := f + 3) (s := s) (a := 0) (sz := (H : Int)) (k := (kh : Int)) a.attr (by decide) (by omega)
  have x1' := axisOf_spec (fu := f + 3) (s := s) (a := 1) (sz := (W : Int)) (k := (kw : Int)) a.attr (by decide) (by omega)
  show (conv_axisOf (f + 3) s ((0 : Nat) : Int) (H : Int) (kh : Int)).bind _ = _
  rw [x0', ob_some]
  show (some (W : Int)).bind _ = _
  rw [ob_some]
  show (some (kw : Int)).bind _ = _
  rw [ob_some]
  show (conv_axisOf (f + 3) s ((1 : Nat) : Int) (W : Int) (kw : Int)).bind _ = _
  rw [x1', ob_some]
  show (tens_New (f + 3) 1 [(A : Int), ((gr * m : Nat) : Int), (C : Int), (D : Int)]).bind _ = _
  rw [New_spec (N := A * (gr * m * (C * D))) gd (by simp [prod]) (by omega), ob_some]
  refine each_spec (tV := elV s t0 t1 gr c m H W kh kw C D) gd (by omega) ?_ ?_
  · intro k hk
    have I := ix_of hk
    have := I.c; have := I.d
    exact hT _ _ _ _ I.a I.b I.c I.d (by omega) (by omega)
  · intro h2 h3
    cases rest with
    | nil => simp at h2
    | cons r rs =>
      have e : ((t0 :: t1 :: r :: rs).map canonT).getD 2 noT = canonT r := rfl
      rw [e] at h3 ⊢
      show (r.fF.map canonF).length = _
      rw [List.length_map]
      exact a.bias r rfl h3
end
theorem Do_k1 {fu : Nat} {s : T_Setting} {ts own : List T_Tensor} : conv_Do.k1 fu s ts own = k1G (fun w => conv_work_sum fu w) fu s ts own := rfl
theorem Columns_k1 {fu : Nat} {s : T_Setting} {ts own : List T_Tensor} : conv_Columns.k1 fu s ts own = k1G (fun w => conv_work_column fu w) fu s ts own := rfl
theorem Do_head {fu : Nat} {s : T_Setting} {ts : List T_Tensor} (h : Tens fu ts) : conv_Do fu 75 s ts = match badV ts with | some e => some (noT, e) | none => conv_Do.k1 fu s ts (ts.map canonT) := by
  have e : conv_Do fu 75 s ts = conv_Do.W2 fu s ts [] 0 := rfl
  rw [e]; unfold conv_Do.W2
  exact head_loop h (er := fun e => some (noT, e)) (fun nx acc i => rfl)
theorem Columns_head {fu : Nat} {s : T_Setting} {ts : List T_Tensor} (h : Tens fu ts) : conv_Columns fu s ts = match badV ts with | some e => some (noT, e) | none => conv_Columns.k1 fu s ts (ts.map canonT) := by
  have e : conv_Columns fu s ts = conv_Columns.W2 fu s ts [] 0 := rfl
  rw [e]; unfold conv_Columns.W2
  exact head_loop h (er := fun e => some (noT, e)) (fun nx acc i => rfl)
theorem sized_of {ts : List T_Tensor} (h : ∀ t ∈ ts, t.fType = 0 ∨ checkV t = 0) : SizedV (ts.map valOf) := by
  intro v hv
  obtain ⟨t, ht, rfl⟩ := List.mem_map.1 hv
  by_cases h0 : t.fType = 0
  · left; unfold valOf; rw [if_pos h0]; exact ⟨rfl, rfl⟩
  · right; unfold valOf; rw [if_neg h0]; exact (checkV_zero.1 ((h t ht).resolve_left h0)).2.1
theorem k1G_bad {fu : Nat} {s : T_Setting} {ts own : List T_Tensor} {e : Int} {T : T_conv_work → Int → Int → Int → Int → Option Int} (hV : Tens fu ts) (he : e ≠ 0) (hN : infer_Node fu 75 s (ts.map valOf) 1 = some ([], e)) : k1G T fu s ts own = some (noT, e) := by
  unfold k1G
  rw [Vals_all hV, ob_some, hN, ob_some, if_neg he]
/-- both ways come to one answer -/
theorem both {s : T_Setting} {ts : List T_Tensor} {fu : Nat} (hV : Tens (fu + 3) ts) (hf : 1200000 < fu) : ∃ r : T_Tensor × Int, conv_Do (fu + 3) 75 s ts = some r ∧ conv_Columns (fu + 3) s ts = some r ∧ Small r.1 ∧ Fuel (fu + 3) r.1 := by
  rw [Do_head hV, Columns_head hV]
  have hno : Small noT ∧ Fuel (fu + 3) noT := ⟨⟨by decide, by decide, by decide, by decide⟩, ⟨by simp [noT], by simp [noT], by simp [noT], by simp [noT]⟩⟩
  cases hb : badV ts with
  | some e => exact ⟨_, rfl, rfl, hno⟩
  | none =>
    have hT := badV_none hb
    have hS := sized_of hT
    have hl := hV.1
    show ∃ r : T_Tensor × Int, conv_Do.k1 (fu + 3) s ts (ts.map canonT) = some r ∧ conv_Columns.k1 (fu + 3) s ts (ts.map canonT) = some r ∧ Small r.1 ∧ Fuel (fu + 3) r.1
    rw [Do_k1, Columns_k1]
    rcases Node_tot (fu := fu) (s := s) hS (by rw [List.length_map]; exact hl) (by rw [List.length_map]; omega) with ⟨e, he, hN⟩ | ⟨x0, x1, x2, x3, y0, y1, y2, y3, hN⟩
    · exact ⟨_, k1G_bad hV he hN, k1G_bad hV he hN, hno⟩
    · have h2 := hN.full.1
      match ts, hV, hT, hS, hN, h2 with
      | t0 :: t1 :: rest, hV, hT, hS, hN, _ =>
        obtain ⟨A, gr, c, m, H, W, kh, kw, C, D, a, hd⟩ := ans_of hT hN
        refine ⟨_, k1G_ok hV (by omega) hS hN a hd ?_, k1G_ok hV (by omega) hS hN a hd ?_, ?_, ?_⟩
        · intro i k p q hi hk hp hq hp2 hq2
          exact sum_spec a.cv rfl rfl hi hk hp2 hq2 (by omega)
        · intro i k p q hi hk hp hq hp2 hq2
          exact column_spec a.cv rfl rfl a.attr rfl rfl a.w0 a.w1 a.gx hi hk (by rw [show (axV s 0 (H : Int) (kh : Int)).fwindows = (winA s 0 (H : Int) (kh : Int)).1 from rfl, a.n0]; omega) (by rw [show (axV s 1 (W : Int) (kw : Int)).fwindows = (winA s 1 (W : Int) (kw : Int)).1 from rfl, a.n1]; omega) hp2 hq2 (by omega)
        · have eN : prod [(A : Int), ((gr * m : Nat) : Int), (C : Int), (D : Int)] = ((A * (gr * m * (C * D)) : Nat) : Int) := by simp [prod]
          have hg := a.gd.2.2
          rw [eN] at hg
          exact ⟨by simp [ansV], by simp [ansV]; omega, by simp [ansV], by simp [ansV]⟩
        · have eN : prod [(A : Int), ((gr * m : Nat) : Int), (C : Int), (D : Int)] = ((A * (gr * m * (C * D)) : Nat) : Int) := by simp [prod]
          have hg := a.gd.2.2
          rw [eN] at hg
          exact ⟨by simp [ansV]; omega, by simp [ansV]; omega, by simp [ansV], by simp [ansV]⟩
theorem ten_of {t : T_Tensor} (h : Q_28 t) : Ten t ∧ t.fDims.length ≤ 1048576 ∧ t.fF.length ≤ 1048576 ∧ t.fI.length ≤ 1048576 ∧ t.fB.length ≤ 1048576 := by
  obtain ⟨_, h1, h2, h3, h4, _⟩ := h
  have l1 := h1.1; have l2 := h2.1; have l3 := h3.1; have l4 := h4.1
  refine ⟨⟨by omega, by omega, by omega, by omega, fun x hx => ?_⟩, l1, l2, l3, l4⟩
  have := h2.2 x hx
  simp [Lit.wf, IntKind.min, IntKind.max, IntKind.signed, IntKind.bits] at this
  omega
theorem tens_of {ts : List T_Tensor} {fu : Nat} (hf : 1200000 < fu) (h : ts.length ≤ 1048576 ∧ ∀ z0 ∈ ts, (Q_28 z0)) : Tens fu ts := by
  have hl := h.1
  refine ⟨hl, by omega, fun t ht => ?_⟩
  obtain ⟨a, b1, b2, b3, b4⟩ := ten_of (h.2 t ht)
  exact ⟨a, by omega, by omega, by omega, by omega⟩
theorem law_6 (a0 : T_Setting) (a1 : List T_Tensor) (w0 : Q_30 a0) (w1 : a1.length ≤ 1048576 ∧ ∀ z0 ∈ a1, (Q_28 z0)) : ∃ fu, law15_ConvColumns fu a0 a1 = some true := by
  obtain ⟨r, h1, h2, h3, h4⟩ := both (s := a0) (ts := a1) (fu := 2000000) (tens_of (by decide) w1) (by decide)
  refine ⟨2000000 + 3, ?_⟩
  unfold law15_ConvColumns
  rw [h1, ob_some, h2, ob_some, if_pos rfl, refSame_spec h3 h4, ob_some, sameT_self]
end Go.Av
