/- The walk of a law whose function makes rows of its own inside of a list. Conditions: those that each names. -/
import Derived.Test.YteafmomjfnlkgaaGreatVV
import Derived.Test.YteafmomjfnlkgaaGreatQ8A
import Derived.Test.YteafmomjfnlkgaaGreatProg
set_option linter.unusedVariables false
set_option linter.unusedSimpArgs false
set_option linter.defProp false
set_option maxRecDepth 20000
open Go Go.Proofs
namespace Go.Av
def d22 : List (Nat × List Nat) := [(0, [2]), (0, [7, 8, 9]), (0, [508000003]), (0, []), (0, [0]), (0, []), (0, []), (0, []), (0, [11, 12]), (0, []), (0, [13]), (0, []), (0, [14, 15]), (0, []), (8, [17, 18, 19, 20, 21, 22, 23, 24]), (0, []), (0, [5, 6, 25, 26, 27, 28]), (0, []), (0, [29]), (0, []), (0, [3, 30])]
def d22_at := by have h := tabL d22.eq_1; simp only [AllAt, Nat.zero_add, Nat.reduceAdd] at h; exact h
theorem i22 : finfo Tryz.prog 22 d22 = some ⟨bodyOf Tryz.f22, [.tmp 2], [46]⟩ := finfo_at Tryz.func22 rfl (by kernel_rfl) (by kernel_rfl)
def d8 : List (Nat × List Nat) := [(0, [2]), (0, [0, 4, 5, 6]), (0, [9]), (0, []), (0, [10, 11]), (0, [7]), (0, [12, 13]), (0, []), (0, [3, 14, 15, 16, 17, 18, 19, 20, 21]), (0, [8]), (0, []), (0, []), (0, []), (0, []), (0, [23, 24, 25]), (0, []), (0, [27, 28]), (0, []), (52, [29, 30, 31, 32, 33, 34, 35, 36, 37, 38, 39, 40, 41, 42, 43, 44, 45, 46, 47, 48, 49, 50, 51, 52, 53, 54, 55, 56, 57, 58, 59, 60, 61, 62, 63, 64, 65, 66, 67, 68, 69, 70, 71, 72, 73, 74, 75, 76, 77, 78, 79]), (0, []), (0, []), (0, []), (0, []), (0, []), (0, [81, 82, 83, 84, 85, 86, 87, 88]), (0, []), (0, [90, 91]), (0, []), (18, [92, 93, 94, 95, 96, 97, 98, 99, 100, 101, 102, 103, 104, 105, 106, 107, 108, 109]), (0, []), (0, []), (0, []), (0, [110, 111, 112, 113, 114, 115, 116]), (0, []), (0, [118, 119]), (0, []), (0, [120, 121, 122, 123, 124, 125, 126]), (0, []), (13, [127, 128, 129, 130, 131, 132, 133, 134, 135, 136, 137, 138]), (0, []), (0, []), (0, []), (0, [])]
def d8_at := by have h := tabL d8.eq_1; simp only [AllAt, Nat.zero_add, Nat.reduceAdd] at h; exact h
theorem i8 : finfo Tryz.prog 8 d8 = some ⟨bodyOf Tryz.f8, [.tmp 2], [4]⟩ := finfo_at Tryz.func8 rfl (by kernel_rfl) (by kernel_rfl)
section
variable {P : Program} {C : Cfg} {cp : CallP} {ci : CallI} {lvl : Nat} {prot : List Id} {D : List (Nat × List Nat)} {n : Nat} {K : KK} {fs : List Fr} {c : Code} {res : Option AV}
theorem gl_go {k : Nat} {e : Env} {h : Heap} : gl P C cp ci lvl prot D n K c (k + 1) e h fs = go P C cp ci lvl prot D n K c e (sweep prot e h) (.loop c k :: fs) := by
  unfold gl
  simp only [aloop, go]
  cases exec P C cp ci lvl prot D n c e (sweep prot e h) with
  | none => rfl
  | some r => rcases r with ⟨_ | _ | _, _, _⟩ <;> rfl
theorem gl_ind (N : Nat) (Inv : Nat → Env → Heap → Prop)
    (step : ∀ k i e h, i < N → Inv i e h → (∀ e' h', Inv (i + 1) e' h' → gl P C cp ci lvl prot D n K c k e' h' fs = res) → go P C cp ci lvl prot D n K c e (sweep prot e h) (.loop c k :: fs) = res)
    (last : ∀ k e h, Inv N e h → go P C cp ci lvl prot D n K c e (sweep prot e h) (.loop c k :: fs) = res) :
    ∀ (m i k : Nat) (e : Env) (h : Heap), i + m = N → m < k → Inv i e h → gl P C cp ci lvl prot D n K c k e h fs = res
  | 0, i, k + 1, e, h, hi, _, hv => by rw [gl_go]; exact last k e h (by rw [show N = i by omega]; exact hv)
  | m + 1, i, k + 1, e, h, hi, hk, hv => by
    rw [gl_go]
    exact step k i e h (by omega) hv fun e' h' hv' => gl_ind N Inv step last m (i + 1) k e' h' (by omega) (by omega) hv'
  | _, _, 0, _, _, _, hk, _ => by omega
end
noncomputable def b22 : Code := bodyOf Tryz.f22
theorem go_b22 {C : Cfg} {cp : CallP} {ci : CallI} {lvl : Nat} {prot : List Id} {D : List (Nat × List Nat)} {n : Nat} {K : KK} {e : Env} {h : Heap} {fs : List Fr} : go Tryz.prog C cp ci lvl prot D n K b22 e h fs = go Tryz.prog C cp ci lvl prot D n K (bodyOf Tryz.f22) e h fs := rfl
noncomputable def ciV (cp : CallP) (fu : Nat) : CallI := ciE Tryz.prog (inlC [22]) cp noI fu 22 d22 ⟨b22, [.tmp 2], [46]⟩ noI
structure Cps (cp : CallP) (l : List T_Tensor) (vs : List T_Val) : Prop where
  aw : cp 9 [] = some (.v (.bool true))
  cl : ∀ x ∈ l, cp 48 [.arr x.fDims.length (lm (ik .i64) x.fDims)] = some (.fresh 1 x.fDims.length (lm (ik .i64) x.fDims))
  cy : ∀ x ∈ l, cp 49 [.agg (c_T_Tensor x)] = some (.agg [.v (.int .i64 x.fType), .fresh 1 x.fDims.length (lm (ik .i64) x.fDims), .fresh 1 x.fF.length (lm (ik .u32) x.fF), .fresh 1 x.fI.length (lm (ik .i64) x.fI), .fresh 1 x.fB.length (lm (bk) x.fB)])
  va : cp 19 [.arr l.length (fm c_T_Tensor l)] = some (.arr vs.length (fm c_T_Val vs))
  si : ∀ x ∈ l, cp 16 [.arr x.fDims.length (lm (ik .i64) x.fDims), .arr x.fDims.length (lm (ik .i64) x.fDims)] = some (.v (.bool true))
  si0 : cp 16 [.arr 0 [], .arr 0 []] = some (.v (.bool true))
  sa : ∀ x ∈ l, cp 13 [.agg (c_T_Tensor x), .agg (c_T_Tensor x)] = some (.v (.bool true))
  sa0 : cp 13 [.agg (c_T_Tensor (T_Tensor.mk 0 [] [] [] [])), .agg (c_T_Tensor (T_Tensor.mk 0 [] [] [] []))] = some (.v (.bool true))
structure VS (l : List T_Tensor) (vs : List T_Val) : Prop where
  eq : vs = l.map vo
theorem VS.len {l : List T_Tensor} {vs : List T_Val} (h : VS l vs) : vs.length = l.length := by rw [h.eq, List.length_map]
theorem VS.at {l : List T_Tensor} {vs : List T_Val} {i : Nat} {x : T_Tensor} (h : VS l vs) (hx : l[i]? = some x) : vs[i]? = some (vo x) := by rw [h.eq, List.getElem?_map, hx]; rfl
def ev1 (l : List T_Tensor) (i : Nat) : Env := [(3, .own (1, 3, 77) 0 i i), (5, .ptr (1, 5, 0) 0 0), (6, .ptr (1, 6, 0) 0 0), (7, .arr l.length (fm c_T_Tensor l)), (8, .v (.int .i64 l.length)), (9, .v (.int .i64 (i : Int)))]
set_option maxHeartbeats 4000000 in
theorem w8 (cp : CallP) (fu : Nat) (l : List T_Tensor) (vs : List T_Val) (hvs : VS l vs) (H : Cps cp l vs) (hl : l.length ≤ 1048576) (hlf : ∀ x ∈ l, x.fDims.length ≤ 1048576 ∧ x.fF.length ≤ 1048576) (hf : 1048577 < fu) : go Tryz.prog (inlC [22]) cp (ciV cp fu) 0 [] d8 fu (fin Tryz.prog [.tmp 2] [4]) (bodyOf Tryz.f8) (initE 0 [.arr l.length (fm c_T_Tensor l)]) [] [] = some (.v (.bool true)) := by
  have z0 := d8_at
  have z1 := d22_at
  have z2 := H.aw
  have z3 := H.va
  have z4 := RI
  have z5 := RIk
  have z6 := @bodyOf.eq_1
  have z7 := Tryz.f22.eq_1
  have z9 := @iaW _ _ _ _ _ tv46
  have z8 := @go_b22
  conv => lhs; simp only [bodyOf, Tryz.f8]
  conv => lhs; unfold ciV; simp (maxSteps := 20000000) (disch := first | exact Zd | fail) only [ZG, simprocAttr, *, gopen_ob]
  refine gl_ind l.length (fun i e h => e = [(3, .own (1, 3, 77) 0 i i), (7, .arr l.length (fm c_T_Tensor l)), (8, .v (.int .i64 l.length)), (9, .v (.int .i64 (i : Int)))] ∧ HV h l i (cnt (l.take i))) ?_ ?_ l.length 0 _ _ _ (by omega) (by omega) ⟨?_, ?_⟩
  · intro k i e h hi hv nx
    obtain ⟨he, hv⟩ := hv
    have hs : HS (sweep [] e h) l i := hv.sw (by subst he; rfl) (by intro id hid; subst he; simp [namedE, names]; rintro rfl; simp at hid)
    generalize sweep [] e h = h1 at hs ⊢
    subst he
    generalize kin _ _ _ _ = K at nx ⊢
    obtain ⟨x, hx⟩ : ∃ x, l[i]? = some x := ⟨l[i], List.getElem?_eq_getElem hi⟩
    have hb5 := hs.b5
    have hb6 := hs.b6
    have y0 : decide ((i : Int) < (l.length : Int)) = true := decide_eq_true (by omega)
    have y1 := fm_cut c_T_Tensor_len hx
    have y2 := fm_fit c_T_Tensor_len hx
    conv => lhs; simp (maxSteps := 20000000) (disch := first | exact Zd | omega | fail) only [ZG, simprocAttr, *]
    generalize hT : sweepFrom [] _ (sweepFrom [] _ h1 h1) (sweepFrom [] _ h1 h1) = h2
    have hs2 : HS h2 l i := by
      rw [← hT]
      exact hs.v.sw rfl (by intro id hid; simp [namedE, names]; rintro rfl; simp at hid)
    clear hT hb5 hb6 hs
    have hb5 := hs2.b5
    have hb6 := hs2.b6
    have hb27 := hs2.b27
    have ho := hs2.v.o
    have y6 : wk .i64 ((i : Int) + 1) = (i : Int) + 1 := wk_i64 (by omega) (by omega)
    conv => lhs; simp (maxSteps := 20000000) (disch := first | exact Zd | omega | (simp (disch := omega) only [get_ne3, get_set_same, *]; done) | fail) only [ZG, simprocAttr, *, get_ne3, get_set_same]
    generalize hT : Heap.set (Heap.set (Heap.set (Heap.set h2 _ _) _ _) _ _) _ _ = h3
    have hv3 : HV h3 l i (cnt (l.take i)) := by
      rw [← hT]
      refine ((((hs2.v.put (.inl rfl) ?_).put (.inl rfl) ?_).put (.inr (.inl rfl)) ?_).put (.inr (.inl rfl)) ?_) <;> intro id hid <;> rfl
    have c5 : h3.get (1, 5, 0) = some (.bx true (c_T_Tensor x)) := by
      rw [← hT]
      simp (disch := omega) only [get_ne3, get_set_same]
      rfl
    have c6 : h3.get (1, 6, 0) = some (.bx true [.v (.int .i64 0), .v (.slice none 0 0), .v (.bool false), .v (.int .i64 0), .v (.slice none 0 0), .v (.slice none 0 0), .v (.slice none 0 0), .v (.slice none 0 0)]) := by
      rw [← hT]
      simp (disch := omega) only [get_ne3, get_set_same]
    have c27 : h3.get (1, 27, 0) = none := by
      rw [← hT]
      simp (disch := omega) only [get_ne3, get_set_same, hb27]
    clear hT hb5 hb6 hb27 ho hs2
    by_cases h0 : x.fType = 0
    · have y4 : (!decide (x.fType = 0)) = false := by simp [h0]
      conv => lhs; simp (maxSteps := 20000000) (disch := first | exact Zd | omega | (simp (disch := omega) only [get_ne3, get_set_same, *]; done) | fail) only [ZG, simprocAttr, *, get_ne3, get_set_same]
      generalize hT : sweepFrom [] _ (sweepFrom [] _ h3 h3) (sweepFrom [] _ h3 h3) = h4
      have hb4 := (HB.mk hv3 c6 c27).sw (e := ev1 l i) (fun j hj => .inl hj) rfl rfl
      have hT' : sweep [] (ev1 l i) h3 = h4 := hT
      rw [hT'] at hb4
      clear hT hT'
      obtain ⟨hb4, -⟩ := hb4
      have g6 := hb4.b6
      have g27 := hb4.b27
      have go3 := hb4.v.o
      conv => lhs; simp (maxSteps := 20000000) (disch := first | exact Zd | omega | (simp (disch := omega) only [get_ne3, get_set_same, *]; done) | fail) only [ZG, simprocAttr, *, get_ne3, get_set_same, appJ_op, appO_at, appO1_at, appO2_at]
      refine nx _ _ ⟨rfl, HV.next (by rw [show nTy x = 0 by simp [nTy, h0]]; exact hb4.v) hx (by simp [elc, h0]) fun hh => absurd h0 hh⟩
    · have y4 : (!decide (x.fType = 0)) = true := by simp [h0]
      have hm := List.mem_of_getElem? hx
      have u1 := H.cl x hm
      have u2 := H.cy x hm
      have u3 := H.cy x hm
      unfold c_T_Tensor at u3
      have hcn : cnt (l.take i) < 2097152 := by have := cnt_le (l.take i); have h2 : (l.take i).length ≤ l.length := List.length_take_le' i l; omega
      generalize hcc : cnt (l.take i) = c at *
      have P1 := hv3.p1
      have P3 := hv3.p3
      have P30 : ∀ j, j < c → (h3.get (1, 23, 100 * j)).isSome = true := fun j hj => by have := P3 j 0 hj (by omega); rwa [Nat.zero_add] at this
      have q1 := hv3.q1 c (Nat.le_refl _)
      have q30 : h3.get (1, 23, 100 * c) = none := by have := hv3.q3 c 0 (Nat.le_refl _) (by omega); rwa [Nat.zero_add] at this
      have q31 := hv3.q3 c 1 (Nat.le_refl _) (by omega)
      have q32 := hv3.q3 c 2 (Nat.le_refl _) (by omega)
      have q33 := hv3.q3 c 3 (Nat.le_refl _) (by omega)
      have F0 := @freB0 c hcn
      have F1 := @freB1 c hcn
      conv => lhs; simp (maxSteps := 20000000) (disch := first | exact Zd | omega | (simp (disch := omega) only [get_ne3, get_set_same, *]; done) | (intro j hj; simp (disch := omega) only [get_ne3]; first | exact P1 j hj | exact P30 j hj | exact P3 j _ hj (by omega)) | fail) only [ZG, simprocAttr, *, get_ne3, get_set_same]
      generalize hT : sweepFrom [] _ (sweepFrom [] _ (Heap.set _ (1, 6, 0) _) _) _ = h4
      have e0 : elc (x, c) = [.v (.int .i64 x.fType), .own (1, 21, 100 * c) 0 x.fDims.length x.fDims.length, .v (.bool true), .v (.int .i64 x.fType), .own (1, 23, 100 * c) 0 x.fDims.length x.fDims.length,
        .own (1, 23, 1 + 100 * c) 0 x.fF.length x.fF.length, .own (1, 23, 2 + 100 * c) 0 x.fI.length x.fI.length, .own (1, 23, 3 + 100 * c) 0 x.fB.length x.fB.length] := by simp [elc, h0]
      have hT' : sweep [] (ev1 l i) ((put5 h3 x c).set (1, 6, 0) (.bx true (elc (x, c)))) = h4 := by
        rw [e0]
        exact hT
      subst hcc
      have hv5 : HB ((put5 h3 x (cnt (l.take i))).set (1, 6, 0) (.bx true (elc (x, cnt (l.take i))))) l i (cnt (l.take i) + 1) (elc (x, cnt (l.take i))) :=
        ⟨hv3.put5.put (.inr (.inl rfl)) (fun id hid => elc_nb hid), get_set_same _ _ _, by rw [get_ne3 (by omega), put5_ne (by omega)]; exact c27⟩
      have hb4 := hv5.sw (e := ev1 l i) (fun j hj => by
        rcases Nat.lt_or_ge j (cnt (l.take i)) with hjj | hjj
        · exact .inl hjj
        · rw [show j = cnt (l.take i) by omega]; exact .inr (Nms_elc h0)) rfl rfl
      rw [hT'] at hb4
      obtain ⟨hb4, hk⟩ := hb4
      have hr : Rws h4 x (cnt (l.take i)) := by
        refine Rws.sw (h := (put5 h3 x (cnt (l.take i))).set (1, 6, 0) (.bx true (elc (x, cnt (l.take i))))) ?_ h0 hk
        have R := put5_rws (h := h3) (x := x) (c := cnt (l.take i))
        exact ⟨by rw [get_ne3 (by omega)]; exact R.d, by rw [get_ne3 (by omega)]; exact R.e, by rw [get_ne3 (by omega)]; exact R.f, by rw [get_ne3 (by omega)]; exact R.i, by rw [get_ne3 (by omega)]; exact R.b⟩
      clear hT hT' F0 F1 P1 P3 P30 q1 q30 q31 q32 q33
      have g6 := hb4.b6
      rw [e0] at g6
      have r1 := hr.d
      have r2 := hr.e
      have r3 := hr.f
      have r4 := hr.i
      have r5 := hr.b
      have g27 := hb4.b27
      have go3 := hb4.v.o
      conv => lhs; simp (maxSteps := 20000000) (disch := first | exact Zd | omega | (simp (disch := omega) only [get_ne3, get_set_same, *]; done) | fail) only [ZG, simprocAttr, *, get_ne3, get_set_same, appJ_op, appO_at, appO1_at, appO2_at]
      refine nx _ _ ⟨rfl, HV.next (by rw [show nTy x = 1 by simp [nTy, h0]]; exact hb4.v) hx e0.symm fun _ => hr⟩
  · intro k e h hv
    obtain ⟨he, hv⟩ := hv
    have hs : HS (sweep [] e h) l l.length := hv.sw (by subst he; rfl) (by intro id hid; subst he; simp [namedE, names]; rintro rfl; simp at hid)
    generalize sweep [] e h = h1 at hs ⊢
    subst he
    have y0 : decide ((l.length : Int) < (l.length : Int)) = false := by simp
    conv => lhs; simp (maxSteps := 20000000) (disch := first | exact Zd | omega | fail) only [ZG, simprocAttr, *]
    generalize hT : sweepFrom [] _ (sweepFrom [] _ h1 h1) (sweepFrom [] _ h1 h1) = h2
    have hl2 : LV h2 l 0 := by
      rw [← hT]
      exact (LV.of hs.v).sw rfl
    clear hT hs
    have y1 : (!decide ((l.length : Int) = (vs.length : Int))) = false := by rw [hvs.len]; simp
    conv => lhs; simp (maxSteps := 20000000) (disch := first | exact Zd | omega | fail) only [ZG, simprocAttr, *]
    generalize hT : sweepFrom [] _ (sweepFrom [] _ h2 h2) (sweepFrom [] _ h2 h2) = h3
    have hl3 : LV h3 l 0 := by
      rw [← hT]
      exact hl2.sw rfl
    clear hT hl2 y1 y0 hv
    refine gl_ind l.length (fun i e h => e = [(0, .arr l.length (fm c_T_Tensor l)), (4, .own (1, 3, 77) 0 l.length l.length), (5, .arr vs.length (fm c_T_Val vs)), (6, .v (.int .i64 (i : Int)))] ∧ LV h l i) ?_ ?_ l.length 0 _ _ _ (by omega) (by omega) ⟨rfl, hl3⟩
    · clear hl3 h3 h2 h1 h k
      intro k i e h hi hv nx
      obtain ⟨he, hv⟩ := hv
      have hs : LV (sweep [] e h) l i := hv.sw (by subst he; rfl)
      generalize sweep [] e h = h1 at hs ⊢
      clear hv
      subst he
      obtain ⟨x, hx⟩ : ∃ x, l[i]? = some x := ⟨l[i], List.getElem?_eq_getElem hi⟩
      obtain ⟨c, hc⟩ := tag_at hx
      have hvx : vs[i]? = some (vo x) := hvs.at hx
      have hm := List.mem_of_getElem? hx
      have y0 : decide ((i : Int) < (l.length : Int)) = true := decide_eq_true (by omega)
      have hiv : (i : Int) < vs.length := by rw [hvs.len]; omega
      have go := hs.o
      conv => lhs; simp (maxSteps := 20000000) (disch := first | exact Zd | omega | fail) only [ZG, simprocAttr, *]
      generalize hT : sweepFrom [] _ (sweepFrom [] _ h1 h1) (sweepFrom [] _ h1 h1) = h2
      have hl2 : LV h2 l i := by
        rw [← hT]
        exact hs.sw rfl
      clear hT hs go
      have go := hl2.o
      by_cases h0 : x.fType = 0
      · have e0 : elc (x, c) = [.v (.int .i64 0), .v (.slice none 0 0), .v (.bool false), .v (.int .i64 0), .v (.slice none 0 0), .v (.slice none 0 0), .v (.slice none 0 0), .v (.slice none 0 0)] := by simp [elc, h0]
        have v0 : vo x = T_Val.mk 0 [] false (T_Tensor.mk 0 [] [] [] []) := by simp [vo, h0]
        have g0 := fm_at0 elc_len hc (by omega)
        have g1 := fm_at (j := 1) elc_len hc (by omega)
        have g2 := fm_at (j := 2) elc_len hc (by omega)
        have g3 := fm_sub (j := 3) (m := 5) elc_len hc (by omega)
        have g4 := fm_fits (j := 8) elc_len hc (by omega)
        have g5 := fm_at (j := 5) elc_len hc (by omega)
        rw [e0] at g0 g1 g2 g3 g5
        have w0 := fm_at0 c_T_Val_len hvx (by omega)
        have w1 := fm_at (j := 1) c_T_Val_len hvx (by omega)
        have w2 := fm_at (j := 2) c_T_Val_len hvx (by omega)
        have w3 := fm_sub (j := 3) (m := 5) c_T_Val_len hvx (by omega)
        have w4 := fm_fits (j := 8) c_T_Val_len hvx (by omega)
        have cv : c_T_Val (vo x) = [.v (.int .i64 0), .arr 0 [], .v (.bool false), .v (.int .i64 0), .arr 0 [], .arr 0 [], .arr 0 [], .arr 0 []] := by rw [v0]; rfl
        rw [cv] at w0 w1 w2 w3
        simp only [List.getElem?_cons_zero, List.getElem?_cons_succ, List.drop_succ_cons, List.drop_zero, List.take_succ_cons, List.take_zero] at g0 g1 g2 g3 g5 w0 w1 w2 w3
        have si := H.si0
        have sa : cp 13 [.agg [.v (.int .i64 0), .arr 0 [], .arr 0 [], .arr 0 [], .arr 0 []], .agg [.v (.int .i64 0), .arr 0 [], .arr 0 [], .arr 0 [], .arr 0 []]] = some (.v (.bool true)) := H.sa0
        conv => lhs; simp (maxSteps := 20000000) (disch := first | exact Zd | omega | fail) only [ZG, simprocAttr, *]
        generalize hT : sweepFrom [] _ (sweepFrom [] _ h2 h2) (sweepFrom [] _ h2 h2) = h3
        have hl3 : LV h3 l i := by
          rw [← hT]
          exact hl2.sw rfl
        clear hT hl2 go
        refine gl_ind 0 (fun m e h => e = [(0, .arr l.length (fm c_T_Tensor l)), (4, .own (1, 3, 77) 0 l.length l.length), (5, .arr vs.length (fm c_T_Val vs)), (6, .v (.int .i64 (i : Int))), (7, .v (.int .i64 0))] ∧ LV h l i) (fun _ _ _ _ h => absurd h (Nat.not_lt_zero _)) ?_ 0 0 _ _ _ (by omega) (by omega) ⟨rfl, hl3⟩
        clear hl3 h3 h2 h1 h
        intro k2 e h hv
        obtain ⟨he, hv⟩ := hv
        have hs : LV (sweep [] e h) l i := hv.sw (by subst he; rfl)
        generalize sweep [] e h = h1 at hs ⊢
        clear hv
        subst he
        have go := hs.o
        conv => lhs; simp (maxSteps := 20000000) (disch := first | exact Zd | omega | fail) only [ZG, simprocAttr, *]
        refine gl_ind 0 (fun m e h => e = [(0, .arr l.length (fm c_T_Tensor l)), (4, .own (1, 3, 77) 0 l.length l.length), (5, .arr vs.length (fm c_T_Val vs)), (6, .v (.int .i64 (i : Int))), (8, .v (.int .i64 0))] ∧ LV h l i) (fun _ _ _ _ h => absurd h (Nat.not_lt_zero _)) ?_ 0 0 _ _ _ (by omega) (by omega) ⟨rfl, hs⟩
        clear hs go h1 h
        intro k3 e h hv
        obtain ⟨he, hv⟩ := hv
        have hs : LV (sweep [] e h) l i := hv.sw (by subst he; rfl)
        generalize sweep [] e h = h1 at hs ⊢
        clear hv
        subst he
        have go := hs.o
        have y6 : wk .i64 ((i : Int) + 1) = (i : Int) + 1 := wk_i64 (by omega) (by omega)
        conv => lhs; simp (maxSteps := 20000000) (disch := first | exact Zd | omega | fail) only [ZG, simprocAttr, *]
        generalize hT : sweepFrom [] _ (sweepFrom [] _ h1 h1) (sweepFrom [] _ h1 h1) = h2
        have hs2 : LV h2 l (i + 1) := by
          rw [← hT]
          exact (LV.mk hs.o fun j p hj => hs.r j p (by omega)).sw rfl
        exact nx _ _ ⟨rfl, hs2⟩
      · have e0 : elc (x, c) = [.v (.int .i64 x.fType), .own (1, 21, 100 * c) 0 x.fDims.length x.fDims.length, .v (.bool true), .v (.int .i64 x.fType), .own (1, 23, 100 * c) 0 x.fDims.length x.fDims.length,
          .own (1, 23, 1 + 100 * c) 0 x.fF.length x.fF.length, .own (1, 23, 2 + 100 * c) 0 x.fI.length x.fI.length, .own (1, 23, 3 + 100 * c) 0 x.fB.length x.fB.length] := by simp [elc, h0]
        have v0 : vo x = T_Val.mk x.fType x.fDims true x := by simp [vo, h0]
        have R : Rws h2 x c := hl2.r i (x, c) (Nat.le_refl _) hc h0
        have r1 := R.d
        have r2 := R.e
        have r3 := R.f
        have r4 := R.i
        have r5 := R.b
        have g0 := fm_at0 elc_len hc (by omega)
        have g1 := fm_at (j := 1) elc_len hc (by omega)
        have g2 := fm_at (j := 2) elc_len hc (by omega)
        have g3 := fm_sub (j := 3) (m := 5) elc_len hc (by omega)
        have g4 := fm_fits (j := 8) elc_len hc (by omega)
        rw [e0] at g0 g1 g2 g3
        have w0 := fm_at0 c_T_Val_len hvx (by omega)
        have w1 := fm_at (j := 1) c_T_Val_len hvx (by omega)
        have w2 := fm_at (j := 2) c_T_Val_len hvx (by omega)
        have w3 := fm_sub (j := 3) (m := 5) c_T_Val_len hvx (by omega)
        have w4 := fm_fits (j := 8) c_T_Val_len hvx (by omega)
        have cv : c_T_Val (vo x) = [.v (.int .i64 x.fType), .arr x.fDims.length (lm (ik .i64) x.fDims), .v (.bool true), .v (.int .i64 x.fType), .arr x.fDims.length (lm (ik .i64) x.fDims), .arr x.fF.length (lm (ik .u32) x.fF), .arr x.fI.length (lm (ik .i64) x.fI), .arr x.fB.length (lm bk x.fB)] := by rw [v0]; rfl
        rw [cv] at w0 w1 w2 w3
        simp only [List.getElem?_cons_zero, List.getElem?_cons_succ, List.drop_succ_cons, List.drop_zero, List.take_succ_cons, List.take_zero] at g0 g1 g2 g3 w0 w1 w2 w3
        have si := H.si x hm
        have sa := H.sa x hm
        have sa1 := H.sa x hm
        unfold c_T_Tensor at sa1
        have y1 : decide (x.fType = x.fType) = true := by simp
        conv => lhs; simp (maxSteps := 20000000) (disch := first | exact Zd | omega | fail) only [ZG, simprocAttr, *]
        generalize hT : sweepFrom [] _ (sweepFrom [] _ h2 h2) (sweepFrom [] _ h2 h2) = h3
        have hw3 : LW h3 l i x c x.fF x.fDims := by
          rw [← hT]
          exact (hl2.w hc h0).sw hc h0 rfl
        clear hT hl2 r1 r2 r3 r4 r5 R go
        have g5 := fm_at (j := 5) elc_len hc (by omega)
        rw [e0] at g5
        simp only [List.getElem?_cons_zero, List.getElem?_cons_succ] at g5
        refine gl_ind x.fF.length (fun m e h => e = [(0, .arr l.length (fm c_T_Tensor l)), (4, .own (1, 3, 77) 0 l.length l.length), (5, .arr vs.length (fm c_T_Val vs)), (6, .v (.int .i64 (i : Int))), (7, .v (.int .i64 (m : Int)))] ∧ ∃ fl, fl.length = x.fF.length ∧ LW h l i x c fl x.fDims) ?_ ?_ x.fF.length 0 _ _ _ (by omega) (by have := hlf x hm; omega) ⟨rfl, _, rfl, hw3⟩
        · clear hw3 h3 h2 h1 h nx
          intro k2 m e h hmf hv nx
          obtain ⟨he, fl, hfl, hv⟩ := hv
          have hs : LW (sweep [] e h) l i x c fl x.fDims := hv.sw hc h0 (by subst he; rfl)
          generalize sweep [] e h = h1 at hs ⊢
          clear hv
          subst he
          have y2 : decide ((m : Int) < (x.fF.length : Int)) = true := decide_eq_true (by omega)
          have go := hs.o
          conv => lhs; simp (maxSteps := 20000000) (disch := first | exact Zd | omega | fail) only [ZG, simprocAttr, *]
          generalize hT : sweepFrom [] _ (sweepFrom [] _ h1 h1) (sweepFrom [] _ h1 h1) = h2
          have hs2 : LW h2 l i x c fl x.fDims := by
            rw [← hT]
            exact hs.sw hc h0 rfl
          clear hT hs go
          have go := hs2.o
          have rf := hs2.f
          obtain ⟨y, hy⟩ : ∃ y, fl[m]? = some y := ⟨fl[m], List.getElem?_eq_getElem (by omega)⟩
          have hy2 : (lm (ik .u32) fl)[m]? = some (.v (.int .u32 y)) := lm_ik hy
          have y6 : wk .i64 ((m : Int) + 1) = (m : Int) + 1 := wk_i64 (by omega) (by have := hlf x hm; omega)
          have hln : (lm (ik .u32) fl).length = x.fF.length := by rw [lm_length, hfl]
          conv => lhs; simp (maxSteps := 20000000) (disch := first | exact Zd | omega | fail) only [ZG, simprocAttr, *]
          exact nx _ _ ⟨rfl, _, by rw [List.length_set]; exact hfl, hs2.setF hc h0⟩
        · clear hw3 h3 h2 h1 h
          intro k2 e h hv
          obtain ⟨he, fl, hfl, hv⟩ := hv
          have hs : LW (sweep [] e h) l i x c fl x.fDims := hv.sw hc h0 (by subst he; rfl)
          generalize sweep [] e h = h1 at hs ⊢
          clear hv
          subst he
          have y2 : decide ((x.fF.length : Int) < (x.fF.length : Int)) = false := by simp
          have go := hs.o
          conv => lhs; simp (maxSteps := 20000000) (disch := first | exact Zd | omega | fail) only [ZG, simprocAttr, *]
          clear go y2
          refine gl_ind x.fDims.length (fun m e h => e = [(0, .arr l.length (fm c_T_Tensor l)), (4, .own (1, 3, 77) 0 l.length l.length), (5, .arr vs.length (fm c_T_Val vs)), (6, .v (.int .i64 (i : Int))), (8, .v (.int .i64 (m : Int)))] ∧ ∃ dl, dl.length = x.fDims.length ∧ LW h l i x c fl dl) ?_ ?_ x.fDims.length 0 _ _ _ (by omega) (by have := hlf x hm; omega) ⟨rfl, _, rfl, hs⟩
          · clear hs h1 h nx
            intro k3 m e h hmf hv nx
            obtain ⟨he, dl, hdl, hv⟩ := hv
            have hs : LW (sweep [] e h) l i x c fl dl := hv.sw hc h0 (by subst he; rfl)
            generalize sweep [] e h = h1 at hs ⊢
            clear hv
            subst he
            have y2 : decide ((m : Int) < (x.fDims.length : Int)) = true := decide_eq_true (by omega)
            have go := hs.o
            conv => lhs; simp (maxSteps := 20000000) (disch := first | exact Zd | omega | fail) only [ZG, simprocAttr, *]
            generalize hT : sweepFrom [] _ (sweepFrom [] _ h1 h1) (sweepFrom [] _ h1 h1) = h2
            have hs2 : LW h2 l i x c fl dl := by
              rw [← hT]
              exact hs.sw hc h0 rfl
            clear hT hs go
            have go := hs2.o
            have rd := hs2.d
            have y6 : wk .i64 ((m : Int) + 1) = (m : Int) + 1 := wk_i64 (by omega) (by have := hlf x hm; omega)
            have hln : (lm (ik .i64) dl).length = x.fDims.length := by rw [lm_length, hdl]
            conv => lhs; simp (maxSteps := 20000000) (disch := first | exact Zd | omega | fail) only [ZG, simprocAttr, *]
            exact nx _ _ ⟨rfl, _, by rw [List.length_set]; exact hdl, hs2.setD hc h0⟩
          · clear hs h1 h
            intro k3 e h hv
            obtain ⟨he, dl, hdl, hv⟩ := hv
            have hs : LW (sweep [] e h) l i x c fl dl := hv.sw hc h0 (by subst he; rfl)
            generalize sweep [] e h = h1 at hs ⊢
            clear hv
            subst he
            have y2 : decide ((x.fDims.length : Int) < (x.fDims.length : Int)) = false := by simp
            have go := hs.o
            have y6 : wk .i64 ((i : Int) + 1) = (i : Int) + 1 := wk_i64 (by omega) (by omega)
            conv => lhs; simp (maxSteps := 20000000) (disch := first | exact Zd | omega | fail) only [ZG, simprocAttr, *]
            generalize hT : sweepFrom [] _ (sweepFrom [] _ h1 h1) (sweepFrom [] _ h1 h1) = h2
            have hs2 : LV h2 l (i + 1) := by
              rw [← hT]
              exact hs.v.sw rfl
            exact nx _ _ ⟨rfl, hs2⟩
    · clear hl3 h3 h2 h1 h k
      intro k e h hv
      obtain ⟨he, hv⟩ := hv
      have hs : LV (sweep [] e h) l l.length := hv.sw (by subst he; rfl)
      generalize sweep [] e h = h1 at hs ⊢
      clear hv
      subst he
      have y0 : decide ((l.length : Int) < (l.length : Int)) = false := by simp
      have go := hs.o
      simp (maxSteps := 20000000) (disch := first | exact Zd | omega | fail) only [ZG, simprocAttr, FN, *]
  · rfl
  · exact ⟨rfl, fun j p a => by simp [tag] at a, fun j hj => by simp [cnt] at hj, fun j a hj => by simp [cnt] at hj, fun j hj => rfl, fun j a hj ha => rfl, fun p hp i hi => by simp at hp; subst hp; rfl⟩
end Go.Av
