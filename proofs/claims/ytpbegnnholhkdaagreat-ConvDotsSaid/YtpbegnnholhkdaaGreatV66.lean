/- ConvDots: the law over the plain functions. Conditions: those that each names. -/
import Derived.Test.YtpbegnnholhkdaaGreatVV
import Derived.Test.YtpbegnnholhkdaaGreatVV
import Derived.Test.YtpbegnnholhkdaaGreatNR
set_option linter.unusedVariables false
namespace Go.Av
def Words (l : List Int) : Prop := ∀ x ∈ l, 0 ≤ x ∧ x < 4294967296
theorem words_of {l : List Int} (h : ∀ z0 ∈ l, (Lit.int .u32 z0).wf = true) : Words l := fun x hx => by
  have := h x hx
  have e1 : IntKind.u32.min = 0 := by decide
  have e2 : IntKind.u32.max = 4294967295 := by decide
  simp [Lit.wf] at this
  omega
/-- the sum so far -/
def dotS (F G : List Int) (k : Nat) : Int := (List.range k).foldl (fun s g => addV s (mulV (F.getD g 0) (G.getD g 0))) 0
theorem dotS_succ {F G : List Int} {k : Nat} : dotS F G (k + 1) = addV (dotS F G k) (mulV (F.getD k 0) (G.getD k 0)) := by
  unfold dotS
  rw [List.range_succ, List.foldl_append]
  rfl
theorem law_5 (a0 : List Int) (a1 : List Int) (w0 : a0.length * 4 ≤ 140737488351232 ∧ ∀ z0 ∈ a0, ((Lit.int .u32 z0).wf = true)) (w1 : a1.length * 4 ≤ 140737488351232 ∧ ∀ z0 ∈ a1, ((Lit.int .u32 z0).wf = true)) : ∃ fu, law15_ConvDots fu a0 a1 = some true := by
  have hw0 := words_of w0.2
  have hw1 := words_of w1.2
  refine ⟨50000 + 3, ?_⟩
  unfold law15_ConvDots; unfold jn
  rw [imin_cast]
  generalize hn : min a0.length a1.length = n
  by_cases h0 : n = 0
  · rw [if_pos (by omega)]
  rw [if_neg (by omega)]
  by_cases h1 : 4096 < n
  · rw [if_pos (by omega)]
  rw [if_neg (by omega)]
  unfold law15_ConvDots.k1; unfold jn
  rw [imin_cast, hn, chk_pos (by omega)]
  unfold law15_floats
  rw [ob_some, chk_pos (by omega), ob_some, Int.toNat_natCast, show subN a0 0 n = a0.take n from rfl, show subN a1 0 n = a1.take n from rfl]
  have l0 : (a0.take n).length = n := by rw [List.length_take]; omega
  have l1 : (a1.take n).length = n := by rw [List.length_take]; omega
  have hg : Good [(1 : Int), (n : Int), 1, 1] := ⟨by simp, fun z hz => by simp at hz; omega, by simp [prod]; omega⟩
  have hp : prod [(1 : Int), (n : Int), 1, 1] = (n : Int) := by simp [prod]
  have hT : ∀ l : List Int, l.length = n → Words l → Ten (T_Tensor.mk 1 [(1 : Int), (n : Int), 1, 1] l [] []) := fun l hl hw => ⟨by simp, by simp only [hl]; omega, by simp, by simp, hw⟩
  have hC : ∀ l : List Int, l.length = n → checkV (T_Tensor.mk 1 [(1 : Int), (n : Int), 1, 1] l [] []) = 0 := fun l hl =>
    checkV_zero.2 ⟨.inl rfl, hg, by simp [LensOK, hp, hl]⟩
  have tk : ∀ {l : List Int}, Words l → Words (l.take n) := fun hw z hz => hw z (List.mem_of_mem_take hz)
  have ok : OkC (T_Tensor.mk 1 [(1 : Int), (n : Int), 1, 1] (a0.take n) [] []) (T_Tensor.mk 1 [(1 : Int), (n : Int), 1, 1] (a1.take n) [] []) 1 n 1 1 :=
    ⟨rfl, rfl, hC _ l0, hC _ l1, rfl, rfl, by omega, by decide, by decide, ⟨by simp, fun z hz => by simp at hz; omega, by simp [prod]⟩⟩
  have hD := Do_ok (fu := 50000) (hT _ l0 (tk hw0)) (hT _ l1 (tk hw1)) (by unfold big; simp only [l0, l1, List.length_cons, List.length_nil]; omega) ok
  unfold oneS at hD
  have hD' : conv_Do (50000 + 3) 75 (T_Setting.mk 0 ([]) false false false false false ([]) false 0 0 0 false false false 0 0 false false 1 ([]) ([]) ([]) ([]) 0 false false 0 0 0 false (T_Tensor.mk 0 ([]) ([]) ([]) ([]))) ([T_Tensor.mk 1 [(1 : Int), (n : Int), 1, 1] (a0.take n) [] [], T_Tensor.mk 1 [(1 : Int), (n : Int), 1, 1] (a1.take n) [] []]) = _ := hD
  rw [hD', ob_some, if_pos rfl, if_pos (by simp)]
  have hE : (List.range (1 * (1 * 1))).map (elS ((a0.take n).map canonF) ((a1.take n).map canonF) n 1 1) = [dotS ((a0.take n).map canonF) ((a1.take n).map canonF) n] := by
    show [elS ((a0.take n).map canonF) ((a1.take n).map canonF) n 1 1 0] = _
    unfold elS sumS dotS ixS
    simp
  simp only [hE]
  generalize hF : (a0.take n).map canonF = F
  generalize hG : (a1.take n).map canonF = G
  generalize hR : (T_Tensor.mk 1 [((1 : Nat) : Int), 1, ((1 : Nat) : Int), ((1 : Nat) : Int)] [dotS F G n] [] [], (0 : Int)) = R
  have hR1 : R.1.fF = [dotS F G n] := by rw [← hR]
  unfold law15_ConvDots.k2 jn law15_ConvDots.W1
  have key : ∀ m q k : Nat, n - k = m → k ≤ n → m < q → (∃ s : Nat, dotS F G k = (s : Int) ∧ s < 4294967296) → cloop (fun next s => law15_ConvDots.L1 (50000 + 3) a0 a1 R (fun x12 x13 => next (x12, x13)) s.1 s.2) q (dotS F G k, (k : Int)) = some true := by
    intro m
    induction m with
    | zero =>
      intro q k e1 e2 e3 hs
      cases q with
      | zero => omega
      | succ q =>
        have : k = n := by omega
        subst this
        rw [cloop_succ]
        show law15_ConvDots.L1 (50000 + 3) a0 a1 R _ (dotS F G k) (k : Int) = _
        rw [law15_ConvDots.L1, imin_cast, hn, if_neg (by omega)]
        unfold law15_ConvDots.k3
        rw [hR1]
        show some (decide (dotS F G k = dotS F G k)) = _
        simp
    | succ m ih =>
      intro q k e1 e2 e3 hs
      cases q with
      | zero => omega
      | succ q =>
        have ka : k < a0.length := by omega
        have kb : k < a1.length := by omega
        obtain ⟨x, hx, x2⟩ : ∃ x : Nat, a0[k] = (x : Int) ∧ x < 4294967296 := by
          have := hw0 _ (List.getElem_mem ka); exact ⟨a0[k].toNat, by omega, by omega⟩
        obtain ⟨y, hy, y2⟩ : ∃ y : Nat, a1[k] = (y : Int) ∧ y < 4294967296 := by
          have := hw1 _ (List.getElem_mem kb); exact ⟨a1[k].toNat, by omega, by omega⟩
        obtain ⟨s, s1, s2⟩ := hs
        obtain ⟨p, p1, p2, p3⟩ := Rf.Mul_spec (fu := 50000 + 3) x2 y2 (by omega)
        obtain ⟨r, r1, r2, r3⟩ := Rf.Add_spec (fu := 50000 + 3) s2 p3 (by omega)
        have pe : mulV (x : Int) (y : Int) = (p : Int) := by rw [Mul_spec] at p1; injection p1
        have re : addV (s : Int) (p : Int) = (r : Int) := by rw [Add_spec] at r1; injection r1
        have fx : F.getD k 0 = canonF (x : Int) := by
          rw [← hF, List.getD_eq_getElem?_getD, List.getElem?_map, List.getElem?_take, if_pos (by omega), List.getElem?_eq_getElem ka, hx]; rfl
        have gy : G.getD k 0 = canonF (y : Int) := by
          rw [← hG, List.getD_eq_getElem?_getD, List.getElem?_map, List.getElem?_take, if_pos (by omega), List.getElem?_eq_getElem kb, hy]; rfl
        have hd : dotS F G (k + 1) = (r : Int) := by rw [dotS_succ, fx, gy, mul_canon x2 y2, pe, s1, re]
        rw [cloop_succ]
        show law15_ConvDots.L1 (50000 + 3) a0 a1 R _ (dotS F G k) (k : Int) = _
        rw [law15_ConvDots.L1, imin_cast, hn, if_pos (by omega), at?_get ka, ob_some, at?_get kb, ob_some, hx, hy, p2, ob_some, s1, r2, ob_some, wk_succ (by omega), ← hd]
        exact ih q (k + 1) (by omega) (by omega) (by omega) ⟨r, hd, r3⟩
  exact key n (50000 + 3) 0 (by omega) (by omega) (by omega) ⟨0, rfl, by decide⟩
end Go.Av
