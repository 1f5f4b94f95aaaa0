/- What the law's plain functions come to: copies, the document's values, sameness with itself. Conditions: those that each names. -/
import Derived.Test.YteafmomjfnlkgaaGreatQ8S
import Derived.Test.YteafmomjfnlkgaaGreatPl
import Derived.Test.YteafmomjfnlkgaaGreatVV
set_option linter.unusedVariables false
namespace Go.Av
theorem own_int {fu : Nat} {l : List Int} (h : l.length ≤ 1048576) : tens_own_int fu l = some l := by unfold tens_own_int; rw [chk_pos (by omega)]
theorem own_u32 {fu : Nat} {l : List Int} (h : l.length ≤ 1048576) : tens_own_uint32 fu l = some l := by unfold tens_own_uint32; rw [chk_pos (by omega)]
theorem own_i64 {fu : Nat} {l : List Int} (h : l.length ≤ 1048576) : tens_own_int64 fu l = some l := by unfold tens_own_int64; rw [chk_pos (by omega)]
theorem own_bool {fu : Nat} {l : List Bool} (h : l.length ≤ 1048576) : tens_own_bool fu l = some l := by unfold tens_own_bool; rw [chk_pos (by omega)]
structure Lo (x : T_Tensor) : Prop where
  d : x.fDims.length ≤ 1048576
  f : x.fF.length ≤ 1048576
  i : x.fI.length ≤ 1048576
  b : x.fB.length ≤ 1048576
theorem copy_at {fu : Nat} {x : T_Tensor} (h : Lo x) : tens_Copy fu x = some x := by
  unfold tens_Copy
  rw [own_int h.d, ob_some, own_u32 h.f, ob_some, own_i64 h.i, ob_some, own_bool h.b]
  rfl
theorem clone_at {fu : Nat} {l : List Int} (h : l.length ≤ 1048576) : slices_Clone_int fu l = some l := by unfold slices_Clone_int; rw [chk_pos (by omega)]
theorem rcopy_at {fu : Nat} {x : T_Tensor} (h : Lo x) : ref05_Copy fu x = some x := by
  have h1 := h.d
  have h2 := h.f
  have h3 := h.i
  have h4 := h.b
  unfold ref05_Copy
  rw [chk_pos (by omega), chk_pos (by omega), chk_pos (by omega), chk_pos (by omega)]
theorem refl_loop {n : Nat} {c : Option Bool} {L : (Int → Option Bool) → Int → Option Bool} (hL : ∀ nx (k : Nat), k < n → L nx (k : Int) = nx (wk .i64 ((k : Int) + 1))) (hE : ∀ nx, L nx (n : Int) = c) (hn : n ≤ 1048576) {fu : Nat} (hf : n < fu) : cloop (fun next s => L next s) fu 0 = c := by
  refine cloop_ind (fun _ => c) (fun (i : Int) => 0 ≤ i ∧ i ≤ n) (fun i => n - i.toNat) ?_ fu 0 (by simp) (by simp; omega)
  rintro i ⟨h0, h1⟩ next hx
  obtain ⟨k, rfl⟩ := Int.eq_ofNat_of_zero_le h0
  by_cases hk : k < n
  · show L next (k : Int) = c
    rw [hL next k hk, wk_eq (by omega) (by omega)]
    exact hx _ (by omega) (by simp; omega)
  · obtain rfl : k = n := by omega
    exact hE next
theorem same_ints {fu : Nat} {l : List Int} (h : l.length ≤ 1048576) (hf : 1048576 < fu) : ref04_SameInts fu l l = some true := by
  unfold ref04_SameInts ref04_SameInts.W1
  rw [if_pos rfl]
  refine refl_loop (n := l.length) (fun nx k hk => ?_) (fun nx => ?_) h (by omega)
  · unfold ref04_SameInts.L1
    rw [if_pos (by omega), at?_get hk, ob_some, ob_some, if_pos rfl]
  · unfold ref04_SameInts.L1
    rw [if_neg (by omega)]
theorem same_self {fu : Nat} {x : T_Tensor} (h : Lo x) (hf : 1048576 < fu) : ref05_Same fu x x = some true := by
  have e3 : ref05_Same.k3 fu x x = some true := by
    unfold ref05_Same.k3 ref05_Same.W1
    refine refl_loop (n := x.fB.length) (fun nx k hk => ?_) (fun nx => ?_) h.b (by have := h.b; omega)
    · unfold ref05_Same.L1
      rw [if_pos (by omega), at?_get hk, ob_some, ob_some, if_pos (by simp)]
    · unfold ref05_Same.L1
      rw [if_neg (by omega)]
  have e2 : ref05_Same.k2 fu x x = some true := by
    unfold ref05_Same.k2 ref05_Same.W2
    rw [jn_at]
    refine refl_loop (n := x.fI.length) (fun nx k hk => ?_) (fun nx => ?_) h.i (by have := h.i; omega)
    · unfold ref05_Same.L2
      rw [if_pos (by omega), at?_get hk, ob_some, ob_some, if_pos rfl]
    · unfold ref05_Same.L2
      rw [if_neg (by omega), e3]
  have e1 : ref05_Same.k1 fu x x = some true := by
    unfold ref05_Same.k1 ref05_Same.W3
    rw [jn_at]
    refine refl_loop (n := x.fF.length) (fun nx k hk => ?_) (fun nx => ?_) h.f (by have := h.f; omega)
    · unfold ref05_Same.L3
      rw [if_pos (by omega), at?_get hk, ob_some, ob_some, if_pos rfl]
    · unfold ref05_Same.L3
      rw [if_neg (by omega), e2]
  unfold ref05_Same
  rw [jn_at, if_pos rfl, same_ints h.d hf, ob_some, if_pos rfl, if_pos rfl, if_pos rfl, if_pos rfl, e1]
theorem vals_at {fu : Nat} {l : List T_Tensor} (hl : l.length ≤ 1048576) (h : ∀ x ∈ l, Lo x) (hf : 1048576 < fu) : ref11_Vals fu l = some (l.map vo) := by
  unfold ref11_Vals ref11_Vals.W1
  refine cloop_up l.length (fun k => (l.take k).map vo) (some (l.map vo)) (fun k hk next hn => ?_) (fun next => ?_) (by omega)
  · show ref11_Vals.L1 fu l _ ((l.take k).map vo) (k : Int) = _
    have hx : l[k] ∈ l := List.getElem_mem hk
    have e : (l.take (k + 1)).map vo = (l.take k).map vo ++ [vo l[k]] := by rw [List.take_add_one, List.getElem?_eq_getElem hk, List.map_append]; rfl
    have hlen : ((l.take k).map vo).length = k := by simp; omega
    unfold ref11_Vals.L1
    rw [if_pos (by omega), at?_get hk, ob_some]
    by_cases h0 : (l[k]).fType = 0
    · rw [if_pos h0, chk_pos (by omega), wk_eq (by omega) (by omega)]
      rw [e, show vo l[k] = T_Val.mk 0 [] false (T_Tensor.mk 0 [] [] [] []) by simp [vo, h0]] at hn
      exact hn
    · have hd := (h _ hx).d
      rw [if_neg h0, rcopy_at (h _ hx), ob_some, chk_pos (by omega), chk_pos (by omega), wk_eq (by omega) (by omega)]
      rw [e, show vo l[k] = T_Val.mk (l[k]).fType (l[k]).fDims true l[k] by simp [vo, h0]] at hn
      exact hn
  · show ref11_Vals.L1 fu l _ ((l.take l.length).map vo) (l.length : Int) = _
    unfold ref11_Vals.L1
    rw [if_neg (by omega), List.take_length]
end Go.Av
