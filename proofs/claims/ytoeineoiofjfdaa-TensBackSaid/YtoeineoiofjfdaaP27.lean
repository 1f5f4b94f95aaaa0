/- Layer 5: sameness, copies; TensLooks: true. Conditions: those that each names. -/
import Derived.Test.YtoeineoiofjfdaaP22
set_option linter.unusedVariables false
namespace Go.Av
theorem EqI_spec {fu : Nat} {a b : List Int} (hf : a.length < fu) (hs : a.length ≤ 140737488355328) : slices_Equal_int fu a b = some (decide (a = b)) := by
  unfold slices_Equal_int slices_Equal_int_W1
  by_cases hl : a.length = b.length
  · rw [if_pos (by omega), same_loop (L := fun next s => slices_Equal_int_L1 fu a b next s) hl hf hs (c := some true) (fun nx i => rfl)]
    by_cases h : a = b <;> simp [h]
  · rw [if_neg (by omega)]
    have : ¬ a = b := fun h => hl (by rw [h])
    simp [this]
theorem EqU_spec {fu : Nat} {a b : List Int} (hf : a.length < fu) (hs : a.length ≤ 140737488355328) : slices_Equal_uint32 fu a b = some (decide (a = b)) := by
  unfold slices_Equal_uint32 slices_Equal_uint32_W1
  by_cases hl : a.length = b.length
  · rw [if_pos (by omega), same_loop (L := fun next s => slices_Equal_uint32_L1 fu a b next s) hl hf hs (c := some true) (fun nx i => rfl)]
    by_cases h : a = b <;> simp [h]
  · rw [if_neg (by omega)]
    have : ¬ a = b := fun h => hl (by rw [h])
    simp [this]
theorem EqL_spec {fu : Nat} {a b : List Int} (hf : a.length < fu) (hs : a.length ≤ 140737488355328) : slices_Equal_int64 fu a b = some (decide (a = b)) := by
  unfold slices_Equal_int64 slices_Equal_int64_W1
  by_cases hl : a.length = b.length
  · rw [if_pos (by omega), same_loop (L := fun next s => slices_Equal_int64_L1 fu a b next s) hl hf hs (c := some true) (fun nx i => rfl)]
    by_cases h : a = b <;> simp [h]
  · rw [if_neg (by omega)]
    have : ¬ a = b := fun h => hl (by rw [h])
    simp [this]
theorem EqB_spec {fu : Nat} {a b : List Bool} (hf : a.length < fu) (hs : a.length ≤ 140737488355328) : slices_Equal_bool fu a b = some (decide (a = b)) := by
  unfold slices_Equal_bool slices_Equal_bool_W1
  by_cases hl : a.length = b.length
  · rw [if_pos (by omega), same_loop (L := fun next s => slices_Equal_bool_L1 fu a b next s) hl hf hs (c := some true) (fun nx i => by unfold slices_Equal_bool_L1; simp only [beq_iff_eq])]
    by_cases h : a = b <;> simp [h]
  · rw [if_neg (by omega)]
    have : ¬ a = b := fun h => hl (by rw [h])
    simp [this]
theorem Same_spec {fu : Nat} {a b : T_Tensor} (hs : Small a) (hf : Fuel fu a) : tens_Same fu a b = some (sameB a b) := by
  obtain ⟨s1, s2, s3, s4⟩ := hs
  obtain ⟨f1, f2, f3, f4⟩ := hf
  unfold tens_Same sameB
  by_cases h1 : a.fType = b.fType
  · rw [if_pos h1, EqI_spec f1 (by omega), ob_some]
    by_cases h2 : a.fDims = b.fDims
    · rw [if_pos (by simpa using h2), EqU_spec f2 (by omega), ob_some]
      by_cases h3 : a.fF = b.fF
      · rw [if_pos (by simpa using h3), EqL_spec f3 (by omega), ob_some]
        by_cases h4 : a.fI = b.fI
        · rw [if_pos (by simpa using h4), EqB_spec f4 (by omega), ob_some]
          simp [h1, h2, h3, h4]
        · rw [if_neg (by simpa using h4)]; simp [h4]
      · rw [if_neg (by simpa using h3)]; simp [h3]
    · rw [if_neg (by simpa using h2)]; simp [h2]
  · rw [if_neg h1]; simp [h1]
/-- each element of a list turned in its place -/
theorem map_loop {β : Type} {l : List Int} {f : Int → Int} {B : ((List Int × Int) → Option β) → (List Int × Int) → Option β} {c : List Int → Option β} {fu : Nat} (hf : l.length < fu)
    (hB : ∀ (next : List Int × Int → Option β) (k : Nat) (m : List Int) (hk : k < l.length), m.length = l.length → (hm : m[k]? = some l[k]) → B next (m, (k : Int)) = next (m.set k (f l[k]), ((k + 1 : Nat) : Int)))
    (hE : ∀ next (m : List Int), m.length = l.length → B next (m, (l.length : Int)) = c m) : cloop B fu (l, 0) = c (l.map f) := by
  have := cloop_up (body := B) (n := fu) l.length (fun k => (l.take k).map f ++ l.drop k) (c (l.map f)) ?_ ?_ hf
  · simpa using this
  · intro k hk next hn
    have hlk : ((l.take k).map f).length = k := by simp; omega
    rw [hB next k _ hk (by simp; omega) (by rw [List.getElem?_append_right (by omega), hlk, Nat.sub_self, List.getElem?_drop]; simp [hk])]
    have e : ((l.take k).map f ++ l.drop k).set k (f l[k]) = (l.take (k + 1)).map f ++ l.drop (k + 1) := by
      rw [List.set_append_right _ _ (by omega), hlk, Nat.sub_self, List.drop_eq_getElem_cons hk, List.set_cons_zero, List.take_add_one, List.getElem?_eq_getElem hk, List.map_append, List.append_assoc]
      rfl
    rw [e]
    exact hn
  · intro next
    rw [hE _ _ (by simp)]
    simp
def canonF (x : Int) : Int := if 2139095040 < x % 2147483648 then 2143289344 else x
def canonT (t : T_Tensor) : T_Tensor := ⟨t.fType, t.fDims, t.fF.map canonF, t.fI, t.fB⟩
theorem wk_eq32 {x : Int} (h0 : 0 ≤ x) (h1 : x < 4294967296) : wk .u32 x = x := by
  have : wk .u32 x = x % 4294967296 := by simp [wk, IntKind.wrap, IntKind.signed, IntKind.bits]
  rw [this, Int.emod_eq_of_lt h0 h1]
theorem abs_u32 {x : Int} (h0 : 0 ≤ x) (h1 : x < 4294967296) : bandn .u32 x 2147483648 = x % 2147483648 := by
  unfold bandn
  rw [show IntKind.u32.bits = 32 from rfl, show ~~~(BitVec.ofInt 32 2147483648) = BitVec.ofNat 32 (2 ^ 31 - 1) by decide, BitVec.toNat_and, BitVec.toNat_ofNat, BitVec.toNat_ofInt]
  have : (2 ^ 31 - 1) % 2 ^ 32 = 2 ^ 31 - 1 := by decide
  rw [this, Nat.and_two_pow_sub_one_eq_mod]
  have hw := wk_eq32 (x := (((x % ((2 ^ 32 : Nat) : Int)).toNat % 2 ^ 31 : Nat) : Int)) (by omega) (by omega)
  unfold wk at hw
  rw [hw]
  omega
end Go.Av
