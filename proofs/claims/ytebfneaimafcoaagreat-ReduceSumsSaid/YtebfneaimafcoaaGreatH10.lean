/- ReduceSums: both sums go in order. Conditions: the list is of words, and of a length that memory holds. -/
import Derived.Test.YtebfneaimafcoaaGreatVV
set_option linter.unusedVariables false
namespace Go.Av
theorem sums {fu : Nat} {l : List Int} (hw : ∀ x ∈ l, 0 ≤ x ∧ x < 4294967296) (hl : l.length ≤ 140737488351232) (hf : 4000 < fu) : ∀ (m n k acc : Nat), l.length - k = m → m < n → acc < 4294967296 →
    ∃ r : Nat, cloop (fun next s => reduce_fold_uint32.L1 fu (fun a b => soft_Add fu a b) l (fun x5 x6 => next (x5, x6)) s.1 s.2) n ((acc : Int), (k : Int)) = some (r : Int) ∧
      cloop (fun next s => ref13_Sum.L1 fu l (fun x4 x5 => next (x4, x5)) s.1 s.2) n ((acc : Int), (k : Int)) = some (r : Int) := by
  intro m
  induction m with
  | zero =>
    intro n k acc hm hn ha
    obtain ⟨n, rfl⟩ : ∃ j, n = j + 1 := ⟨n - 1, by omega⟩
    refine ⟨acc, ?_, ?_⟩
    · simp only [cloop]; rw [reduce_fold_uint32.L1, if_neg (by omega)]
    · simp only [cloop]; rw [ref13_Sum.L1, if_neg (by omega)]
  | succ m ih =>
    intro n k acc hm hn ha
    obtain ⟨n, rfl⟩ : ∃ j, n = j + 1 := ⟨n - 1, by omega⟩
    have hk : k < l.length := by omega
    have hx : ∃ x : Nat, l[k] = (x : Int) ∧ x < 4294967296 := by
      obtain ⟨a, b⟩ := hw _ (List.getElem_mem hk)
      exact ⟨l[k].toNat, by omega, by omega⟩
    obtain ⟨x, hx, hx2⟩ := hx
    have hat : at? l (k : Int) = some (x : Int) := by rw [at?_nat, List.getElem?_eq_getElem hk, hx]
    obtain ⟨s, s1, s2, s3⟩ := Rf.Add_spec (fu := fu) ha hx2 hf
    obtain ⟨r, r1, r2⟩ := ih n (k + 1) s (by omega) (by omega) s3
    have hwk : wk .i64 ((k : Int) + 1) = ((k + 1 : Nat) : Int) := wk_eq (by omega) (by omega)
    refine ⟨r, ?_, ?_⟩
    · simp only [cloop]
      rw [reduce_fold_uint32.L1, if_pos (by omega), hat, ob_some]
      simp only [s1, ob_some, hwk]
      exact r1
    · simp only [cloop]
      rw [ref13_Sum.L1, if_pos (by omega), hat, ob_some]
      simp only [s2, ob_some, hwk]
      exact r2
theorem law_3 (a0 : List Int) (w0 : a0.length * 4 ≤ 140737488351232 ∧ ∀ z0 ∈ a0, ((Lit.int .u32 z0).wf = true)) : ∃ fu, law13_ReduceSums fu a0 = some true := by
  refine ⟨4001 + a0.length, ?_⟩
  have hw : ∀ x ∈ a0, 0 ≤ x ∧ x < 4294967296 := fun x hx => by
    have := w0.2 x hx
    have e1 : IntKind.u32.min = 0 := by decide
    have e2 : IntKind.u32.max = 4294967295 := by decide
    simp [Lit.wf] at this
    omega
  obtain ⟨r, r1, r2⟩ := sums (fu := 4001 + a0.length) hw (by omega) (by omega) _ (4001 + a0.length) 0 0 rfl (by omega) (by decide)
  unfold law13_ReduceSums reduce_Sum reduce_fold_uint32 reduce_fold_uint32.W1 ref13_Sum ref13_Sum.W1
  rw [show ((0 : Nat) : Int) = 0 from rfl] at r1 r2
  simp only [r1, r2, ob_some, decide_true]
end Go.Av
