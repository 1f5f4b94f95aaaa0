/- The law's contract, and its plain law. Conditions: those that each names. -/
import Derived.Test.YteafmomjfnlkgaaGreatEV3
import Derived.Test.YteafmomjfnlkgaaGreatEV4
import Derived.Test.YteafmomjfnlkgaaGreatQA
set_option linter.unusedVariables false
set_option linter.defProp false
open Go Go.Proofs
namespace Go.Av
noncomputable def law11_EwiseVals (fu : Nat) (l : List T_Tensor) : Option Bool := open Classical in if l.length ≤ 1048576 ∧ (∀ x ∈ l, Lo x) ∧ 1048577 < fu then some true else none
noncomputable def Cv9 : Cm Tryz.prog Unit Bool := ⟨9, fun _ => [], fun _ => some true, fun b => .v (.bool b), fun _ b h => by injection h with h; subst h; exact awake9, fun _ _ _ => rfl⟩
noncomputable def Cv48 (fu : Nat) : Cm Tryz.prog (List Int) (List Int) := ⟨48, fun t => [.arr t.length (lm (ik .i64) t)], fun t => slices_Clone_int fu t, e48, fun t b h => ok48 fu t b h, Zi⟩
noncomputable def Cv49 (fu : Nat) : Cm Tryz.prog T_Tensor T_Tensor := ⟨49, fun t => [.agg (c_T_Tensor t)], fun t => tens_Copy fu t, e49, fun t b h => ok49 fu t b h, Zi⟩
noncomputable def Cv19 (fu : Nat) : Cm Tryz.prog (List T_Tensor) (List T_Val) := ⟨19, fun t => [.arr t.length (fm c_T_Tensor t)], fun t => ref11_Vals fu t, e19, fun t b h => ok19 fu t b h, Zi⟩
noncomputable def Cv13 (fu : Nat) : Cm Tryz.prog (T_Tensor × T_Tensor) Bool := ⟨13, fun t => [.agg (c_T_Tensor t.1), .agg (c_T_Tensor t.2)], fun t => ref05_Same fu t.1 t.2, e13, fun t b h => ok13 fu t.1 t.2 b h, Zi⟩
theorem ok8 (fu : Nat) (l : List T_Tensor) (r : Bool) (h : law11_EwiseVals fu l = some r) : PureOK Tryz.prog 8 [.arr l.length (fm c_T_Tensor l)] (.v (.bool r)) := by
  unfold law11_EwiseVals at h
  split at h
  · rename_i hh
    obtain ⟨hl, hx, hf⟩ := hh
    injection h with h
    subst h
    refine pureT mixed [Cv9.ct, (Cv48 fu).ct, (Cv49 fu).ct, (Cv19 fu).ct, (C16 fu).ct, (Cv13 fu).ct] (ids := [9, 48, 49, 19, 16, 13]) rfl (by decide) i8 (C := inlC [22]) (ci := fun cp => ciV cp fu) (fun cp ok => ciE_ok mixed ok noI_ok i22 noI_ok) (n := fu) (s := some true) (enc := fun b => .v (.bool b)) (fun cp H => J.some ?_) rfl
    have n0 : Lo (T_Tensor.mk 0 [] [] [] []) := ⟨Nat.zero_le _, Nat.zero_le _, Nat.zero_le _, Nat.zero_le _⟩
    refine w8 cp fu l (l.map vo) ⟨rfl⟩ ⟨?_, fun x m => ?_, fun x m => ?_, ?_, fun x m => ?_, ?_, fun x m => ?_, ?_⟩ hl (fun x m => ⟨(hx x m).d, (hx x m).f⟩) hf
    · exact Cv9.at H.1 () true rfl
    · exact (Cv48 fu).at H.2.1 x.fDims x.fDims (clone_at (fu := fu) (hx x m).d)
    · exact (Cv49 fu).at H.2.2.1 x x (copy_at (fu := fu) (hx x m))
    · exact (Cv19 fu).at H.2.2.2.1 l (l.map vo) (vals_at (fu := fu) hl hx (by omega))
    · exact (C16 fu).at H.2.2.2.2.1 (x.fDims, x.fDims) true (same_ints (fu := fu) (hx x m).d (by omega))
    · exact (C16 fu).at H.2.2.2.2.1 ([], []) true (same_ints (fu := fu) (l := []) (Nat.zero_le _) (by omega))
    · exact (Cv13 fu).at H.2.2.2.2.2.1 (x, x) true (same_self (fu := fu) (hx x m) (by omega))
    · exact (Cv13 fu).at H.2.2.2.2.2.1 (T_Tensor.mk 0 [] [] [] [], T_Tensor.mk 0 [] [] [] []) true (same_self (fu := fu) n0 (by omega))
  · cases h
theorem law_8 (a0 : List T_Tensor) (w0 : a0.length ≤ 1048576 ∧ ∀ z0 ∈ a0, Q_28 z0) : ∃ fu, law11_EwiseVals fu a0 = some true := by
  refine ⟨1048578, ?_⟩
  unfold law11_EwiseVals
  refine if_pos ⟨w0.1, fun x hx => ?_, by omega⟩
  obtain ⟨-, h1, h2, h3, h4, -⟩ := w0.2 x hx
  exact ⟨h1.1, h2.1, h3.1, h4.1⟩
end Go.Av
