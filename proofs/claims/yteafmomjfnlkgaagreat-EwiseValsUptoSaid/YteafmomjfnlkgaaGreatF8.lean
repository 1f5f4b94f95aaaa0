/- EwiseVals holds. Conditions: none. -/
import Derived.Test.YteafmomjfnlkgaaGreatRows
import Derived.Test.YteafmomjfnlkgaaGreatQW
import Derived.Test.YteafmomjfnlkgaaGreatFJ
import Derived.Test.YteafmomjfnlkgaaGreatQA
import Derived.Test.YteafmomjfnlkgaaGreatEV5
set_option linter.unusedVariables false
namespace Go.Proofs.YteafmomjfnlkgaaGreat
open Go.ChangeShapes Go.WideShapes Go.ChangeAt Go.RowKit Go.Av
theorem own : ownKnob Tryz.prog.godebug = none := by kernel_rfl
theorem laidOut : laidOutB Tryz.prog = true := by kernel_rfl
theorem read : ∀ t ∈ Tryz.f8.params.toList, Tryz.prog.readableRec t = true ∧ t < Tryz.prog.types.size := by
  have h : (Tryz.f8.params.toList.all fun t => Tryz.prog.readableRec t && decide (t < Tryz.prog.types.size)) = true := by kernel_rfl
  intro t ht
  have := List.all_eq_true.1 h t ht
  simpa using this
theorem one_le {H : Type} (d : DataW H) : 1 ≤ Rows.uptoBulk d := by
  cases d with
  | lit l => cases l <;> simp [Rows.uptoBulk]
  | _ => simp [Rows.uptoBulk]
noncomputable def bm (H : Type) : Bulk H := ⟨Rows.uptoBulk, Rows.uptoBulkAll, by simp [Rows.uptoBulkAll], fun d l => by simp [Rows.uptoBulkAll], fun e s => by simp [Rows.uptoBulk], fun ps => by simp [Rows.uptoBulk], fun b => by simp [Rows.uptoBulk], one_le⟩
set_option maxRecDepth 100000 in
theorem lifted (os : Os) (started : os.Started) (H : Type) (enc : TypeId × Value → H) (F : Stop.Interp) :
    ReturnsInHanded {} Tryz.checked os 8 .any ((Rows.OpenSpec.upto Rows.ewiseValsSpec).pre6 enc Tryz.prog Tryz.f8 Rows.ewiseValsUptoRow.domain false) (((Rows.OpenSpec.upto Rows.ewiseValsSpec).at F).post enc Tryz.prog Tryz.f8 false true false false) := by
  refine law_liftedU (C := Tryz.checked) (s := Rows.ewiseValsSpec) (so := Rows.OpenSpec.upto Rows.ewiseValsSpec) (kk := Rows.uptoSmall) started rfl (fun _ => rfl) own (by kernel_rfl) Tryz.func8 laidOut read rfl rfl rfl Tryz.underlying4
    (fun ds hd => by match ds, hd with | [d0], _ => rfl)
    (OpenSpec.witness (enc := enc) (C := Tryz.checked) (s := Rows.OpenSpec.upto Rows.ewiseValsSpec) (k := Rows.uptoSmall) rfl false ⟨#[], #[.slice none 0 0], []⟩ 8 (by kernel_rfl) (by kernel_rfl) (by kernel_rfl) (x := ([.nil], [], [])) (by kernel_rfl) rfl (by kernel_rfl)) ?_
  intro W base args ds p hval hA hlt hk
  have hA0 : DataW.TrodAll enc Tryz.prog W 0 (fun _ => true) true [31] args.toList ds p := hA
  have hk0 : (bm H).ba ds ≤ 1048576 := of_decide_eq_true hk
  have hval0 : ∀ (j : Nat) t v, (#[31] : Array TypeId)[j]? = some t → args[j]? = some v → Value.okWide Tryz.prog W .any base t v := hval
  obtain ⟨v0, r0, d0, s0, p0, q0, e0, rfl, rfl, h0, g0⟩ := trodAll_cons hA0
  obtain ⟨rfl, rfl, rfl⟩ := trodAll_nil g0
  have ea : args = #[v0] := by cases args; simp_all
  subst ea
  obtain ⟨a0, c0, w0⟩ := arg_slice Tryz.underlying31 is31 (hval0 0 31 v0 rfl rfl) h0 (bulk_at hk0 (j := 0) rfl)
  obtain ⟨fu, hl⟩ := law_8 a0 w0
  exact law_calls (us := [v0]) (ok8 fu a0 true hl) rfl fun i x u hx hu => by
    match i with
    | 0 => simp at hx hu; subst hx hu; exact c0
    | i + 1 => simp at hx
theorem ewiseVals_holds : Rows.EwiseValsUptoSaid :=
  OpenClaim.holds_of_cond 8 Tryz.f8 rfl rfl rfl rfl rfl rfl rfl ⟨rfl, rfl, rfl, rfl, rfl⟩ rfl rfl rfl rfl rfl (by kernel_rfl) Tryz.func8 joined
    (of_decide_eq_true (by kernel_rfl)) (by unfold Func.isWrapper; first | (rw [if_pos (by decide +kernel)]; kernel_rfl) | (rw [if_neg (by decide +kernel)]; exact ⟨rfl, rfl⟩))
    (fun os started H enc _ F => lifted os started H enc F)
#print axioms ewiseVals_holds
end Go.Proofs.YteafmomjfnlkgaaGreat
