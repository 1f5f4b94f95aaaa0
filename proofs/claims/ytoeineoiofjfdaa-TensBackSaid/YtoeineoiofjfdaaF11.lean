/- TensBack holds. Conditions: none. -/
import Derived.Test.YtoeineoiofjfdaaRows
import Derived.Test.YtoeineoiofjfdaaQW
import Derived.Test.YtoeineoiofjfdaaQA
import Derived.Test.YtoeineoiofjfdaaP29
set_option linter.unusedVariables false
namespace Go.Proofs.Ytoeineoiofjfdaa
open Go.ChangeShapes Go.WideShapes Go.ChangeAt Go.RowKit Go.Av
theorem own : ownKnob Try.prog.godebug = none := by kernel_rfl
theorem laidOut : laidOutB Try.prog = true := by kernel_rfl
theorem read : ∀ t ∈ Try.f11.params.toList, Try.prog.readableRec t = true ∧ t < Try.prog.types.size := by
  have h : (Try.f11.params.toList.all fun t => Try.prog.readableRec t && decide (t < Try.prog.types.size)) = true := by kernel_rfl
  intro t ht
  have := List.all_eq_true.1 h t ht
  simpa using this
set_option maxRecDepth 100000 in
theorem lifted (os : Os) (started : os.Started) (H : Type) (enc : TypeId × Value → H) :
    ReturnsInHanded {} Try.checked os 11 .any (Rows.tensBackSpec.pre6 enc Try.prog Try.f11 Rows.tensBackRow.domain false) (Rows.tensBackSpec.post enc Try.prog Try.f11 false true false false) := by
  refine law_lifted (C := Try.checked) started own (by kernel_rfl) Try.func11 laidOut read rfl rfl Try.underlying4
    (fun ds hd => by match ds, hd with | [d0], _ => rfl)
    (ChangeSpec.witness6 (enc := enc) (C := Try.checked) false ⟨#[], #[.agg #[.int .i64 0, .slice none 0 0, .slice none 0 0, .slice none 0 0, .slice none 0 0]], []⟩ 8 (by kernel_rfl) (by kernel_rfl) (by kernel_rfl) (by kernel_rfl)) ?_
  intro W base args ds p hval hA hlt hsz
  have hA0 : DataW.TrodAll enc Try.prog W 0 (fun _ => true) true [42] args.toList ds p := hA
  have hsz0 : (DataW.weightsEach Try.prog [42] ds).all (· ≤ reachBytes) = true := hsz
  have hval0 : ∀ (j : Nat) t v, (#[42] : Array TypeId)[j]? = some t → args[j]? = some v → Value.okWide Try.prog W .any base t v := hval
  obtain ⟨v0, r0, d0, s0, p0, q0, e0, rfl, rfl, h0, g0⟩ := trodAll_cons hA0
  obtain ⟨rfl, rfl, rfl⟩ := trodAll_nil g0
  have ea : args = #[v0] := by cases args; simp_all
  subst ea
  obtain ⟨a0, c0, w0⟩ := arg_agg (by kernel_rfl) is42 (hval0 0 42 v0 rfl rfl) h0 (sized_at hsz0 (j := 0) rfl rfl)
  obtain ⟨fu, hl⟩ := law_11 a0 w0
  exact law_calls (us := [v0]) (ok11 fu a0 true hl) rfl fun i x u hx hu => by
    match i with
    | 0 => simp at hx hu; subst hx hu; exact c0
    | i + 1 => simp at hx
theorem tensBack_holds : Rows.TensBackSaid :=
  OpenClaim.holds_of_wide 11 Try.f11 rfl rfl rfl rfl rfl rfl rfl ⟨rfl, rfl, rfl, rfl, rfl⟩ rfl rfl rfl rfl rfl (by kernel_rfl) Try.func11 (by kernel_rfl)
    (of_decide_eq_true (by kernel_rfl)) (by unfold Func.isWrapper; first | (rw [if_pos (by decide +kernel)]; kernel_rfl) | (rw [if_neg (by decide +kernel)]; exact ⟨rfl, rfl⟩))
    (fun os started H enc _ => lifted os started H enc)
#print axioms tensBack_holds
end Go.Proofs.Ytoeineoiofjfdaa
