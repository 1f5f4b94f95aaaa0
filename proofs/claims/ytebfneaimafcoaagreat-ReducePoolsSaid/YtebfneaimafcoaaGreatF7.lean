/- ReducePools holds. Conditions: none. -/
import Derived.Test.YtebfneaimafcoaaGreatRows
import Derived.Test.YtebfneaimafcoaaGreatQW
import Derived.Test.YtebfneaimafcoaaGreatQA
import Derived.Test.YtebfneaimafcoaaGreatP77
set_option linter.unusedVariables false
namespace Go.Proofs.YtebfneaimafcoaaGreat
open Go.ChangeShapes Go.WideShapes Go.ChangeAt Go.RowKit Go.Av
theorem own : ownKnob Tryz.prog.godebug = none := by kernel_rfl
theorem laidOut : laidOutB Tryz.prog = true := by kernel_rfl
theorem read : ∀ t ∈ Tryz.f7.params.toList, Tryz.prog.readableRec t = true ∧ t < Tryz.prog.types.size := by
  have h : (Tryz.f7.params.toList.all fun t => Tryz.prog.readableRec t && decide (t < Tryz.prog.types.size)) = true := by kernel_rfl
  intro t ht
  have := List.all_eq_true.1 h t ht
  simpa using this
set_option maxRecDepth 100000 in
theorem lifted (os : Os) (started : os.Started) (H : Type) (enc : TypeId × Value → H) :
    ReturnsInHanded {} Tryz.checked os 7 .any (Rows.reducePoolsSpec.pre6 enc Tryz.prog Tryz.f7 Rows.reducePoolsRow.domain false) (Rows.reducePoolsSpec.post enc Tryz.prog Tryz.f7 false true false false) := by
  refine law_lifted (C := Tryz.checked) started own (by kernel_rfl) Tryz.func7 laidOut read rfl rfl Tryz.underlying4
    (fun ds hd => by match ds, hd with | [d0], _ => rfl)
    (ChangeSpec.witness6 (enc := enc) (C := Tryz.checked) false ⟨#[], #[.agg #[.int .i64 0, .slice none 0 0, .slice none 0 0, .slice none 0 0, .slice none 0 0]], []⟩ 8 (by kernel_rfl) (by kernel_rfl) (by kernel_rfl) (by kernel_rfl)) ?_
  intro W base args ds p hval hA hlt hsz
  have hA0 : DataW.TrodAll enc Tryz.prog W 0 (fun _ => true) true [31] args.toList ds p := hA
  have hsz0 : (DataW.weightsEach Tryz.prog [31] ds).all (· ≤ reachBytes) = true := hsz
  have hval0 : ∀ (j : Nat) t v, (#[31] : Array TypeId)[j]? = some t → args[j]? = some v → Value.okWide Tryz.prog W .any base t v := hval
  obtain ⟨v0, r0, d0, s0, p0, q0, e0, rfl, rfl, h0, g0⟩ := trodAll_cons hA0
  obtain ⟨rfl, rfl, rfl⟩ := trodAll_nil g0
  have ea : args = #[v0] := by cases args; simp_all
  subst ea
  obtain ⟨a0, c0, w0⟩ := arg_agg (by kernel_rfl) is31 (hval0 0 31 v0 rfl rfl) h0 (sized_at hsz0 (j := 0) rfl rfl)
  obtain ⟨fu, hl⟩ := law_7 a0 w0
  exact law_calls (us := [v0]) (ok7 fu a0 true hl) rfl fun i x u hx hu => by
    match i with
    | 0 => simp at hx hu; subst hx hu; exact c0
    | i + 1 => simp at hx
theorem reducePools_holds : Rows.ReducePoolsSaid :=
  OpenClaim.holds_of_wide 7 Tryz.f7 rfl rfl rfl rfl rfl rfl rfl ⟨rfl, rfl, rfl, rfl, rfl⟩ rfl rfl rfl rfl rfl (by kernel_rfl) Tryz.func7 (by kernel_rfl)
    (of_decide_eq_true (by kernel_rfl)) (by unfold Func.isWrapper; first | (rw [if_pos (by decide +kernel)]; kernel_rfl) | (rw [if_neg (by decide +kernel)]; exact ⟨rfl, rfl⟩))
    (fun os started H enc _ => lifted os started H enc)
#print axioms reducePools_holds
end Go.Proofs.YtebfneaimafcoaaGreat
