/- ShapeBoth holds. Conditions: none. -/
import Derived.Test.YtoeineoiofjfdaaRows
import Derived.Test.YtoeineoiofjfdaaQ1W2
import Derived.Test.YtoeineoiofjfdaaBr
import Derived.Test.YtoeineoiofjfdaaP09
set_option linter.unusedVariables false
namespace Go.Proofs.Ytoeineoiofjfdaa
open Go.ChangeShapes Go.WideShapes Go.ChangeAt Go.RowKit Go.Av
theorem own : ownKnob Try.prog.godebug = none := by kernel_rfl
theorem laidOut : laidOutB Try.prog = true := by kernel_rfl
theorem cells3 : Try.prog.cellsOf 3 = 1 := by kernel_rfl
theorem bytes3 : Try.prog.bytesOf 3 = 8 := by kernel_rfl
theorem read6 : ∀ t ∈ Try.f6.params.toList, Try.prog.readableRec t = true ∧ t < Try.prog.types.size := by
  have h : (Try.f6.params.toList.all fun t => Try.prog.readableRec t && decide (t < Try.prog.types.size)) = true := by kernel_rfl
  intro t ht
  have := List.all_eq_true.1 h t ht
  simpa using this
theorem pureBoth (a b : List Int) (ha : a.length * 8 ≤ 140737488351232) (hb : b.length * 8 ≤ 140737488351232) : PureOK Try.prog 6 [.arr a.length (lm (ik .i64) a), .arr b.length (lm (ik .i64) b)] (.v (.bool true)) :=
  ok6 (a.length + b.length + 10) a b true (Both_law (by unfold Short; omega) (by unfold Short; omega) (by omega) (by omega) (by omega))
set_option maxRecDepth 100000 in
theorem lifted6 (os : Os) (started : os.Started) (H : Type) (enc : TypeId × Value → H) :
    ReturnsInHanded {} Try.checked os 6 .any (Rows.shapeBothSpec.pre6 enc Try.prog Try.f6 Rows.shapeBothRow.domain false) (Rows.shapeBothSpec.post enc Try.prog Try.f6 false true false false) := by
  refine law_lifted (C := Try.checked) started own (by kernel_rfl) Try.func6 laidOut read6 rfl rfl Try.underlying4
    (fun ds hd => by match ds, hd with | [d1, d2], _ => rfl)
    (ChangeSpec.witness6 (enc := enc) (C := Try.checked) false ⟨#[], #[.slice none 0 0, .slice none 0 0], []⟩ 8 (by kernel_rfl) (by kernel_rfl) (by kernel_rfl) (by kernel_rfl)) ?_
  intro W base args ds p hval hA hlt hsz
  have hA0 : DataW.TrodAll enc Try.prog W 0 (fun _ => true) true [22, 22] args.toList ds p := hA
  have hsz0 : (DataW.weightsEach Try.prog [22, 22] ds).all (· ≤ reachBytes) = true := hsz
  have hval0 : ∀ (j : Nat) t v, (#[22, 22] : Array TypeId)[j]? = some t → args[j]? = some v → Value.okWide Try.prog W .any base t v := hval
  obtain ⟨v0, v1, d0, d1, p0, p1, rfl, rfl, rfl, h0, h1⟩ := trodAll_two hA0
  obtain ⟨l, hl, wl, dl⟩ := arg_ints Try.underlying22 Try.underlying3 cells3 (hval0 0 22 v0 rfl rfl) h0
  obtain ⟨a, ha, wa, da⟩ := arg_ints Try.underlying22 Try.underlying3 cells3 (hval0 1 22 v1 rfl rfl) h1
  have hs := size_ints hsz0 (j := 0) (t := 22) (e := 3) rfl rfl Try.underlying22 dl
  have hs2 := size_ints hsz0 (j := 1) (t := 22) (e := 3) rfl rfl Try.underlying22 da
  rw [bytes3] at hs hs2
  exact law_calls (us := [v0, v1]) (pureBoth l a hs hs2) rfl fun i x u hx hu => by
    match i with
    | 0 => simp at hx hu; subst hx hu; exact hl
    | 1 => simp at hx hu; subst hx hu; exact ha
    | i + 2 => simp at hx
theorem shapeBoth_holds : Rows.ShapeBothSaid :=
  OpenClaim.holds_of_wide 6 Try.f6 rfl rfl rfl rfl rfl rfl rfl ⟨rfl, rfl, rfl, rfl, rfl⟩ rfl rfl rfl rfl rfl (by kernel_rfl) Try.func6 (by kernel_rfl)
    (of_decide_eq_true (by kernel_rfl)) (by unfold Func.isWrapper; first | (rw [if_pos (by decide +kernel)]; kernel_rfl) | (rw [if_neg (by decide +kernel)]; exact ⟨rfl, rfl⟩))
    (fun os started H enc _ => lifted6 os started H enc)
#print axioms shapeBoth_holds
end Go.Proofs.Ytoeineoiofjfdaa
