/- ShapeMeets holds. Conditions: none. -/
import Derived.Test.YtoeineoiofjfdaaRows
import Derived.Test.YtoeineoiofjfdaaQ3W3
import Derived.Test.YtoeineoiofjfdaaBr
import Derived.Test.YtoeineoiofjfdaaP12
set_option linter.unusedVariables false
namespace Go.Proofs.Ytoeineoiofjfdaa
open Go.ChangeShapes Go.WideShapes Go.ChangeAt Go.RowKit Go.Av
theorem own : ownKnob Try.prog.godebug = none := by kernel_rfl
theorem laidOut : laidOutB Try.prog = true := by kernel_rfl
theorem cells3 : Try.prog.cellsOf 3 = 1 := by kernel_rfl
theorem bytes3 : Try.prog.bytesOf 3 = 8 := by kernel_rfl
theorem read4 : ∀ t ∈ Try.f4.params.toList, Try.prog.readableRec t = true ∧ t < Try.prog.types.size := by
  have h : (Try.f4.params.toList.all fun t => Try.prog.readableRec t && decide (t < Try.prog.types.size)) = true := by kernel_rfl
  intro t ht
  have := List.all_eq_true.1 h t ht
  simpa using this
theorem pureMeets (l xs : List Int) (a : Int) (ha : l.length * 8 ≤ 140737488351232) (hb : xs.length * 8 ≤ 140737488351232) : PureOK Try.prog 4 [.arr l.length (lm (ik .i64) l), .arr xs.length (lm (ik .i64) xs), .v (.int .i64 a)] (.v (.bool true)) :=
  ok4 (l.length + xs.length + 10) l xs a true (Meets_law ha hb (by omega) (by omega) (by omega))
set_option maxRecDepth 100000 in
theorem lifted4 (os : Os) (started : os.Started) (H : Type) (enc : TypeId × Value → H) :
    ReturnsInHanded {} Try.checked os 4 .any (Rows.shapeMeetsSpec.pre6 enc Try.prog Try.f4 Rows.shapeMeetsRow.domain false) (Rows.shapeMeetsSpec.post enc Try.prog Try.f4 false true false false) := by
  refine law_lifted (C := Try.checked) started own (by kernel_rfl) Try.func4 laidOut read4 rfl rfl Try.underlying4
    (fun ds hd => by match ds, hd with | [d1, d2, d3], _ => rfl)
    (ChangeSpec.witness6 (enc := enc) (C := Try.checked) false ⟨#[], #[.slice none 0 0, .slice none 0 0, .int .i64 0], []⟩ 8 (by kernel_rfl) (by kernel_rfl) (by kernel_rfl) (by kernel_rfl)) ?_
  intro W base args ds p hval hA hlt hsz
  have hA0 : DataW.TrodAll enc Try.prog W 0 (fun _ => true) true [22, 22, 3] args.toList ds p := hA
  have hsz0 : (DataW.weightsEach Try.prog [22, 22, 3] ds).all (· ≤ reachBytes) = true := hsz
  have hval0 : ∀ (j : Nat) t v, (#[22, 22, 3] : Array TypeId)[j]? = some t → args[j]? = some v → Value.okWide Try.prog W .any base t v := hval
  obtain ⟨v0, v1, v2, d0, d1, d2, p0, p1, p2, rfl, rfl, rfl, h0, h1, h2⟩ := trodAll_three hA0
  obtain ⟨l, hl, wl, dl⟩ := arg_ints Try.underlying22 Try.underlying3 cells3 (hval0 0 22 v0 rfl rfl) h0
  obtain ⟨xs, hx, wx, dx⟩ := arg_ints Try.underlying22 Try.underlying3 cells3 (hval0 1 22 v1 rfl rfl) h1
  obtain ⟨a, rfl, rfl, rfl, wa⟩ := open_int Try.underlying3 (hval0 2 3 v2 rfl rfl) h2
  have hs := size_ints hsz0 (j := 0) (t := 22) (e := 3) rfl rfl Try.underlying22 dl
  have hs2 := size_ints hsz0 (j := 1) (t := 22) (e := 3) rfl rfl Try.underlying22 dx
  rw [bytes3] at hs hs2
  exact law_calls (us := [v0, v1, .int .i64 a]) (pureMeets l xs a hs hs2) rfl fun i x u hx0 hu => by
    match i with
    | 0 => simp at hx0 hu; subst hx0 hu; exact hl
    | 1 => simp at hx0 hu; subst hx0 hu; exact hx
    | 2 => simp at hx0 hu; subst hx0 hu; exact .v
    | i + 3 => simp at hx0
theorem shapeMeets_holds : Rows.ShapeMeetsSaid :=
  OpenClaim.holds_of_wide 4 Try.f4 rfl rfl rfl rfl rfl rfl rfl ⟨rfl, rfl, rfl, rfl, rfl⟩ rfl rfl rfl rfl rfl (by kernel_rfl) Try.func4 (by kernel_rfl)
    (of_decide_eq_true (by kernel_rfl)) (by unfold Func.isWrapper; first | (rw [if_pos (by decide +kernel)]; kernel_rfl) | (rw [if_neg (by decide +kernel)]; exact ⟨rfl, rfl⟩))
    (fun os started H enc _ => lifted4 os started H enc)
#print axioms shapeMeets_holds
end Go.Proofs.Ytoeineoiofjfdaa
