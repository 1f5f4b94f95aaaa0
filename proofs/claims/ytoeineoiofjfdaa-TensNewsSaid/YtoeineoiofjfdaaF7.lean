/- TensNews holds. Conditions: none. -/
import Derived.Test.YtoeineoiofjfdaaRows
import Derived.Test.YtoeineoiofjfdaaQW
import Derived.Test.YtoeineoiofjfdaaBr
import Derived.Test.YtoeineoiofjfdaaP20
set_option linter.unusedVariables false
namespace Go.Proofs.Ytoeineoiofjfdaa
open Go.ChangeShapes Go.WideShapes Go.ChangeAt Go.RowKit Go.Av
theorem own : ownKnob Try.prog.godebug = none := by kernel_rfl
theorem laidOut : laidOutB Try.prog = true := by kernel_rfl
theorem cells3 : Try.prog.cellsOf 3 = 1 := by kernel_rfl
theorem bytes3 : Try.prog.bytesOf 3 = 8 := by kernel_rfl
theorem read7 : ∀ t ∈ Try.f7.params.toList, Try.prog.readableRec t = true ∧ t < Try.prog.types.size := by
  have h : (Try.f7.params.toList.all fun t => Try.prog.readableRec t && decide (t < Try.prog.types.size)) = true := by kernel_rfl
  intro t ht
  have := List.all_eq_true.1 h t ht
  simpa using this
theorem pureNews (a : Int) (l : List Int) (h : l.length * 8 ≤ 140737488351232) : PureOK Try.prog 7 [.v (.int .i64 a), .arr l.length (lm (ik .i64) l)] (.v (.bool true)) :=
  ok7 (l.length + 5000) a l true (News_law h (by omega) (by omega))
set_option maxRecDepth 100000 in
theorem lifted7 (os : Os) (started : os.Started) (H : Type) (enc : TypeId × Value → H) :
    ReturnsInHanded {} Try.checked os 7 .any (Rows.tensNewsSpec.pre6 enc Try.prog Try.f7 Rows.tensNewsRow.domain false) (Rows.tensNewsSpec.post enc Try.prog Try.f7 false true false false) := by
  refine law_lifted (C := Try.checked) started own (by kernel_rfl) Try.func7 laidOut read7 rfl rfl Try.underlying4
    (fun ds hd => by match ds, hd with | [d1, d2], _ => rfl)
    (ChangeSpec.witness6 (enc := enc) (C := Try.checked) false ⟨#[], #[.int .i64 0, .slice none 0 0], []⟩ 8 (by kernel_rfl) (by kernel_rfl) (by kernel_rfl) (by kernel_rfl)) ?_
  intro W base args ds p hval hA hlt hsz
  have hA0 : DataW.TrodAll enc Try.prog W 0 (fun _ => true) true [3, 22] args.toList ds p := hA
  have hsz0 : (DataW.weightsEach Try.prog [3, 22] ds).all (· ≤ reachBytes) = true := hsz
  have hval0 : ∀ (j : Nat) t v, (#[3, 22] : Array TypeId)[j]? = some t → args[j]? = some v → Value.okWide Try.prog W .any base t v := hval
  obtain ⟨v0, v1, d0, d1, p0, p1, rfl, rfl, rfl, h0, h1⟩ := trodAll_two hA0
  obtain ⟨a, rfl, rfl, rfl, wa⟩ := open_int Try.underlying3 (hval0 0 3 v0 rfl rfl) h0
  obtain ⟨l, hl, wl, dl⟩ := arg_ints Try.underlying22 Try.underlying3 cells3 (hval0 1 22 v1 rfl rfl) h1
  have hs := size_ints hsz0 (j := 1) (t := 22) (e := 3) rfl rfl Try.underlying22 dl
  rw [bytes3] at hs
  exact law_calls (us := [.int .i64 a, v1]) (pureNews a l hs) rfl fun i x u hx hu => by
    match i with
    | 0 => simp at hx hu; subst hx hu; exact .v
    | 1 => simp at hx hu; subst hx hu; exact hl
    | i + 2 => simp at hx
theorem tensNews_holds : Rows.TensNewsSaid :=
  OpenClaim.holds_of_wide 7 Try.f7 rfl rfl rfl rfl rfl rfl rfl ⟨rfl, rfl, rfl, rfl, rfl⟩ rfl rfl rfl rfl rfl (by kernel_rfl) Try.func7 (by kernel_rfl)
    (of_decide_eq_true (by kernel_rfl)) (by unfold Func.isWrapper; first | (rw [if_pos (by decide +kernel)]; kernel_rfl) | (rw [if_neg (by decide +kernel)]; exact ⟨rfl, rfl⟩))
    (fun os started H enc _ => lifted7 os started H enc)
#print axioms tensNews_holds
end Go.Proofs.Ytoeineoiofjfdaa
