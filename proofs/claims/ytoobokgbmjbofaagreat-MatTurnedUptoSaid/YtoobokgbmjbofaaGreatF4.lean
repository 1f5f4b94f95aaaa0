/- MatTurned holds. Conditions: none. -/
import Derived.Test.YtoobokgbmjbofaaGreatRows
import Derived.Test.YtoobokgbmjbofaaGreatQW
import Derived.Test.YtoobokgbmjbofaaGreatQA
import Derived.Test.YtoobokgbmjbofaaGreatM78
set_option linter.unusedVariables false
namespace Go.Proofs.YtoobokgbmjbofaaGreat
open Go.ChangeShapes Go.WideShapes Go.ChangeAt Go.RowKit Go.Av
theorem own : ownKnob Tryz.prog.godebug = none := by kernel_rfl
theorem laidOut : laidOutB Tryz.prog = true := by kernel_rfl
theorem read : ∀ t ∈ Tryz.f4.params.toList, Tryz.prog.readableRec t = true ∧ t < Tryz.prog.types.size := by
  have h : (Tryz.f4.params.toList.all fun t => Tryz.prog.readableRec t && decide (t < Tryz.prog.types.size)) = true := by kernel_rfl
  intro t ht
  have := List.all_eq_true.1 h t ht
  simpa using this
theorem one_le {H : Type} (d : DataW H) : 1 ≤ Rows.uptoBulk d := by
  cases d with
  | lit l => cases l <;> simp [Rows.uptoBulk]
  | _ => simp [Rows.uptoBulk]
noncomputable def bm (H : Type) : Bulk H := ⟨Rows.uptoBulk, Rows.uptoBulkAll, by simp [Rows.uptoBulkAll], fun d l => by simp [Rows.uptoBulkAll], fun e s => by simp [Rows.uptoBulk], fun ps => by simp [Rows.uptoBulk], fun b => by simp [Rows.uptoBulk], one_le⟩
set_option maxRecDepth 100000 in
theorem lifted (os : Os) (started : os.Started) (H : Type) (enc : TypeId × Value → H) (F : Stop.Interp) :
    ReturnsInHanded {} Tryz.checked os 4 .any ((Rows.OpenSpec.upto Rows.matTurnedSpec).pre6 enc Tryz.prog Tryz.f4 Rows.matTurnedUptoRow.domain false) (((Rows.OpenSpec.upto Rows.matTurnedSpec).at F).post enc Tryz.prog Tryz.f4 false true false false) := by
  refine law_liftedU (C := Tryz.checked) (s := Rows.matTurnedSpec) (so := Rows.OpenSpec.upto Rows.matTurnedSpec) (kk := Rows.uptoSmall) started rfl (fun _ => rfl) own (by kernel_rfl) Tryz.func4 laidOut read rfl rfl rfl Tryz.underlying4
    (fun ds hd => by match ds, hd with | [d0, d1], _ => rfl)
    (OpenSpec.witness (enc := enc) (C := Tryz.checked) (s := Rows.OpenSpec.upto Rows.matTurnedSpec) (k := Rows.uptoSmall) rfl false ⟨#[], #[.agg #[.int .i64 0, .slice none 0 0, .bool false, .bool false, .bool false, .bool false, .bool false, .slice none 0 0, .bool false, .int .u32 0, .int .u32 0, .int .u32 0, .bool false, .bool false, .bool false, .int .i64 0, .int .i64 0, .bool false, .bool false, .int .i64 0, .slice none 0 0, .slice none 0 0, .slice none 0 0, .slice none 0 0, .int .i64 0, .bool false, .bool false, .int .i64 0, .int .i64 0, .int .i64 0, .bool false, .int .i64 0, .slice none 0 0, .slice none 0 0, .slice none 0 0, .slice none 0 0], .slice none 0 0], []⟩ 8 (by kernel_rfl) (by kernel_rfl) (by kernel_rfl) (x := ([.agg [.lit (.int .i64 0), .nil, .lit (.bool false), .lit (.bool false), .lit (.bool false), .lit (.bool false), .lit (.bool false), .nil, .lit (.bool false), .lit (.int .u32 0), .lit (.int .u32 0), .lit (.int .u32 0), .lit (.bool false), .lit (.bool false), .lit (.bool false), .lit (.int .i64 0), .lit (.int .i64 0), .lit (.bool false), .lit (.bool false), .lit (.int .i64 0), .nil, .nil, .nil, .nil, .lit (.int .i64 0), .lit (.bool false), .lit (.bool false), .lit (.int .i64 0), .lit (.int .i64 0), .lit (.int .i64 0), .lit (.bool false), .agg [.lit (.int .i64 0), .nil, .nil, .nil, .nil]], .nil], [], [])) (by kernel_rfl) rfl (by kernel_rfl)) ?_
  intro W base args ds p hval hA hlt hk
  have hA0 : DataW.TrodAll enc Tryz.prog W 0 (fun _ => true) true [33, 34] args.toList ds p := hA
  have hk0 : (bm H).ba ds ≤ 1048576 := of_decide_eq_true hk
  have hval0 : ∀ (j : Nat) t v, (#[33, 34] : Array TypeId)[j]? = some t → args[j]? = some v → Value.okWide Tryz.prog W .any base t v := hval
  obtain ⟨v0, r0, d0, s0, p0, q0, e0, rfl, rfl, h0, g0⟩ := trodAll_cons hA0
  obtain ⟨v1, r1, d1, s1, p1, q1, rfl, rfl, rfl, h1, g1⟩ := trodAll_cons g0
  obtain ⟨rfl, rfl, rfl⟩ := trodAll_nil g1
  have ea : args = #[v0, v1] := by cases args; simp_all
  subst ea
  obtain ⟨a0, c0, w0⟩ := arg_agg (by kernel_rfl) is33 (hval0 0 33 v0 rfl rfl) h0 (bulk_at hk0 (j := 0) rfl)
  obtain ⟨a1, c1, w1⟩ := arg_slice Tryz.underlying34 is34 (hval0 1 34 v1 rfl rfl) h1 (bulk_at hk0 (j := 1) rfl)
  obtain ⟨fu, hl⟩ := law_4 a0 a1 w0 w1
  exact law_calls (us := [v0, v1]) (ok4 fu a0 a1 true hl) rfl fun i x u hx hu => by
    match i with
    | 0 => simp at hx hu; subst hx hu; exact c0
    | 1 => simp at hx hu; subst hx hu; exact c1
    | i + 2 => simp at hx
theorem matTurned_holds : Rows.MatTurnedUptoSaid :=
  OpenClaim.holds_of_cond 4 Tryz.f4 rfl rfl rfl rfl rfl rfl rfl ⟨rfl, rfl, rfl, rfl, rfl⟩ rfl rfl rfl rfl rfl (by kernel_rfl) Tryz.func4 (by kernel_rfl)
    (of_decide_eq_true (by kernel_rfl)) (by unfold Func.isWrapper; first | (rw [if_pos (by decide +kernel)]; kernel_rfl) | (rw [if_neg (by decide +kernel)]; exact ⟨rfl, rfl⟩))
    (fun os started H enc _ F => lifted os started H enc F)
#print axioms matTurned_holds
end Go.Proofs.YtoobokgbmjbofaaGreat
