/- The arguments of a law, by their types. Made by a program of mine. Conditions: none. -/
import Derived.Test.YtoeineoiofjfdaaBs
import Derived.Test.YtoeineoiofjfdaaQS
import Derived.Test.YtoeineoiofjfdaaProg
set_option linter.unusedVariables false
open Go Go.Proofs
namespace Go.Av
theorem is3 {H : Type} {enc : TypeId × Value → H} {W : World} : Is enc Try.prog W 3 (fun n : Int => [.v (.int .i64 n)]) (fun n => (Lit.int .i64 n).wf = true) := is_int Try.underlying3
theorem is22 {H : Type} {enc : TypeId × Value → H} {W : World} : Is enc Try.prog W 22 (fun l : List Int => [.arr l.length (lm (ik .i64) l)]) (fun l => l.length * 8 ≤ 140737488351232 ∧ ∀ z0 ∈ l, ((Lit.int .i64 z0).wf = true)) := by
  have h := is_slice (enc := enc) (W := W) Try.underlying22 is3 (show Try.prog.cellsOf 3 = 1 by kernel_rfl) (by decide) (fun _ => rfl)
  rw [show Try.prog.bytesOf 3 = 8 by kernel_rfl] at h
  exact is_map h id (fun l => by rw [lm_fm]; rfl) fun l hl => hl
theorem is68 {H : Type} {enc : TypeId × Value → H} {W : World} : Is enc Try.prog W 68 (fun n : Int => [.v (.int .u32 n)]) (fun n => (Lit.int .u32 n).wf = true) := is_int Try.underlying68
theorem is38 {H : Type} {enc : TypeId × Value → H} {W : World} : Is enc Try.prog W 38 (fun l : List Int => [.arr l.length (lm (ik .u32) l)]) (fun l => l.length * 4 ≤ 140737488351232 ∧ ∀ z0 ∈ l, ((Lit.int .u32 z0).wf = true)) := by
  have h := is_slice (enc := enc) (W := W) Try.underlying38 is68 (show Try.prog.cellsOf 68 = 1 by kernel_rfl) (by decide) (fun _ => rfl)
  rw [show Try.prog.bytesOf 68 = 4 by kernel_rfl] at h
  exact is_map h id (fun l => by rw [lm_fm]; rfl) fun l hl => hl
theorem is2 {H : Type} {enc : TypeId × Value → H} {W : World} : Is enc Try.prog W 2 (fun n : Int => [.v (.int .i64 n)]) (fun n => (Lit.int .i64 n).wf = true) := is_int Try.underlying2
theorem is39 {H : Type} {enc : TypeId × Value → H} {W : World} : Is enc Try.prog W 39 (fun l : List Int => [.arr l.length (lm (ik .i64) l)]) (fun l => l.length * 8 ≤ 140737488351232 ∧ ∀ z0 ∈ l, ((Lit.int .i64 z0).wf = true)) := by
  have h := is_slice (enc := enc) (W := W) Try.underlying39 is2 (show Try.prog.cellsOf 2 = 1 by kernel_rfl) (by decide) (fun _ => rfl)
  rw [show Try.prog.bytesOf 2 = 8 by kernel_rfl] at h
  exact is_map h id (fun l => by rw [lm_fm]; rfl) fun l hl => hl
theorem is4 {H : Type} {enc : TypeId × Value → H} {W : World} : Is enc Try.prog W 4 (fun n : Bool => [.v (.bool n)]) (fun n => True) := is_bool Try.underlying4
theorem is40 {H : Type} {enc : TypeId × Value → H} {W : World} : Is enc Try.prog W 40 (fun l : List Bool => [.arr l.length (lm (bk) l)]) (fun l => l.length * 1 ≤ 140737488351232 ∧ ∀ z0 ∈ l, True) := by
  have h := is_slice (enc := enc) (W := W) Try.underlying40 is4 (show Try.prog.cellsOf 4 = 1 by kernel_rfl) (by decide) (fun _ => rfl)
  rw [show Try.prog.bytesOf 4 = 1 by kernel_rfl] at h
  exact is_map h id (fun l => by rw [lm_fm]; rfl) fun l hl => hl
def Q_42 (x : T_Tensor) : Prop := ((Lit.int .i64 x.fType).wf = true) ∧ (x.fDims.length * 8 ≤ 140737488351232 ∧ ∀ z0 ∈ x.fDims, ((Lit.int .i64 z0).wf = true)) ∧ (x.fF.length * 4 ≤ 140737488351232 ∧ ∀ z0 ∈ x.fF, ((Lit.int .u32 z0).wf = true)) ∧ (x.fI.length * 8 ≤ 140737488351232 ∧ ∀ z0 ∈ x.fI, ((Lit.int .i64 z0).wf = true)) ∧ (x.fB.length * 1 ≤ 140737488351232 ∧ ∀ z0 ∈ x.fB, True) ∧ True
theorem is42 {H : Type} {enc : TypeId × Value → H} {W : World} : Is enc Try.prog W 42 c_T_Tensor Q_42 :=
  is_map (is_struct (by kernel_rfl) (by kernel_rfl) (by kernel_rfl) (isF_cons is3 (isF_cons is22 (isF_cons is38 (isF_cons is39 (isF_cons is40 isF_nil)))))) (fun p => T_Tensor.mk p.1 p.2.1 p.2.2.1 p.2.2.2.1 p.2.2.2.2.1) (fun _ => rfl) (fun _ h => h)
end Go.Av
