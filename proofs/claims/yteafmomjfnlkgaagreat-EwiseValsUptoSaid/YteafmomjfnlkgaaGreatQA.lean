/- The arguments of a law, by their types. Made by a program of mine. Conditions: none. -/
import Derived.Test.YteafmomjfnlkgaaGreatBu
import Derived.Test.YteafmomjfnlkgaaGreatQS
import Derived.Test.YteafmomjfnlkgaaGreatProg
set_option linter.unusedVariables false
open Go Go.Proofs
namespace Go.Av
theorem is3 {H : Type} {M : Bulk H} {enc : TypeId × Value → H} {W : World} : Is M enc Tryz.prog W 3 (fun n : Int => [.v (.int .i64 n)]) (fun n => (Lit.int .i64 n).wf = true) := is_int Tryz.underlying3
theorem is22 {H : Type} {M : Bulk H} {enc : TypeId × Value → H} {W : World} : Is M enc Tryz.prog W 22 (fun l : List Int => [.arr l.length (lm (ik .i64) l)]) (fun l => l.length ≤ 1048576 ∧ ∀ z0 ∈ l, ((Lit.int .i64 z0).wf = true)) := by
  have h := is_slice (M := M) (enc := enc) (W := W) Tryz.underlying22 is3 (show Tryz.prog.cellsOf 3 = 1 by kernel_rfl) (by decide) (fun _ => rfl)
  exact is_map h id (fun l => by rw [lm_fm]; rfl) fun l hl => hl
theorem is23 {H : Type} {M : Bulk H} {enc : TypeId × Value → H} {W : World} : Is M enc Tryz.prog W 23 (fun n : Int => [.v (.int .u32 n)]) (fun n => (Lit.int .u32 n).wf = true) := is_int Tryz.underlying23
theorem is24 {H : Type} {M : Bulk H} {enc : TypeId × Value → H} {W : World} : Is M enc Tryz.prog W 24 (fun l : List Int => [.arr l.length (lm (ik .u32) l)]) (fun l => l.length ≤ 1048576 ∧ ∀ z0 ∈ l, ((Lit.int .u32 z0).wf = true)) := by
  have h := is_slice (M := M) (enc := enc) (W := W) Tryz.underlying24 is23 (show Tryz.prog.cellsOf 23 = 1 by kernel_rfl) (by decide) (fun _ => rfl)
  exact is_map h id (fun l => by rw [lm_fm]; rfl) fun l hl => hl
theorem is2 {H : Type} {M : Bulk H} {enc : TypeId × Value → H} {W : World} : Is M enc Tryz.prog W 2 (fun n : Int => [.v (.int .i64 n)]) (fun n => (Lit.int .i64 n).wf = true) := is_int Tryz.underlying2
theorem is25 {H : Type} {M : Bulk H} {enc : TypeId × Value → H} {W : World} : Is M enc Tryz.prog W 25 (fun l : List Int => [.arr l.length (lm (ik .i64) l)]) (fun l => l.length ≤ 1048576 ∧ ∀ z0 ∈ l, ((Lit.int .i64 z0).wf = true)) := by
  have h := is_slice (M := M) (enc := enc) (W := W) Tryz.underlying25 is2 (show Tryz.prog.cellsOf 2 = 1 by kernel_rfl) (by decide) (fun _ => rfl)
  exact is_map h id (fun l => by rw [lm_fm]; rfl) fun l hl => hl
theorem is4 {H : Type} {M : Bulk H} {enc : TypeId × Value → H} {W : World} : Is M enc Tryz.prog W 4 (fun n : Bool => [.v (.bool n)]) (fun n => True) := is_bool Tryz.underlying4
theorem is26 {H : Type} {M : Bulk H} {enc : TypeId × Value → H} {W : World} : Is M enc Tryz.prog W 26 (fun l : List Bool => [.arr l.length (lm (bk) l)]) (fun l => l.length ≤ 1048576 ∧ ∀ z0 ∈ l, True) := by
  have h := is_slice (M := M) (enc := enc) (W := W) Tryz.underlying26 is4 (show Tryz.prog.cellsOf 4 = 1 by kernel_rfl) (by decide) (fun _ => rfl)
  exact is_map h id (fun l => by rw [lm_fm]; rfl) fun l hl => hl
def Q_28 (x : T_Tensor) : Prop := ((Lit.int .i64 x.fType).wf = true) ∧ (x.fDims.length ≤ 1048576 ∧ ∀ z0 ∈ x.fDims, ((Lit.int .i64 z0).wf = true)) ∧ (x.fF.length ≤ 1048576 ∧ ∀ z0 ∈ x.fF, ((Lit.int .u32 z0).wf = true)) ∧ (x.fI.length ≤ 1048576 ∧ ∀ z0 ∈ x.fI, ((Lit.int .i64 z0).wf = true)) ∧ (x.fB.length ≤ 1048576 ∧ ∀ z0 ∈ x.fB, True) ∧ True
theorem is28 {H : Type} {M : Bulk H} {enc : TypeId × Value → H} {W : World} : Is M enc Tryz.prog W 28 c_T_Tensor Q_28 :=
  is_map (is_struct (by kernel_rfl) (by kernel_rfl) (by kernel_rfl) (isF_cons is3 (isF_cons is22 (isF_cons is24 (isF_cons is25 (isF_cons is26 isF_nil)))))) (fun p => T_Tensor.mk p.1 p.2.1 p.2.2.1 p.2.2.2.1 p.2.2.2.2.1) (fun _ => rfl) (fun _ h => h)
theorem is31 {H : Type} {M : Bulk H} {enc : TypeId × Value → H} {W : World} : Is M enc Tryz.prog W 31 (fun l : List T_Tensor => [.arr l.length (fm c_T_Tensor l)]) (fun l => l.length ≤ 1048576 ∧ ∀ z0 ∈ l, (Q_28 z0)) := by
  have h := is_slice (M := M) (enc := enc) (W := W) Tryz.underlying31 is28 (show Tryz.prog.cellsOf 28 = 5 by kernel_rfl) (by decide) c_T_Tensor_len
  exact h
end Go.Av
