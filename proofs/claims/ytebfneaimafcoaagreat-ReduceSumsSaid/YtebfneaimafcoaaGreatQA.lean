/- The arguments of a law, by their types. Made by a program of mine. Conditions: none. -/
import Derived.Test.YtebfneaimafcoaaGreatBs
import Derived.Test.YtebfneaimafcoaaGreatQS
import Derived.Test.YtebfneaimafcoaaGreatProg
set_option linter.unusedVariables false
open Go Go.Proofs
namespace Go.Av
theorem is24 {H : Type} {enc : TypeId × Value → H} {W : World} : Is enc Tryz.prog W 24 (fun n : Int => [.v (.int .u32 n)]) (fun n => (Lit.int .u32 n).wf = true) := is_int Tryz.underlying24
theorem is22 {H : Type} {enc : TypeId × Value → H} {W : World} : Is enc Tryz.prog W 22 (fun l : List Int => [.arr l.length (lm (ik .u32) l)]) (fun l => l.length * 4 ≤ 140737488351232 ∧ ∀ z0 ∈ l, ((Lit.int .u32 z0).wf = true)) := by
  have h := is_slice (enc := enc) (W := W) Tryz.underlying22 is24 (show Tryz.prog.cellsOf 24 = 1 by kernel_rfl) (by decide) (fun _ => rfl)
  rw [show Tryz.prog.bytesOf 24 = 4 by kernel_rfl] at h
  exact is_map h id (fun l => by rw [lm_fm]; rfl) fun l hl => hl
end Go.Av
