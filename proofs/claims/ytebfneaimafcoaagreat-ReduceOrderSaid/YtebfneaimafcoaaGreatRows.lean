/-
  No cell of these rows narrows 'for every input' (looked for: loops, veiled, ifaces, maps, wideKeys, modest, calm, conditions, laid).
  DERIVED. THE GIVEN ROWS OF THIS SEAT. 5 by the template 'for every input the law returns true; each argument reads behind the call as it read before'; 0 by the template 'total and deterministic' (their statements: YtebfneaimafcoaaGreatTotals.lean).
  GIVEN WITH THE SEED: the statements are not yours to turn. If you find one false, say at which input.
  Laid BY PROGRAM, IN A SANDBOX (cutbox-rows.mjs): the forced cells as the released guide's own fill.sh prints them over the translation ae06f5da050477a4… (all of the seat's roots in one cut). By AI agents, Wed Nov 11 2026. No macro, syntax, notation, axiom, sorry.
-/
import Derived.Test.YtebfneaimafcoaaGreatChecked
import GoSem.Claim
import GoSem.ClaimJoined
import GoSem.ClaimMapViews
import Derived.JoinedTies
import Derived.KernelRfl
namespace Go.Proofs.YtebfneaimafcoaaGreat
/- THE CELL 'sum', in the pinned program and in every row, IS THE sha256 OF THE DUMP (.gsa) THAT YtebfneaimafcoaaGreatProg.lean LOADS. Nothing in Lean hashes anything: it is a label: what it is worth is what the hold of that sum in a sandbox is worth. -/
noncomputable def Tryz.pinned : Pinned := { name := "ytebfneaimafcoaagreat", sum := "ae06f5da050477a446446102d43de8b67dab79a09fe0ced8593828b73d95f787", checked := Tryz.checked }
namespace Rows
def none {H : Type} : Left H := { results := [], args := [] }

/-- 'latticelaw13.ReduceSums': WHATEVER THE INPUT: true; the input reads as it did. -/
def reduceSumsSpec : ChangeSpec := { name := "reduceSums", fn := fun _ => fun
  | [d] => { results := [.lit (.bool true)], args := [d] }
  | _ => none }
def reduceSumsRow : OpenClaim := { program := "ytebfneaimafcoaagreat", sum := "ae06f5da050477a446446102d43de8b67dab79a09fe0ced8593828b73d95f787", func := "lattice/latticelaw13.ReduceSums", spec := "reduceSums", inPlace := ["math/bits.Add64", "math/bits.Sub64"], unfollowed := true, recurses := true, apart := false }
def ReduceSumsSaid : Prop := reduceSumsRow.holds Tryz.pinned (OpenSpec.ofChange reduceSumsSpec)

/-- ITS FALSE NEIGHBOUR: 'it returns false'. Refute it at one input. -/
def reduceSumsWrong : ChangeSpec := { name := "reduceSums", fn := fun _ => fun
  | [d] => { results := [.lit (.bool false)], args := [d] }
  | _ => none }
def ReduceSumsWrongFalsely : Prop := reduceSumsRow.holds Tryz.pinned (OpenSpec.ofChange reduceSumsWrong)

/-- 'latticelaw13.ReduceOrder': WHATEVER THE INPUT: true; the input reads as it did. -/
def reduceOrderSpec : ChangeSpec := { name := "reduceOrder", fn := fun _ => fun
  | [d1, d2] => { results := [.lit (.bool true)], args := [d1, d2] }
  | _ => none }
def reduceOrderRow : OpenClaim := { program := "ytebfneaimafcoaagreat", sum := "ae06f5da050477a446446102d43de8b67dab79a09fe0ced8593828b73d95f787", func := "lattice/latticelaw13.ReduceOrder", spec := "reduceOrder", inPlace := ["math/bits.Add64", "math/bits.Sub64"], unfollowed := true, recurses := true, apart := false }
def ReduceOrderSaid : Prop := reduceOrderRow.holds Tryz.pinned (OpenSpec.ofChange reduceOrderSpec)

/-- ITS FALSE NEIGHBOUR: 'it returns false'. Refute it at one input. -/
def reduceOrderWrong : ChangeSpec := { name := "reduceOrder", fn := fun _ => fun
  | [d1, d2] => { results := [.lit (.bool false)], args := [d1, d2] }
  | _ => none }
def ReduceOrderWrongFalsely : Prop := reduceOrderRow.holds Tryz.pinned (OpenSpec.ofChange reduceOrderWrong)

/-- 'latticelaw13.ReduceBest': WHATEVER THE INPUT: true; the input reads as it did. -/
def reduceBestSpec : ChangeSpec := { name := "reduceBest", fn := fun _ => fun
  | [d1, d2] => { results := [.lit (.bool true)], args := [d1, d2] }
  | _ => none }
def reduceBestRow : OpenClaim := { program := "ytebfneaimafcoaagreat", sum := "ae06f5da050477a446446102d43de8b67dab79a09fe0ced8593828b73d95f787", func := "lattice/latticelaw13.ReduceBest", spec := "reduceBest", inPlace := ["math/bits.Add64", "math/bits.Sub64"], unfollowed := true, recurses := true, apart := false }
def ReduceBestSaid : Prop := reduceBestRow.holds Tryz.pinned (OpenSpec.ofChange reduceBestSpec)

/-- ITS FALSE NEIGHBOUR: 'it returns false'. Refute it at one input. -/
def reduceBestWrong : ChangeSpec := { name := "reduceBest", fn := fun _ => fun
  | [d1, d2] => { results := [.lit (.bool false)], args := [d1, d2] }
  | _ => none }
def ReduceBestWrongFalsely : Prop := reduceBestRow.holds Tryz.pinned (OpenSpec.ofChange reduceBestWrong)

/-- 'latticelaw13.ReduceKeep': WHATEVER THE INPUT: true; the input reads as it did. -/
def reduceKeepSpec : ChangeSpec := { name := "reduceKeep", fn := fun _ => fun
  | [d1, d2, d3] => { results := [.lit (.bool true)], args := [d1, d2, d3] }
  | _ => none }
def reduceKeepRow : OpenClaim := { program := "ytebfneaimafcoaagreat", sum := "ae06f5da050477a446446102d43de8b67dab79a09fe0ced8593828b73d95f787", func := "lattice/latticelaw13.ReduceKeep", spec := "reduceKeep", inPlace := ["math/bits.Add64", "math/bits.Sub64"], unfollowed := true, recurses := true, apart := false }
def ReduceKeepSaid : Prop := reduceKeepRow.holds Tryz.pinned (OpenSpec.ofChange reduceKeepSpec)

/-- ITS FALSE NEIGHBOUR: 'it returns false'. Refute it at one input. -/
def reduceKeepWrong : ChangeSpec := { name := "reduceKeep", fn := fun _ => fun
  | [d1, d2, d3] => { results := [.lit (.bool false)], args := [d1, d2, d3] }
  | _ => none }
def ReduceKeepWrongFalsely : Prop := reduceKeepRow.holds Tryz.pinned (OpenSpec.ofChange reduceKeepWrong)

/-- 'latticelaw13.ReducePools': WHATEVER THE INPUT: true; the input reads as it did. -/
def reducePoolsSpec : ChangeSpec := { name := "reducePools", fn := fun _ => fun
  | [d] => { results := [.lit (.bool true)], args := [d] }
  | _ => none }
def reducePoolsRow : OpenClaim := { program := "ytebfneaimafcoaagreat", sum := "ae06f5da050477a446446102d43de8b67dab79a09fe0ced8593828b73d95f787", func := "lattice/latticelaw13.ReducePools", spec := "reducePools", inPlace := ["math/bits.Add64", "math/bits.Sub64"], unfollowed := true, recurses := true, apart := false }
def ReducePoolsSaid : Prop := reducePoolsRow.holds Tryz.pinned (OpenSpec.ofChange reducePoolsSpec)

/-- ITS FALSE NEIGHBOUR: 'it returns false'. Refute it at one input. -/
def reducePoolsWrong : ChangeSpec := { name := "reducePools", fn := fun _ => fun
  | [d] => { results := [.lit (.bool false)], args := [d] }
  | _ => none }
def ReducePoolsWrongFalsely : Prop := reducePoolsRow.holds Tryz.pinned (OpenSpec.ofChange reducePoolsWrong)

/- THE SECOND FORM. 'bulk': how many values and letters a reading holds, each counted each time it is reached (what is shared counts as often as it is met; a slice's spare places count too). A statement '..UptoSaid' is the law's where the arguments, and the package variables that the reading takes, are together of bulk at most 1048576: NARROWER than '..Said'. Prove '..Said' where nothing that the law and all that it calls make is longer than what came in: it says more and counts as full. Else prove '..UptoSaid'. A law counts once. -/
mutual
def uptoBulk {H : Type} : DataW H → Nat
  | .lit (.string bytes) => bytes.length + 1
  | .lit _ => 1
  | .nil => 1
  | .ptr d => uptoBulk d + 1
  | .slice elems spare => uptoBulkAll elems + uptoBulkAll spare + 1
  | .agg parts => uptoBulkAll parts + 1
  | .iface _ d => uptoBulk d + 1
  | .map entries => uptoBulkEntries entries + 1
  | .held _ => 1
def uptoBulkAll {H : Type} : List (DataW H) → Nat
  | [] => 0
  | d :: r => uptoBulk d + uptoBulkAll r
def uptoBulkEntries {H : Type} : List (Lit × DataW H) → Nat
  | [] => 0
  | x :: r => uptoBulkEntry x + uptoBulkEntries r
def uptoBulkEntry {H : Type} : Lit × DataW H → Nat
  | (.string bytes, d) => bytes.length + uptoBulk d + 1
  | (_, d) => uptoBulk d + 1
 end
def uptoSmall : (H : Type) → List (DataW H) → Bool := fun _ ds => decide (uptoBulkAll ds ≤ 1048576)
def OpenSpec.upto (s : _root_.Go.ChangeSpec) : _root_.Go.OpenSpec := { _root_.Go.OpenSpec.ofChange s with cond := some uptoSmall }

/-- 'latticelaw13.ReduceSums', WHERE WHAT IT READS IS OF BULK AT MOST 1048576: true; the input reads as it did. -/
def reduceSumsUptoRow : OpenClaim := { program := "ytebfneaimafcoaagreat", sum := "ae06f5da050477a446446102d43de8b67dab79a09fe0ced8593828b73d95f787", func := "lattice/latticelaw13.ReduceSums", spec := "reduceSums", inPlace := ["math/bits.Add64", "math/bits.Sub64"], unfollowed := true, recurses := true, apart := false, narrowed := true }
def ReduceSumsUptoSaid : Prop := reduceSumsUptoRow.holds Tryz.pinned (OpenSpec.upto reduceSumsSpec)

/-- 'latticelaw13.ReduceOrder', WHERE WHAT IT READS IS OF BULK AT MOST 1048576: true; the input reads as it did. -/
def reduceOrderUptoRow : OpenClaim := { program := "ytebfneaimafcoaagreat", sum := "ae06f5da050477a446446102d43de8b67dab79a09fe0ced8593828b73d95f787", func := "lattice/latticelaw13.ReduceOrder", spec := "reduceOrder", inPlace := ["math/bits.Add64", "math/bits.Sub64"], unfollowed := true, recurses := true, apart := false, narrowed := true }
def ReduceOrderUptoSaid : Prop := reduceOrderUptoRow.holds Tryz.pinned (OpenSpec.upto reduceOrderSpec)

/-- 'latticelaw13.ReduceBest', WHERE WHAT IT READS IS OF BULK AT MOST 1048576: true; the input reads as it did. -/
def reduceBestUptoRow : OpenClaim := { program := "ytebfneaimafcoaagreat", sum := "ae06f5da050477a446446102d43de8b67dab79a09fe0ced8593828b73d95f787", func := "lattice/latticelaw13.ReduceBest", spec := "reduceBest", inPlace := ["math/bits.Add64", "math/bits.Sub64"], unfollowed := true, recurses := true, apart := false, narrowed := true }
def ReduceBestUptoSaid : Prop := reduceBestUptoRow.holds Tryz.pinned (OpenSpec.upto reduceBestSpec)

/-- 'latticelaw13.ReduceKeep', WHERE WHAT IT READS IS OF BULK AT MOST 1048576: true; the input reads as it did. -/
def reduceKeepUptoRow : OpenClaim := { program := "ytebfneaimafcoaagreat", sum := "ae06f5da050477a446446102d43de8b67dab79a09fe0ced8593828b73d95f787", func := "lattice/latticelaw13.ReduceKeep", spec := "reduceKeep", inPlace := ["math/bits.Add64", "math/bits.Sub64"], unfollowed := true, recurses := true, apart := false, narrowed := true }
def ReduceKeepUptoSaid : Prop := reduceKeepUptoRow.holds Tryz.pinned (OpenSpec.upto reduceKeepSpec)

/-- 'latticelaw13.ReducePools', WHERE WHAT IT READS IS OF BULK AT MOST 1048576: true; the input reads as it did. -/
def reducePoolsUptoRow : OpenClaim := { program := "ytebfneaimafcoaagreat", sum := "ae06f5da050477a446446102d43de8b67dab79a09fe0ced8593828b73d95f787", func := "lattice/latticelaw13.ReducePools", spec := "reducePools", inPlace := ["math/bits.Add64", "math/bits.Sub64"], unfollowed := true, recurses := true, apart := false, narrowed := true }
def ReducePoolsUptoSaid : Prop := reducePoolsUptoRow.holds Tryz.pinned (OpenSpec.upto reducePoolsSpec)

end Rows
end Go.Proofs.YtebfneaimafcoaaGreat
