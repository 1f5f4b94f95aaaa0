/-
  No cell of these rows narrows 'for every input' (looked for: loops, veiled, ifaces, maps, wideKeys, modest, calm, conditions, laid).
  DERIVED. THE GIVEN ROWS OF THIS SEAT. 6 by the template 'for every input the law returns true; each argument reads behind the call as it read before'; 0 by the template 'total and deterministic' (their statements: YtnpnomlnajgbcaaGreatTotals.lean).
  GIVEN WITH THE SEED: the statements are not yours to turn. If you find one false, say at which input.
  Laid BY PROGRAM, IN A SANDBOX (cutbox-rows.mjs): the forced cells as the released guide's own fill.sh prints them over the translation fbe3a75387589113… (all of the seat's roots in one cut). By AI agents, Wed Nov 11 2026. No macro, syntax, notation, axiom, sorry.
-/
import Derived.Test.YtnpnomlnajgbcaaGreatChecked
import GoSem.Claim
import GoSem.ClaimJoined
import GoSem.ClaimMapViews
import Derived.JoinedTies
import Derived.KernelRfl
namespace Go.Proofs.YtnpnomlnajgbcaaGreat
/- THE CELL 'sum', in the pinned program and in every row, IS THE sha256 OF THE DUMP (.gsa) THAT YtnpnomlnajgbcaaGreatProg.lean LOADS. Nothing in Lean hashes anything: it is a label: what it is worth is what the hold of that sum in a sandbox is worth. -/
noncomputable def Tryz.pinned : Pinned := { name := "ytnpnomlnajgbcaagreat", sum := "fbe3a7538758911324df066e0f23cda4ce64ac859306829c5eb9d610ce7757ac", checked := Tryz.checked }
namespace Rows
def none {H : Type} : Left H := { results := [], args := [] }

/-- 'latticelaw12.MovesTurn': WHATEVER THE INPUT: true; the input reads as it did. -/
def movesTurnSpec : ChangeSpec := { name := "movesTurn", fn := fun _ => fun
  | [d1, d2] => { results := [.lit (.bool true)], args := [d1, d2] }
  | _ => none }
def movesTurnRow : OpenClaim := { program := "ytnpnomlnajgbcaagreat", sum := "fbe3a7538758911324df066e0f23cda4ce64ac859306829c5eb9d610ce7757ac", func := "lattice/latticelaw12.MovesTurn", spec := "movesTurn", unfollowed := true, recurses := true, apart := false }
def MovesTurnSaid : Prop := movesTurnRow.holds Tryz.pinned (OpenSpec.ofChange movesTurnSpec)

/-- ITS FALSE NEIGHBOUR: 'it returns false'. Refute it at one input. -/
def movesTurnWrong : ChangeSpec := { name := "movesTurn", fn := fun _ => fun
  | [d1, d2] => { results := [.lit (.bool false)], args := [d1, d2] }
  | _ => none }
def MovesTurnWrongFalsely : Prop := movesTurnRow.holds Tryz.pinned (OpenSpec.ofChange movesTurnWrong)

/-- 'latticelaw12.MovesParts': WHATEVER THE INPUT: true; the input reads as it did. -/
def movesPartsSpec : ChangeSpec := { name := "movesParts", fn := fun _ => fun
  | [d1, d2, d3] => { results := [.lit (.bool true)], args := [d1, d2, d3] }
  | _ => none }
def movesPartsRow : OpenClaim := { program := "ytnpnomlnajgbcaagreat", sum := "fbe3a7538758911324df066e0f23cda4ce64ac859306829c5eb9d610ce7757ac", func := "lattice/latticelaw12.MovesParts", spec := "movesParts", unfollowed := true, recurses := true, apart := false }
def MovesPartsSaid : Prop := movesPartsRow.holds Tryz.pinned (OpenSpec.ofChange movesPartsSpec)

/-- ITS FALSE NEIGHBOUR: 'it returns false'. Refute it at one input. -/
def movesPartsWrong : ChangeSpec := { name := "movesParts", fn := fun _ => fun
  | [d1, d2, d3] => { results := [.lit (.bool false)], args := [d1, d2, d3] }
  | _ => none }
def MovesPartsWrongFalsely : Prop := movesPartsRow.holds Tryz.pinned (OpenSpec.ofChange movesPartsWrong)

/-- 'latticelaw12.MovesDepth': WHATEVER THE INPUT: true; the input reads as it did. -/
def movesDepthSpec : ChangeSpec := { name := "movesDepth", fn := fun _ => fun
  | [d1, d2] => { results := [.lit (.bool true)], args := [d1, d2] }
  | _ => none }
def movesDepthRow : OpenClaim := { program := "ytnpnomlnajgbcaagreat", sum := "fbe3a7538758911324df066e0f23cda4ce64ac859306829c5eb9d610ce7757ac", func := "lattice/latticelaw12.MovesDepth", spec := "movesDepth", unfollowed := true, recurses := true, apart := false }
def MovesDepthSaid : Prop := movesDepthRow.holds Tryz.pinned (OpenSpec.ofChange movesDepthSpec)

/-- ITS FALSE NEIGHBOUR: 'it returns false'. Refute it at one input. -/
def movesDepthWrong : ChangeSpec := { name := "movesDepth", fn := fun _ => fun
  | [d1, d2] => { results := [.lit (.bool false)], args := [d1, d2] }
  | _ => none }
def MovesDepthWrongFalsely : Prop := movesDepthRow.holds Tryz.pinned (OpenSpec.ofChange movesDepthWrong)

/-- 'latticelaw12.MovesPadded': WHATEVER THE INPUT: true; the input reads as it did. -/
def movesPaddedSpec : ChangeSpec := { name := "movesPadded", fn := fun _ => fun
  | [d1, d2, d3] => { results := [.lit (.bool true)], args := [d1, d2, d3] }
  | _ => none }
def movesPaddedRow : OpenClaim := { program := "ytnpnomlnajgbcaagreat", sum := "fbe3a7538758911324df066e0f23cda4ce64ac859306829c5eb9d610ce7757ac", func := "lattice/latticelaw12.MovesPadded", spec := "movesPadded", unfollowed := true, recurses := true, apart := false }
def MovesPaddedSaid : Prop := movesPaddedRow.holds Tryz.pinned (OpenSpec.ofChange movesPaddedSpec)

/-- ITS FALSE NEIGHBOUR: 'it returns false'. Refute it at one input. -/
def movesPaddedWrong : ChangeSpec := { name := "movesPadded", fn := fun _ => fun
  | [d1, d2, d3] => { results := [.lit (.bool false)], args := [d1, d2, d3] }
  | _ => none }
def MovesPaddedWrongFalsely : Prop := movesPaddedRow.holds Tryz.pinned (OpenSpec.ofChange movesPaddedWrong)

/-- 'latticelaw12.MovesAll': WHATEVER THE INPUT: true; the input reads as it did. -/
def movesAllSpec : ChangeSpec := { name := "movesAll", fn := fun _ => fun
  | [d1, d2] => { results := [.lit (.bool true)], args := [d1, d2] }
  | _ => none }
def movesAllRow : OpenClaim := { program := "ytnpnomlnajgbcaagreat", sum := "fbe3a7538758911324df066e0f23cda4ce64ac859306829c5eb9d610ce7757ac", func := "lattice/latticelaw12.MovesAll", spec := "movesAll", unfollowed := true, recurses := true, apart := false }
def MovesAllSaid : Prop := movesAllRow.holds Tryz.pinned (OpenSpec.ofChange movesAllSpec)

/-- ITS FALSE NEIGHBOUR: 'it returns false'. Refute it at one input. -/
def movesAllWrong : ChangeSpec := { name := "movesAll", fn := fun _ => fun
  | [d1, d2] => { results := [.lit (.bool false)], args := [d1, d2] }
  | _ => none }
def MovesAllWrongFalsely : Prop := movesAllRow.holds Tryz.pinned (OpenSpec.ofChange movesAllWrong)

/-- 'latticelaw12.MovesScatter': WHATEVER THE INPUT: true; the input reads as it did. -/
def movesScatterSpec : ChangeSpec := { name := "movesScatter", fn := fun _ => fun
  | [d1, d2, d3] => { results := [.lit (.bool true)], args := [d1, d2, d3] }
  | _ => none }
def movesScatterRow : OpenClaim := { program := "ytnpnomlnajgbcaagreat", sum := "fbe3a7538758911324df066e0f23cda4ce64ac859306829c5eb9d610ce7757ac", func := "lattice/latticelaw12.MovesScatter", spec := "movesScatter", unfollowed := true, recurses := true, apart := false }
def MovesScatterSaid : Prop := movesScatterRow.holds Tryz.pinned (OpenSpec.ofChange movesScatterSpec)

/-- ITS FALSE NEIGHBOUR: 'it returns false'. Refute it at one input. -/
def movesScatterWrong : ChangeSpec := { name := "movesScatter", fn := fun _ => fun
  | [d1, d2, d3] => { results := [.lit (.bool false)], args := [d1, d2, d3] }
  | _ => none }
def MovesScatterWrongFalsely : Prop := movesScatterRow.holds Tryz.pinned (OpenSpec.ofChange movesScatterWrong)

/- THE SECOND FORM. 'bulk': how many values and letters a reading holds, each counted each time it is reached (what is shared counts as often as it is met; a slice's spare places count too). A statement '..UptoSaid' is the law's where the arguments, and the package variables that the reading takes, are together of bulk at most 1048576: NARROWER than '..Said'. Prove '..Said' where nothing that the law and all that it calls make is longer than what came in: it says more and counts as full. Else prove '..UptoSaid'. A law counts once. -/
mutual
def uptoBulk {H : Type} : DataW H → Nat
  | .lit (.string bytes) => bytes.length + 1
  | .lit _ => 1
  | .nil => 1
  | .ptr d => uptoBulk d + 1
  | .slice elems spare => uptoBulkAll elems + uptoBulkAll spare + 1
  | .agg parts => uptoBulkAll parts + 1
  | .iface _ d => uptoBulk d + 1
  | .map entries => uptoBulkEntries entries + 1
  | .held _ => 1
def uptoBulkAll {H : Type} : List (DataW H) → Nat
  | [] => 0
  | d :: r => uptoBulk d + uptoBulkAll r
def uptoBulkEntries {H : Type} : List (Lit × DataW H) → Nat
  | [] => 0
  | x :: r => uptoBulkEntry x + uptoBulkEntries r
def uptoBulkEntry {H : Type} : Lit × DataW H → Nat
  | (.string bytes, d) => bytes.length + uptoBulk d + 1
  | (_, d) => uptoBulk d + 1
 end
def uptoSmall : (H : Type) → List (DataW H) → Bool := fun _ ds => decide (uptoBulkAll ds ≤ 1048576)
def OpenSpec.upto (s : _root_.Go.ChangeSpec) : _root_.Go.OpenSpec := { _root_.Go.OpenSpec.ofChange s with cond := some uptoSmall }

/-- 'latticelaw12.MovesTurn', WHERE WHAT IT READS IS OF BULK AT MOST 1048576: true; the input reads as it did. -/
def movesTurnUptoRow : OpenClaim := { program := "ytnpnomlnajgbcaagreat", sum := "fbe3a7538758911324df066e0f23cda4ce64ac859306829c5eb9d610ce7757ac", func := "lattice/latticelaw12.MovesTurn", spec := "movesTurn", unfollowed := true, recurses := true, apart := false, narrowed := true }
def MovesTurnUptoSaid : Prop := movesTurnUptoRow.holds Tryz.pinned (OpenSpec.upto movesTurnSpec)

/-- 'latticelaw12.MovesParts', WHERE WHAT IT READS IS OF BULK AT MOST 1048576: true; the input reads as it did. -/
def movesPartsUptoRow : OpenClaim := { program := "ytnpnomlnajgbcaagreat", sum := "fbe3a7538758911324df066e0f23cda4ce64ac859306829c5eb9d610ce7757ac", func := "lattice/latticelaw12.MovesParts", spec := "movesParts", unfollowed := true, recurses := true, apart := false, narrowed := true }
def MovesPartsUptoSaid : Prop := movesPartsUptoRow.holds Tryz.pinned (OpenSpec.upto movesPartsSpec)

/-- 'latticelaw12.MovesDepth', WHERE WHAT IT READS IS OF BULK AT MOST 1048576: true; the input reads as it did. -/
def movesDepthUptoRow : OpenClaim := { program := "ytnpnomlnajgbcaagreat", sum := "fbe3a7538758911324df066e0f23cda4ce64ac859306829c5eb9d610ce7757ac", func := "lattice/latticelaw12.MovesDepth", spec := "movesDepth", unfollowed := true, recurses := true, apart := false, narrowed := true }
def MovesDepthUptoSaid : Prop := movesDepthUptoRow.holds Tryz.pinned (OpenSpec.upto movesDepthSpec)

/-- 'latticelaw12.MovesPadded', WHERE WHAT IT READS IS OF BULK AT MOST 1048576: true; the input reads as it did. -/
def movesPaddedUptoRow : OpenClaim := { program := "ytnpnomlnajgbcaagreat", sum := "fbe3a7538758911324df066e0f23cda4ce64ac859306829c5eb9d610ce7757ac", func := "lattice/latticelaw12.MovesPadded", spec := "movesPadded", unfollowed := true, recurses := true, apart := false, narrowed := true }
def MovesPaddedUptoSaid : Prop := movesPaddedUptoRow.holds Tryz.pinned (OpenSpec.upto movesPaddedSpec)

/-- 'latticelaw12.MovesAll', WHERE WHAT IT READS IS OF BULK AT MOST 1048576: true; the input reads as it did. -/
def movesAllUptoRow : OpenClaim := { program := "ytnpnomlnajgbcaagreat", sum := "fbe3a7538758911324df066e0f23cda4ce64ac859306829c5eb9d610ce7757ac", func := "lattice/latticelaw12.MovesAll", spec := "movesAll", unfollowed := true, recurses := true, apart := false, narrowed := true }
def MovesAllUptoSaid : Prop := movesAllUptoRow.holds Tryz.pinned (OpenSpec.upto movesAllSpec)

/-- 'latticelaw12.MovesScatter', WHERE WHAT IT READS IS OF BULK AT MOST 1048576: true; the input reads as it did. -/
def movesScatterUptoRow : OpenClaim := { program := "ytnpnomlnajgbcaagreat", sum := "fbe3a7538758911324df066e0f23cda4ce64ac859306829c5eb9d610ce7757ac", func := "lattice/latticelaw12.MovesScatter", spec := "movesScatter", unfollowed := true, recurses := true, apart := false, narrowed := true }
def MovesScatterUptoSaid : Prop := movesScatterUptoRow.holds Tryz.pinned (OpenSpec.upto movesScatterSpec)

end Rows
end Go.Proofs.YtnpnomlnajgbcaaGreat
