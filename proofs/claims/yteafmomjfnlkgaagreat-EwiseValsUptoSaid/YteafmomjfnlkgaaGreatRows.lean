/-
  No cell of these rows narrows 'for every input' (looked for: loops, veiled, ifaces, maps, wideKeys, modest, calm, conditions, laid).
  DERIVED. THE GIVEN ROWS OF THIS SEAT. 6 by the template 'for every input the law returns true; each argument reads behind the call as it read before'; 0 by the template 'total and deterministic' (their statements: YteafmomjfnlkgaaGreatTotals.lean).
  GIVEN WITH THE SEED: the statements are not yours to turn. If you find one false, say at which input.
  Laid BY PROGRAM, IN A SANDBOX (cutbox-rows.mjs): the forced cells as the released guide's own fill.sh prints them over the translation 25feefb41853769d… (all of the seat's roots in one cut). By AI agents, Wed Nov 11 2026. No macro, syntax, notation, axiom, sorry.
-/
import Derived.Test.YteafmomjfnlkgaaGreatChecked
import GoSem.Claim
import GoSem.ClaimJoined
import GoSem.ClaimMapViews
import Derived.JoinedTies
import Derived.KernelRfl
namespace Go.Proofs.YteafmomjfnlkgaaGreat
/- THE CELL 'sum', in the pinned program and in every row, IS THE sha256 OF THE DUMP (.gsa) THAT YteafmomjfnlkgaaGreatProg.lean LOADS. Nothing in Lean hashes anything: it is a label: what it is worth is what the hold of that sum in a sandbox is worth. -/
noncomputable def Tryz.pinned : Pinned := { name := "yteafmomjfnlkgaagreat", sum := "25feefb41853769d960a3c2977b70f1309a43eecec65b27ef7c8656abc4ded1a", checked := Tryz.checked }
namespace Rows
def none {H : Type} : Left H := { results := [], args := [] }

/-- 'latticelaw11.EwiseDoes': WHATEVER THE INPUT: true; the input reads as it did. -/
def ewiseDoesSpec : ChangeSpec := { name := "ewiseDoes", fn := fun _ => fun
  | [d1, d2, d3] => { results := [.lit (.bool true)], args := [d1, d2, d3] }
  | _ => none }
def ewiseDoesRow : OpenClaim := { program := "yteafmomjfnlkgaagreat", sum := "25feefb41853769d960a3c2977b70f1309a43eecec65b27ef7c8656abc4ded1a", func := "lattice/latticelaw11.EwiseDoes", spec := "ewiseDoes", inPlace := ["math/bits.Add64", "math/bits.Sub64"], unfollowed := true, recurses := true, apart := false }
def EwiseDoesSaid : Prop := ewiseDoesRow.holds Tryz.pinned (OpenSpec.ofChange ewiseDoesSpec)

/-- ITS FALSE NEIGHBOUR: 'it returns false'. Refute it at one input. -/
def ewiseDoesWrong : ChangeSpec := { name := "ewiseDoes", fn := fun _ => fun
  | [d1, d2, d3] => { results := [.lit (.bool false)], args := [d1, d2, d3] }
  | _ => none }
def EwiseDoesWrongFalsely : Prop := ewiseDoesRow.holds Tryz.pinned (OpenSpec.ofChange ewiseDoesWrong)

/-- 'latticelaw11.EwiseParts': WHATEVER THE INPUT: true; the input reads as it did. -/
def ewisePartsSpec : ChangeSpec := { name := "ewiseParts", fn := fun _ => fun
  | [d1, d2, d3, d4, d5] => { results := [.lit (.bool true)], args := [d1, d2, d3, d4, d5] }
  | _ => none }
def ewisePartsRow : OpenClaim := { program := "yteafmomjfnlkgaagreat", sum := "25feefb41853769d960a3c2977b70f1309a43eecec65b27ef7c8656abc4ded1a", func := "lattice/latticelaw11.EwiseParts", spec := "ewiseParts", inPlace := ["math/bits.Add64", "math/bits.Sub64"], unfollowed := true, recurses := true, apart := false }
def EwisePartsSaid : Prop := ewisePartsRow.holds Tryz.pinned (OpenSpec.ofChange ewisePartsSpec)

/-- ITS FALSE NEIGHBOUR: 'it returns false'. Refute it at one input. -/
def ewisePartsWrong : ChangeSpec := { name := "ewiseParts", fn := fun _ => fun
  | [d1, d2, d3, d4, d5] => { results := [.lit (.bool false)], args := [d1, d2, d3, d4, d5] }
  | _ => none }
def EwisePartsWrongFalsely : Prop := ewisePartsRow.holds Tryz.pinned (OpenSpec.ofChange ewisePartsWrong)

/-- 'latticelaw11.EwiseSwaps': WHATEVER THE INPUT: true; the input reads as it did. -/
def ewiseSwapsSpec : ChangeSpec := { name := "ewiseSwaps", fn := fun _ => fun
  | [d1, d2, d3] => { results := [.lit (.bool true)], args := [d1, d2, d3] }
  | _ => none }
def ewiseSwapsRow : OpenClaim := { program := "yteafmomjfnlkgaagreat", sum := "25feefb41853769d960a3c2977b70f1309a43eecec65b27ef7c8656abc4ded1a", func := "lattice/latticelaw11.EwiseSwaps", spec := "ewiseSwaps", inPlace := ["math/bits.Add64", "math/bits.Sub64"], unfollowed := true, recurses := true, apart := false }
def EwiseSwapsSaid : Prop := ewiseSwapsRow.holds Tryz.pinned (OpenSpec.ofChange ewiseSwapsSpec)

/-- ITS FALSE NEIGHBOUR: 'it returns false'. Refute it at one input. -/
def ewiseSwapsWrong : ChangeSpec := { name := "ewiseSwaps", fn := fun _ => fun
  | [d1, d2, d3] => { results := [.lit (.bool false)], args := [d1, d2, d3] }
  | _ => none }
def EwiseSwapsWrongFalsely : Prop := ewiseSwapsRow.holds Tryz.pinned (OpenSpec.ofChange ewiseSwapsWrong)

/-- 'latticelaw11.EwiseSpread': WHATEVER THE INPUT: true; the input reads as it did. -/
def ewiseSpreadSpec : ChangeSpec := { name := "ewiseSpread", fn := fun _ => fun
  | [d1, d2, d3, d4] => { results := [.lit (.bool true)], args := [d1, d2, d3, d4] }
  | _ => none }
def ewiseSpreadRow : OpenClaim := { program := "yteafmomjfnlkgaagreat", sum := "25feefb41853769d960a3c2977b70f1309a43eecec65b27ef7c8656abc4ded1a", func := "lattice/latticelaw11.EwiseSpread", spec := "ewiseSpread", inPlace := ["math/bits.Add64", "math/bits.Sub64"], unfollowed := true, recurses := true, apart := false }
def EwiseSpreadSaid : Prop := ewiseSpreadRow.holds Tryz.pinned (OpenSpec.ofChange ewiseSpreadSpec)

/-- ITS FALSE NEIGHBOUR: 'it returns false'. Refute it at one input. -/
def ewiseSpreadWrong : ChangeSpec := { name := "ewiseSpread", fn := fun _ => fun
  | [d1, d2, d3, d4] => { results := [.lit (.bool false)], args := [d1, d2, d3, d4] }
  | _ => none }
def EwiseSpreadWrongFalsely : Prop := ewiseSpreadRow.holds Tryz.pinned (OpenSpec.ofChange ewiseSpreadWrong)

/-- 'latticelaw11.EwiseTyped': WHATEVER THE INPUT: true; the input reads as it did. -/
def ewiseTypedSpec : ChangeSpec := { name := "ewiseTyped", fn := fun _ => fun
  | [d1, d2, d3] => { results := [.lit (.bool true)], args := [d1, d2, d3] }
  | _ => none }
def ewiseTypedRow : OpenClaim := { program := "yteafmomjfnlkgaagreat", sum := "25feefb41853769d960a3c2977b70f1309a43eecec65b27ef7c8656abc4ded1a", func := "lattice/latticelaw11.EwiseTyped", spec := "ewiseTyped", inPlace := ["math/bits.Add64", "math/bits.Sub64"], unfollowed := true, recurses := true, apart := false }
def EwiseTypedSaid : Prop := ewiseTypedRow.holds Tryz.pinned (OpenSpec.ofChange ewiseTypedSpec)

/-- ITS FALSE NEIGHBOUR: 'it returns false'. Refute it at one input. -/
def ewiseTypedWrong : ChangeSpec := { name := "ewiseTyped", fn := fun _ => fun
  | [d1, d2, d3] => { results := [.lit (.bool false)], args := [d1, d2, d3] }
  | _ => none }
def EwiseTypedWrongFalsely : Prop := ewiseTypedRow.holds Tryz.pinned (OpenSpec.ofChange ewiseTypedWrong)

/-- 'latticelaw11.EwiseVals': WHATEVER THE INPUT: true; the input reads as it did. -/
def ewiseValsSpec : ChangeSpec := { name := "ewiseVals", fn := fun _ => fun
  | [d] => { results := [.lit (.bool true)], args := [d] }
  | _ => none }
def ewiseValsRow : OpenClaim := { program := "yteafmomjfnlkgaagreat", sum := "25feefb41853769d960a3c2977b70f1309a43eecec65b27ef7c8656abc4ded1a", func := "lattice/latticelaw11.EwiseVals", spec := "ewiseVals", inPlace := ["math/bits.Add64", "math/bits.Sub64"], unfollowed := true, recurses := true, apart := false }
def EwiseValsSaid : Prop := ewiseValsRow.holds Tryz.pinned (OpenSpec.ofChange ewiseValsSpec)

/-- ITS FALSE NEIGHBOUR: 'it returns false'. Refute it at one input. -/
def ewiseValsWrong : ChangeSpec := { name := "ewiseVals", fn := fun _ => fun
  | [d] => { results := [.lit (.bool false)], args := [d] }
  | _ => none }
def EwiseValsWrongFalsely : Prop := ewiseValsRow.holds Tryz.pinned (OpenSpec.ofChange ewiseValsWrong)

/- THE SECOND FORM. 'bulk': how many values and letters a reading holds, each counted each time it is reached (what is shared counts as often as it is met; a slice's spare places count too). A statement '..UptoSaid' is the law's where the arguments, and the package variables that the reading takes, are together of bulk at most 1048576: NARROWER than '..Said'. Prove '..Said' where nothing that the law and all that it calls make is longer than what came in: it says more and counts as full. Else prove '..UptoSaid'. A law counts once. -/
mutual
def uptoBulk {H : Type} : DataW H → Nat
  | .lit (.string bytes) => bytes.length + 1
  | .lit _ => 1
  | .nil => 1
  | .ptr d => uptoBulk d + 1
  | .slice elems spare => uptoBulkAll elems + uptoBulkAll spare + 1
  | .agg parts => uptoBulkAll parts + 1
  | .iface _ d => uptoBulk d + 1
  | .map entries => uptoBulkEntries entries + 1
  | .held _ => 1
def uptoBulkAll {H : Type} : List (DataW H) → Nat
  | [] => 0
  | d :: r => uptoBulk d + uptoBulkAll r
def uptoBulkEntries {H : Type} : List (Lit × DataW H) → Nat
  | [] => 0
  | x :: r => uptoBulkEntry x + uptoBulkEntries r
def uptoBulkEntry {H : Type} : Lit × DataW H → Nat
  | (.string bytes, d) => bytes.length + uptoBulk d + 1
  | (_, d) => uptoBulk d + 1
 end
def uptoSmall : (H : Type) → List (DataW H) → Bool := fun _ ds => decide (uptoBulkAll ds ≤ 1048576)
def OpenSpec.upto (s : _root_.Go.ChangeSpec) : _root_.Go.OpenSpec := { _root_.Go.OpenSpec.ofChange s with cond := some uptoSmall }

/-- 'latticelaw11.EwiseDoes', WHERE WHAT IT READS IS OF BULK AT MOST 1048576: true; the input reads as it did. -/
def ewiseDoesUptoRow : OpenClaim := { program := "yteafmomjfnlkgaagreat", sum := "25feefb41853769d960a3c2977b70f1309a43eecec65b27ef7c8656abc4ded1a", func := "lattice/latticelaw11.EwiseDoes", spec := "ewiseDoes", inPlace := ["math/bits.Add64", "math/bits.Sub64"], unfollowed := true, recurses := true, apart := false, narrowed := true }
def EwiseDoesUptoSaid : Prop := ewiseDoesUptoRow.holds Tryz.pinned (OpenSpec.upto ewiseDoesSpec)

/-- 'latticelaw11.EwiseParts', WHERE WHAT IT READS IS OF BULK AT MOST 1048576: true; the input reads as it did. -/
def ewisePartsUptoRow : OpenClaim := { program := "yteafmomjfnlkgaagreat", sum := "25feefb41853769d960a3c2977b70f1309a43eecec65b27ef7c8656abc4ded1a", func := "lattice/latticelaw11.EwiseParts", spec := "ewiseParts", inPlace := ["math/bits.Add64", "math/bits.Sub64"], unfollowed := true, recurses := true, apart := false, narrowed := true }
def EwisePartsUptoSaid : Prop := ewisePartsUptoRow.holds Tryz.pinned (OpenSpec.upto ewisePartsSpec)

/-- 'latticelaw11.EwiseSwaps', WHERE WHAT IT READS IS OF BULK AT MOST 1048576: true; the input reads as it did. -/
def ewiseSwapsUptoRow : OpenClaim := { program := "yteafmomjfnlkgaagreat", sum := "25feefb41853769d960a3c2977b70f1309a43eecec65b27ef7c8656abc4ded1a", func := "lattice/latticelaw11.EwiseSwaps", spec := "ewiseSwaps", inPlace := ["math/bits.Add64", "math/bits.Sub64"], unfollowed := true, recurses := true, apart := false, narrowed := true }
def EwiseSwapsUptoSaid : Prop := ewiseSwapsUptoRow.holds Tryz.pinned (OpenSpec.upto ewiseSwapsSpec)

/-- 'latticelaw11.EwiseSpread', WHERE WHAT IT READS IS OF BULK AT MOST 1048576: true; the input reads as it did. -/
def ewiseSpreadUptoRow : OpenClaim := { program := "yteafmomjfnlkgaagreat", sum := "25feefb41853769d960a3c2977b70f1309a43eecec65b27ef7c8656abc4ded1a", func := "lattice/latticelaw11.EwiseSpread", spec := "ewiseSpread", inPlace := ["math/bits.Add64", "math/bits.Sub64"], unfollowed := true, recurses := true, apart := false, narrowed := true }
def EwiseSpreadUptoSaid : Prop := ewiseSpreadUptoRow.holds Tryz.pinned (OpenSpec.upto ewiseSpreadSpec)

/-- 'latticelaw11.EwiseTyped', WHERE WHAT IT READS IS OF BULK AT MOST 1048576: true; the input reads as it did. -/
def ewiseTypedUptoRow : OpenClaim := { program := "yteafmomjfnlkgaagreat", sum := "25feefb41853769d960a3c2977b70f1309a43eecec65b27ef7c8656abc4ded1a", func := "lattice/latticelaw11.EwiseTyped", spec := "ewiseTyped", inPlace := ["math/bits.Add64", "math/bits.Sub64"], unfollowed := true, recurses := true, apart := false, narrowed := true }
def EwiseTypedUptoSaid : Prop := ewiseTypedUptoRow.holds Tryz.pinned (OpenSpec.upto ewiseTypedSpec)

/-- 'latticelaw11.EwiseVals', WHERE WHAT IT READS IS OF BULK AT MOST 1048576: true; the input reads as it did. -/
def ewiseValsUptoRow : OpenClaim := { program := "yteafmomjfnlkgaagreat", sum := "25feefb41853769d960a3c2977b70f1309a43eecec65b27ef7c8656abc4ded1a", func := "lattice/latticelaw11.EwiseVals", spec := "ewiseVals", inPlace := ["math/bits.Add64", "math/bits.Sub64"], unfollowed := true, recurses := true, apart := false, narrowed := true }
def EwiseValsUptoSaid : Prop := ewiseValsUptoRow.holds Tryz.pinned (OpenSpec.upto ewiseValsSpec)

end Rows
end Go.Proofs.YteafmomjfnlkgaaGreat
