/-
  No cell of these rows narrows 'for every input' (looked for: loops, veiled, ifaces, maps, wideKeys, modest, calm, conditions, laid).
  DERIVED. THE GIVEN ROWS OF THIS SEAT. 5 by the template 'for every input the law returns true; each argument reads behind the call as it read before'; 0 by the template 'total and deterministic' (their statements: YtoobokgbmjbofaaGreatTotals.lean).
  GIVEN WITH THE SEED: the statements are not yours to turn. If you find one false, say at which input.
  Laid BY PROGRAM, IN A SANDBOX (cutbox-rows.mjs): the forced cells as the released guide's own fill.sh prints them over the translation 2661a62b76309c60… (all of the seat's roots in one cut). By AI agents, Wed Nov 11 2026. No macro, syntax, notation, axiom, sorry.
-/
import Derived.Test.YtoobokgbmjbofaaGreatChecked
import GoSem.Claim
import GoSem.ClaimJoined
import GoSem.ClaimMapViews
import Derived.JoinedTies
import Derived.KernelRfl
namespace Go.Proofs.YtoobokgbmjbofaaGreat
/- THE CELL 'sum', in the pinned program and in every row, IS THE sha256 OF THE DUMP (.gsa) THAT YtoobokgbmjbofaaGreatProg.lean LOADS. Nothing in Lean hashes anything: it is a label: what it is worth is what the hold of that sum in a sandbox is worth. -/
noncomputable def Tryz.pinned : Pinned := { name := "ytoobokgbmjbofaagreat", sum := "2661a62b76309c609a657e399316040636446da2de81e3bf80d102127aa5e076", checked := Tryz.checked }
namespace Rows
def none {H : Type} : Left H := { results := [], args := [] }

/-- 'latticelaw14.MatDots': WHATEVER THE INPUT: true; the input reads as it did. -/
def matDotsSpec : ChangeSpec := { name := "matDots", fn := fun _ => fun
  | [d1, d2] => { results := [.lit (.bool true)], args := [d1, d2] }
  | _ => none }
def matDotsRow : OpenClaim := { program := "ytoobokgbmjbofaagreat", sum := "2661a62b76309c609a657e399316040636446da2de81e3bf80d102127aa5e076", func := "lattice/latticelaw14.MatDots", spec := "matDots", unfollowed := true, recurses := true, apart := false }
def MatDotsSaid : Prop := matDotsRow.holds Tryz.pinned (OpenSpec.ofChange matDotsSpec)

/-- ITS FALSE NEIGHBOUR: 'it returns false'. Refute it at one input. -/
def matDotsWrong : ChangeSpec := { name := "matDots", fn := fun _ => fun
  | [d1, d2] => { results := [.lit (.bool false)], args := [d1, d2] }
  | _ => none }
def MatDotsWrongFalsely : Prop := matDotsRow.holds Tryz.pinned (OpenSpec.ofChange matDotsWrong)

/-- 'latticelaw14.MatTurned': WHATEVER THE INPUT: true; the input reads as it did. -/
def matTurnedSpec : ChangeSpec := { name := "matTurned", fn := fun _ => fun
  | [d1, d2] => { results := [.lit (.bool true)], args := [d1, d2] }
  | _ => none }
def matTurnedRow : OpenClaim := { program := "ytoobokgbmjbofaagreat", sum := "2661a62b76309c609a657e399316040636446da2de81e3bf80d102127aa5e076", func := "lattice/latticelaw14.MatTurned", spec := "matTurned", unfollowed := true, recurses := true, apart := false }
def MatTurnedSaid : Prop := matTurnedRow.holds Tryz.pinned (OpenSpec.ofChange matTurnedSpec)

/-- ITS FALSE NEIGHBOUR: 'it returns false'. Refute it at one input. -/
def matTurnedWrong : ChangeSpec := { name := "matTurned", fn := fun _ => fun
  | [d1, d2] => { results := [.lit (.bool false)], args := [d1, d2] }
  | _ => none }
def MatTurnedWrongFalsely : Prop := matTurnedRow.holds Tryz.pinned (OpenSpec.ofChange matTurnedWrong)

/-- 'latticelaw14.MatPicks': WHATEVER THE INPUT: true; the input reads as it did. -/
def matPicksSpec : ChangeSpec := { name := "matPicks", fn := fun _ => fun
  | [d1, d2] => { results := [.lit (.bool true)], args := [d1, d2] }
  | _ => none }
def matPicksRow : OpenClaim := { program := "ytoobokgbmjbofaagreat", sum := "2661a62b76309c609a657e399316040636446da2de81e3bf80d102127aa5e076", func := "lattice/latticelaw14.MatPicks", spec := "matPicks", unfollowed := true, recurses := true, apart := false }
def MatPicksSaid : Prop := matPicksRow.holds Tryz.pinned (OpenSpec.ofChange matPicksSpec)

/-- ITS FALSE NEIGHBOUR: 'it returns false'. Refute it at one input. -/
def matPicksWrong : ChangeSpec := { name := "matPicks", fn := fun _ => fun
  | [d1, d2] => { results := [.lit (.bool false)], args := [d1, d2] }
  | _ => none }
def MatPicksWrongFalsely : Prop := matPicksRow.holds Tryz.pinned (OpenSpec.ofChange matPicksWrong)

/-- 'latticelaw14.MatEach': WHATEVER THE INPUT: true; the input reads as it did. -/
def matEachSpec : ChangeSpec := { name := "matEach", fn := fun _ => fun
  | [d1, d2] => { results := [.lit (.bool true)], args := [d1, d2] }
  | _ => none }
def matEachRow : OpenClaim := { program := "ytoobokgbmjbofaagreat", sum := "2661a62b76309c609a657e399316040636446da2de81e3bf80d102127aa5e076", func := "lattice/latticelaw14.MatEach", spec := "matEach", unfollowed := true, recurses := true, apart := false }
def MatEachSaid : Prop := matEachRow.holds Tryz.pinned (OpenSpec.ofChange matEachSpec)

/-- ITS FALSE NEIGHBOUR: 'it returns false'. Refute it at one input. -/
def matEachWrong : ChangeSpec := { name := "matEach", fn := fun _ => fun
  | [d1, d2] => { results := [.lit (.bool false)], args := [d1, d2] }
  | _ => none }
def MatEachWrongFalsely : Prop := matEachRow.holds Tryz.pinned (OpenSpec.ofChange matEachWrong)

/-- 'latticelaw14.MatRows': WHATEVER THE INPUT: true; the input reads as it did. -/
def matRowsSpec : ChangeSpec := { name := "matRows", fn := fun _ => fun
  | [d1, d2, d3] => { results := [.lit (.bool true)], args := [d1, d2, d3] }
  | _ => none }
def matRowsRow : OpenClaim := { program := "ytoobokgbmjbofaagreat", sum := "2661a62b76309c609a657e399316040636446da2de81e3bf80d102127aa5e076", func := "lattice/latticelaw14.MatRows", spec := "matRows", unfollowed := true, recurses := true, apart := false }
def MatRowsSaid : Prop := matRowsRow.holds Tryz.pinned (OpenSpec.ofChange matRowsSpec)

/-- ITS FALSE NEIGHBOUR: 'it returns false'. Refute it at one input. -/
def matRowsWrong : ChangeSpec := { name := "matRows", fn := fun _ => fun
  | [d1, d2, d3] => { results := [.lit (.bool false)], args := [d1, d2, d3] }
  | _ => none }
def MatRowsWrongFalsely : Prop := matRowsRow.holds Tryz.pinned (OpenSpec.ofChange matRowsWrong)

/- THE SECOND FORM. 'bulk': how many values and letters a reading holds, each counted each time it is reached (what is shared counts as often as it is met; a slice's spare places count too). A statement '..UptoSaid' is the law's where the arguments, and the package variables that the reading takes, are together of bulk at most 1048576: NARROWER than '..Said'. Prove '..Said' where nothing that the law and all that it calls make is longer than what came in: it says more and counts as full. Else prove '..UptoSaid'. A law counts once. -/
mutual
def uptoBulk {H : Type} : DataW H → Nat
  | .lit (.string bytes) => bytes.length + 1
  | .lit _ => 1
  | .nil => 1
  | .ptr d => uptoBulk d + 1
  | .slice elems spare => uptoBulkAll elems + uptoBulkAll spare + 1
  | .agg parts => uptoBulkAll parts + 1
  | .iface _ d => uptoBulk d + 1
  | .map entries => uptoBulkEntries entries + 1
  | .held _ => 1
def uptoBulkAll {H : Type} : List (DataW H) → Nat
  | [] => 0
  | d :: r => uptoBulk d + uptoBulkAll r
def uptoBulkEntries {H : Type} : List (Lit × DataW H) → Nat
  | [] => 0
  | x :: r => uptoBulkEntry x + uptoBulkEntries r
def uptoBulkEntry {H : Type} : Lit × DataW H → Nat
  | (.string bytes, d) => bytes.length + uptoBulk d + 1
  | (_, d) => uptoBulk d + 1
 end
def uptoSmall : (H : Type) → List (DataW H) → Bool := fun _ ds => decide (uptoBulkAll ds ≤ 1048576)
def OpenSpec.upto (s : _root_.Go.ChangeSpec) : _root_.Go.OpenSpec := { _root_.Go.OpenSpec.ofChange s with cond := some uptoSmall }

/-- 'latticelaw14.MatDots', WHERE WHAT IT READS IS OF BULK AT MOST 1048576: true; the input reads as it did. -/
def matDotsUptoRow : OpenClaim := { program := "ytoobokgbmjbofaagreat", sum := "2661a62b76309c609a657e399316040636446da2de81e3bf80d102127aa5e076", func := "lattice/latticelaw14.MatDots", spec := "matDots", unfollowed := true, recurses := true, apart := false, narrowed := true }
def MatDotsUptoSaid : Prop := matDotsUptoRow.holds Tryz.pinned (OpenSpec.upto matDotsSpec)

/-- 'latticelaw14.MatTurned', WHERE WHAT IT READS IS OF BULK AT MOST 1048576: true; the input reads as it did. -/
def matTurnedUptoRow : OpenClaim := { program := "ytoobokgbmjbofaagreat", sum := "2661a62b76309c609a657e399316040636446da2de81e3bf80d102127aa5e076", func := "lattice/latticelaw14.MatTurned", spec := "matTurned", unfollowed := true, recurses := true, apart := false, narrowed := true }
def MatTurnedUptoSaid : Prop := matTurnedUptoRow.holds Tryz.pinned (OpenSpec.upto matTurnedSpec)

/-- 'latticelaw14.MatPicks', WHERE WHAT IT READS IS OF BULK AT MOST 1048576: true; the input reads as it did. -/
def matPicksUptoRow : OpenClaim := { program := "ytoobokgbmjbofaagreat", sum := "2661a62b76309c609a657e399316040636446da2de81e3bf80d102127aa5e076", func := "lattice/latticelaw14.MatPicks", spec := "matPicks", unfollowed := true, recurses := true, apart := false, narrowed := true }
def MatPicksUptoSaid : Prop := matPicksUptoRow.holds Tryz.pinned (OpenSpec.upto matPicksSpec)

/-- 'latticelaw14.MatEach', WHERE WHAT IT READS IS OF BULK AT MOST 1048576: true; the input reads as it did. -/
def matEachUptoRow : OpenClaim := { program := "ytoobokgbmjbofaagreat", sum := "2661a62b76309c609a657e399316040636446da2de81e3bf80d102127aa5e076", func := "lattice/latticelaw14.MatEach", spec := "matEach", unfollowed := true, recurses := true, apart := false, narrowed := true }
def MatEachUptoSaid : Prop := matEachUptoRow.holds Tryz.pinned (OpenSpec.upto matEachSpec)

/-- 'latticelaw14.MatRows', WHERE WHAT IT READS IS OF BULK AT MOST 1048576: true; the input reads as it did. -/
def matRowsUptoRow : OpenClaim := { program := "ytoobokgbmjbofaagreat", sum := "2661a62b76309c609a657e399316040636446da2de81e3bf80d102127aa5e076", func := "lattice/latticelaw14.MatRows", spec := "matRows", unfollowed := true, recurses := true, apart := false, narrowed := true }
def MatRowsUptoSaid : Prop := matRowsUptoRow.holds Tryz.pinned (OpenSpec.upto matRowsSpec)

end Rows
end Go.Proofs.YtoobokgbmjbofaaGreat
