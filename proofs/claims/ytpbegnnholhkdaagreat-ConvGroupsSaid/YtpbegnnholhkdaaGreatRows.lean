/-
  No cell of these rows narrows 'for every input' (looked for: loops, veiled, ifaces, maps, wideKeys, modest, calm, conditions, laid).
  DERIVED. THE GIVEN ROWS OF THIS SEAT. 4 by the template 'for every input the law returns true; each argument reads behind the call as it read before'; 0 by the template 'total and deterministic' (their statements: YtpbegnnholhkdaaGreatTotals.lean).
  GIVEN WITH THE SEED: the statements are not yours to turn. If you find one false, say at which input.
  Laid BY PROGRAM, IN A SANDBOX (cutbox-rows.mjs): the forced cells as the released guide's own fill.sh prints them over the translation 231275f788ba5dd2… (all of the seat's roots in one cut). By AI agents, Wed Nov 11 2026. No macro, syntax, notation, axiom, sorry.
-/
import Derived.Test.YtpbegnnholhkdaaGreatChecked
import GoSem.Claim
import GoSem.ClaimJoined
import GoSem.ClaimMapViews
import Derived.JoinedTies
import Derived.KernelRfl
namespace Go.Proofs.YtpbegnnholhkdaaGreat
/- THE CELL 'sum', in the pinned program and in every row, IS THE sha256 OF THE DUMP (.gsa) THAT YtpbegnnholhkdaaGreatProg.lean LOADS. Nothing in Lean hashes anything: it is a label: what it is worth is what the hold of that sum in a sandbox is worth. -/
noncomputable def Tryz.pinned : Pinned := { name := "ytpbegnnholhkdaagreat", sum := "231275f788ba5dd27b583bb7b3aef393878ae5554b3497a2db76d86683ae182b", checked := Tryz.checked }
namespace Rows
def none {H : Type} : Left H := { results := [], args := [] }

/-- 'latticelaw15.ConvGroups': WHATEVER THE INPUT: true; the input reads as it did. -/
def convGroupsSpec : ChangeSpec := { name := "convGroups", fn := fun _ => fun
  | [d1, d2, d3, d4] => { results := [.lit (.bool true)], args := [d1, d2, d3, d4] }
  | _ => none }
def convGroupsRow : OpenClaim := { program := "ytpbegnnholhkdaagreat", sum := "231275f788ba5dd27b583bb7b3aef393878ae5554b3497a2db76d86683ae182b", func := "lattice/latticelaw15.ConvGroups", spec := "convGroups", unfollowed := true, recurses := true, apart := false }
def ConvGroupsSaid : Prop := convGroupsRow.holds Tryz.pinned (OpenSpec.ofChange convGroupsSpec)

/-- ITS FALSE NEIGHBOUR: 'it returns false'. Refute it at one input. -/
def convGroupsWrong : ChangeSpec := { name := "convGroups", fn := fun _ => fun
  | [d1, d2, d3, d4] => { results := [.lit (.bool false)], args := [d1, d2, d3, d4] }
  | _ => none }
def ConvGroupsWrongFalsely : Prop := convGroupsRow.holds Tryz.pinned (OpenSpec.ofChange convGroupsWrong)

/-- 'latticelaw15.ConvOne': WHATEVER THE INPUT: true; the input reads as it did. -/
def convOneSpec : ChangeSpec := { name := "convOne", fn := fun _ => fun
  | [d] => { results := [.lit (.bool true)], args := [d] }
  | _ => none }
def convOneRow : OpenClaim := { program := "ytpbegnnholhkdaagreat", sum := "231275f788ba5dd27b583bb7b3aef393878ae5554b3497a2db76d86683ae182b", func := "lattice/latticelaw15.ConvOne", spec := "convOne", unfollowed := true, recurses := true, apart := false }
def ConvOneSaid : Prop := convOneRow.holds Tryz.pinned (OpenSpec.ofChange convOneSpec)

/-- ITS FALSE NEIGHBOUR: 'it returns false'. Refute it at one input. -/
def convOneWrong : ChangeSpec := { name := "convOne", fn := fun _ => fun
  | [d] => { results := [.lit (.bool false)], args := [d] }
  | _ => none }
def ConvOneWrongFalsely : Prop := convOneRow.holds Tryz.pinned (OpenSpec.ofChange convOneWrong)

/-- 'latticelaw15.ConvDots': WHATEVER THE INPUT: true; the input reads as it did. -/
def convDotsSpec : ChangeSpec := { name := "convDots", fn := fun _ => fun
  | [d1, d2] => { results := [.lit (.bool true)], args := [d1, d2] }
  | _ => none }
def convDotsRow : OpenClaim := { program := "ytpbegnnholhkdaagreat", sum := "231275f788ba5dd27b583bb7b3aef393878ae5554b3497a2db76d86683ae182b", func := "lattice/latticelaw15.ConvDots", spec := "convDots", unfollowed := true, recurses := true, apart := false }
def ConvDotsSaid : Prop := convDotsRow.holds Tryz.pinned (OpenSpec.ofChange convDotsSpec)

/-- ITS FALSE NEIGHBOUR: 'it returns false'. Refute it at one input. -/
def convDotsWrong : ChangeSpec := { name := "convDots", fn := fun _ => fun
  | [d1, d2] => { results := [.lit (.bool false)], args := [d1, d2] }
  | _ => none }
def ConvDotsWrongFalsely : Prop := convDotsRow.holds Tryz.pinned (OpenSpec.ofChange convDotsWrong)

/-- 'latticelaw15.ConvColumns': WHATEVER THE INPUT: true; the input reads as it did. -/
def convColumnsSpec : ChangeSpec := { name := "convColumns", fn := fun _ => fun
  | [d1, d2] => { results := [.lit (.bool true)], args := [d1, d2] }
  | _ => none }
def convColumnsRow : OpenClaim := { program := "ytpbegnnholhkdaagreat", sum := "231275f788ba5dd27b583bb7b3aef393878ae5554b3497a2db76d86683ae182b", func := "lattice/latticelaw15.ConvColumns", spec := "convColumns", unfollowed := true, recurses := true, apart := false }
def ConvColumnsSaid : Prop := convColumnsRow.holds Tryz.pinned (OpenSpec.ofChange convColumnsSpec)

/-- ITS FALSE NEIGHBOUR: 'it returns false'. Refute it at one input. -/
def convColumnsWrong : ChangeSpec := { name := "convColumns", fn := fun _ => fun
  | [d1, d2] => { results := [.lit (.bool false)], args := [d1, d2] }
  | _ => none }
def ConvColumnsWrongFalsely : Prop := convColumnsRow.holds Tryz.pinned (OpenSpec.ofChange convColumnsWrong)

/- THE SECOND FORM. 'bulk': how many values and letters a reading holds, each counted each time it is reached (what is shared counts as often as it is met; a slice's spare places count too). A statement '..UptoSaid' is the law's where the arguments, and the package variables that the reading takes, are together of bulk at most 1048576: NARROWER than '..Said'. Prove '..Said' where nothing that the law and all that it calls make is longer than what came in: it says more and counts as full. Else prove '..UptoSaid'. A law counts once. -/
mutual
def uptoBulk {H : Type} : DataW H → Nat
  | .lit (.string bytes) => bytes.length + 1
  | .lit _ => 1
  | .nil => 1
  | .ptr d => uptoBulk d + 1
  | .slice elems spare => uptoBulkAll elems + uptoBulkAll spare + 1
  | .agg parts => uptoBulkAll parts + 1
  | .iface _ d => uptoBulk d + 1
  | .map entries => uptoBulkEntries entries + 1
  | .held _ => 1
def uptoBulkAll {H : Type} : List (DataW H) → Nat
  | [] => 0
  | d :: r => uptoBulk d + uptoBulkAll r
def uptoBulkEntries {H : Type} : List (Lit × DataW H) → Nat
  | [] => 0
  | x :: r => uptoBulkEntry x + uptoBulkEntries r
def uptoBulkEntry {H : Type} : Lit × DataW H → Nat
  | (.string bytes, d) => bytes.length + uptoBulk d + 1
  | (_, d) => uptoBulk d + 1
 end
def uptoSmall : (H : Type) → List (DataW H) → Bool := fun _ ds => decide (uptoBulkAll ds ≤ 1048576)
def OpenSpec.upto (s : _root_.Go.ChangeSpec) : _root_.Go.OpenSpec := { _root_.Go.OpenSpec.ofChange s with cond := some uptoSmall }

/-- 'latticelaw15.ConvGroups', WHERE WHAT IT READS IS OF BULK AT MOST 1048576: true; the input reads as it did. -/
def convGroupsUptoRow : OpenClaim := { program := "ytpbegnnholhkdaagreat", sum := "231275f788ba5dd27b583bb7b3aef393878ae5554b3497a2db76d86683ae182b", func := "lattice/latticelaw15.ConvGroups", spec := "convGroups", unfollowed := true, recurses := true, apart := false, narrowed := true }
def ConvGroupsUptoSaid : Prop := convGroupsUptoRow.holds Tryz.pinned (OpenSpec.upto convGroupsSpec)

/-- 'latticelaw15.ConvOne', WHERE WHAT IT READS IS OF BULK AT MOST 1048576: true; the input reads as it did. -/
def convOneUptoRow : OpenClaim := { program := "ytpbegnnholhkdaagreat", sum := "231275f788ba5dd27b583bb7b3aef393878ae5554b3497a2db76d86683ae182b", func := "lattice/latticelaw15.ConvOne", spec := "convOne", unfollowed := true, recurses := true, apart := false, narrowed := true }
def ConvOneUptoSaid : Prop := convOneUptoRow.holds Tryz.pinned (OpenSpec.upto convOneSpec)

/-- 'latticelaw15.ConvDots', WHERE WHAT IT READS IS OF BULK AT MOST 1048576: true; the input reads as it did. -/
def convDotsUptoRow : OpenClaim := { program := "ytpbegnnholhkdaagreat", sum := "231275f788ba5dd27b583bb7b3aef393878ae5554b3497a2db76d86683ae182b", func := "lattice/latticelaw15.ConvDots", spec := "convDots", unfollowed := true, recurses := true, apart := false, narrowed := true }
def ConvDotsUptoSaid : Prop := convDotsUptoRow.holds Tryz.pinned (OpenSpec.upto convDotsSpec)

/-- 'latticelaw15.ConvColumns', WHERE WHAT IT READS IS OF BULK AT MOST 1048576: true; the input reads as it did. -/
def convColumnsUptoRow : OpenClaim := { program := "ytpbegnnholhkdaagreat", sum := "231275f788ba5dd27b583bb7b3aef393878ae5554b3497a2db76d86683ae182b", func := "lattice/latticelaw15.ConvColumns", spec := "convColumns", unfollowed := true, recurses := true, apart := false, narrowed := true }
def ConvColumnsUptoSaid : Prop := convColumnsUptoRow.holds Tryz.pinned (OpenSpec.upto convColumnsSpec)

end Rows
end Go.Proofs.YtpbegnnholhkdaaGreat
