/-
  No cell of these rows narrows 'for every input' (looked for: loops, veiled, ifaces, maps, wideKeys, modest, calm, conditions, laid).
  DERIVED. THE GIVEN ROWS OF THIS SEAT. 10 by the template 'for every input the law returns true; each argument reads behind the call as it read before'; 0 by the template 'total and deterministic' (their statements: YtoeineoiofjfdaaTotals.lean).
  GIVEN WITH THE SEED: the statements are not yours to turn. If you find one false, say at which input.
  Laid BY PROGRAM, IN A SANDBOX (cutbox-rows.mjs): the forced cells as the released guide's own fill.sh prints them over the translation 0fd6e071e5c08feb… (all of the seat's roots in one cut). By AI agents, Wed Nov 11 2026. No macro, syntax, notation, axiom, sorry.
-/
import Derived.Test.YtoeineoiofjfdaaChecked
import GoSem.Claim
import GoSem.ClaimJoined
import GoSem.ClaimMapViews
import Derived.JoinedTies
import Derived.KernelRfl
namespace Go.Proofs.Ytoeineoiofjfdaa
/- THE CELL 'sum', in the pinned program and in every row, IS THE sha256 OF THE DUMP (.gsa) THAT YtoeineoiofjfdaaProg.lean LOADS. Nothing in Lean hashes anything: it is a label: what it is worth is what the hold of that sum in a sandbox is worth. -/
noncomputable def Try.pinned : Pinned := { name := "ytoeineoiofjfdaa", sum := "0fd6e071e5c08febea0613280a0cb899b9fa8ccd4f7c9acba4223e3ecc0b8091", checked := Try.checked }
namespace Rows
def none {H : Type} : Left H := { results := [], args := [] }

/-- 'latticelaw04.ShapePlaces': WHATEVER THE INPUT: true; the input reads as it did. -/
def shapePlacesSpec : ChangeSpec := { name := "shapePlaces", fn := fun _ => fun
  | [d1, d2, d3] => { results := [.lit (.bool true)], args := [d1, d2, d3] }
  | _ => none }
def shapePlacesRow : OpenClaim := { program := "ytoeineoiofjfdaa", sum := "0fd6e071e5c08febea0613280a0cb899b9fa8ccd4f7c9acba4223e3ecc0b8091", func := "lattice/latticelaw04.ShapePlaces", spec := "shapePlaces", unfollowed := true, recurses := true, apart := false }
def ShapePlacesSaid : Prop := shapePlacesRow.holds Try.pinned (OpenSpec.ofChange shapePlacesSpec)

/-- ITS FALSE NEIGHBOUR: 'it returns false'. Refute it at one input. -/
def shapePlacesWrong : ChangeSpec := { name := "shapePlaces", fn := fun _ => fun
  | [d1, d2, d3] => { results := [.lit (.bool false)], args := [d1, d2, d3] }
  | _ => none }
def ShapePlacesWrongFalsely : Prop := shapePlacesRow.holds Try.pinned (OpenSpec.ofChange shapePlacesWrong)

/-- 'latticelaw04.ShapeMeets': WHATEVER THE INPUT: true; the input reads as it did. -/
def shapeMeetsSpec : ChangeSpec := { name := "shapeMeets", fn := fun _ => fun
  | [d1, d2, d3] => { results := [.lit (.bool true)], args := [d1, d2, d3] }
  | _ => none }
def shapeMeetsRow : OpenClaim := { program := "ytoeineoiofjfdaa", sum := "0fd6e071e5c08febea0613280a0cb899b9fa8ccd4f7c9acba4223e3ecc0b8091", func := "lattice/latticelaw04.ShapeMeets", spec := "shapeMeets", unfollowed := true, recurses := true, apart := false }
def ShapeMeetsSaid : Prop := shapeMeetsRow.holds Try.pinned (OpenSpec.ofChange shapeMeetsSpec)

/-- ITS FALSE NEIGHBOUR: 'it returns false'. Refute it at one input. -/
def shapeMeetsWrong : ChangeSpec := { name := "shapeMeets", fn := fun _ => fun
  | [d1, d2, d3] => { results := [.lit (.bool false)], args := [d1, d2, d3] }
  | _ => none }
def ShapeMeetsWrongFalsely : Prop := shapeMeetsRow.holds Try.pinned (OpenSpec.ofChange shapeMeetsWrong)

/-- 'latticelaw04.ShapeBack': WHATEVER THE INPUT: true; the input reads as it did. -/
def shapeBackSpec : ChangeSpec := { name := "shapeBack", fn := fun _ => fun
  | [d1, d2] => { results := [.lit (.bool true)], args := [d1, d2] }
  | _ => none }
def shapeBackRow : OpenClaim := { program := "ytoeineoiofjfdaa", sum := "0fd6e071e5c08febea0613280a0cb899b9fa8ccd4f7c9acba4223e3ecc0b8091", func := "lattice/latticelaw04.ShapeBack", spec := "shapeBack", unfollowed := true, recurses := true, apart := false }
def ShapeBackSaid : Prop := shapeBackRow.holds Try.pinned (OpenSpec.ofChange shapeBackSpec)

/-- ITS FALSE NEIGHBOUR: 'it returns false'. Refute it at one input. -/
def shapeBackWrong : ChangeSpec := { name := "shapeBack", fn := fun _ => fun
  | [d1, d2] => { results := [.lit (.bool false)], args := [d1, d2] }
  | _ => none }
def ShapeBackWrongFalsely : Prop := shapeBackRow.holds Try.pinned (OpenSpec.ofChange shapeBackWrong)

/-- 'latticelaw04.ShapeBoth': WHATEVER THE INPUT: true; the input reads as it did. -/
def shapeBothSpec : ChangeSpec := { name := "shapeBoth", fn := fun _ => fun
  | [d1, d2] => { results := [.lit (.bool true)], args := [d1, d2] }
  | _ => none }
def shapeBothRow : OpenClaim := { program := "ytoeineoiofjfdaa", sum := "0fd6e071e5c08febea0613280a0cb899b9fa8ccd4f7c9acba4223e3ecc0b8091", func := "lattice/latticelaw04.ShapeBoth", spec := "shapeBoth", unfollowed := true, recurses := true, apart := false }
def ShapeBothSaid : Prop := shapeBothRow.holds Try.pinned (OpenSpec.ofChange shapeBothSpec)

/-- ITS FALSE NEIGHBOUR: 'it returns false'. Refute it at one input. -/
def shapeBothWrong : ChangeSpec := { name := "shapeBoth", fn := fun _ => fun
  | [d1, d2] => { results := [.lit (.bool false)], args := [d1, d2] }
  | _ => none }
def ShapeBothWrongFalsely : Prop := shapeBothRow.holds Try.pinned (OpenSpec.ofChange shapeBothWrong)

/-- 'latticelaw05.TensNews': WHATEVER THE INPUT: true; the input reads as it did. -/
def tensNewsSpec : ChangeSpec := { name := "tensNews", fn := fun _ => fun
  | [d1, d2] => { results := [.lit (.bool true)], args := [d1, d2] }
  | _ => none }
def tensNewsRow : OpenClaim := { program := "ytoeineoiofjfdaa", sum := "0fd6e071e5c08febea0613280a0cb899b9fa8ccd4f7c9acba4223e3ecc0b8091", func := "lattice/latticelaw05.TensNews", spec := "tensNews", unfollowed := true, recurses := true, apart := false }
def TensNewsSaid : Prop := tensNewsRow.holds Try.pinned (OpenSpec.ofChange tensNewsSpec)

/-- ITS FALSE NEIGHBOUR: 'it returns false'. Refute it at one input. -/
def tensNewsWrong : ChangeSpec := { name := "tensNews", fn := fun _ => fun
  | [d1, d2] => { results := [.lit (.bool false)], args := [d1, d2] }
  | _ => none }
def TensNewsWrongFalsely : Prop := tensNewsRow.holds Try.pinned (OpenSpec.ofChange tensNewsWrong)

/-- 'latticelaw05.TensPicks': WHATEVER THE INPUT: true; the input reads as it did. -/
def tensPicksSpec : ChangeSpec := { name := "tensPicks", fn := fun _ => fun
  | [d1, d2, d3] => { results := [.lit (.bool true)], args := [d1, d2, d3] }
  | _ => none }
def tensPicksRow : OpenClaim := { program := "ytoeineoiofjfdaa", sum := "0fd6e071e5c08febea0613280a0cb899b9fa8ccd4f7c9acba4223e3ecc0b8091", func := "lattice/latticelaw05.TensPicks", spec := "tensPicks", unfollowed := true, recurses := true, apart := false }
def TensPicksSaid : Prop := tensPicksRow.holds Try.pinned (OpenSpec.ofChange tensPicksSpec)

/-- ITS FALSE NEIGHBOUR: 'it returns false'. Refute it at one input. -/
def tensPicksWrong : ChangeSpec := { name := "tensPicks", fn := fun _ => fun
  | [d1, d2, d3] => { results := [.lit (.bool false)], args := [d1, d2, d3] }
  | _ => none }
def TensPicksWrongFalsely : Prop := tensPicksRow.holds Try.pinned (OpenSpec.ofChange tensPicksWrong)

/-- 'latticelaw05.TensBytes': WHATEVER THE INPUT: true; the input reads as it did. -/
def tensBytesSpec : ChangeSpec := { name := "tensBytes", fn := fun _ => fun
  | [d1, d2, d3, d4] => { results := [.lit (.bool true)], args := [d1, d2, d3, d4] }
  | _ => none }
def tensBytesRow : OpenClaim := { program := "ytoeineoiofjfdaa", sum := "0fd6e071e5c08febea0613280a0cb899b9fa8ccd4f7c9acba4223e3ecc0b8091", func := "lattice/latticelaw05.TensBytes", spec := "tensBytes", unfollowed := true, recurses := true, apart := false }
def TensBytesSaid : Prop := tensBytesRow.holds Try.pinned (OpenSpec.ofChange tensBytesSpec)

/-- ITS FALSE NEIGHBOUR: 'it returns false'. Refute it at one input. -/
def tensBytesWrong : ChangeSpec := { name := "tensBytes", fn := fun _ => fun
  | [d1, d2, d3, d4] => { results := [.lit (.bool false)], args := [d1, d2, d3, d4] }
  | _ => none }
def TensBytesWrongFalsely : Prop := tensBytesRow.holds Try.pinned (OpenSpec.ofChange tensBytesWrong)

/-- 'latticelaw05.TensLooks': WHATEVER THE INPUT: true; the input reads as it did. -/
def tensLooksSpec : ChangeSpec := { name := "tensLooks", fn := fun _ => fun
  | [d1, d2] => { results := [.lit (.bool true)], args := [d1, d2] }
  | _ => none }
def tensLooksRow : OpenClaim := { program := "ytoeineoiofjfdaa", sum := "0fd6e071e5c08febea0613280a0cb899b9fa8ccd4f7c9acba4223e3ecc0b8091", func := "lattice/latticelaw05.TensLooks", spec := "tensLooks", unfollowed := true, recurses := true, apart := false }
def TensLooksSaid : Prop := tensLooksRow.holds Try.pinned (OpenSpec.ofChange tensLooksSpec)

/-- ITS FALSE NEIGHBOUR: 'it returns false'. Refute it at one input. -/
def tensLooksWrong : ChangeSpec := { name := "tensLooks", fn := fun _ => fun
  | [d1, d2] => { results := [.lit (.bool false)], args := [d1, d2] }
  | _ => none }
def TensLooksWrongFalsely : Prop := tensLooksRow.holds Try.pinned (OpenSpec.ofChange tensLooksWrong)

/-- 'latticelaw05.TensBack': WHATEVER THE INPUT: true; the input reads as it did. -/
def tensBackSpec : ChangeSpec := { name := "tensBack", fn := fun _ => fun
  | [d] => { results := [.lit (.bool true)], args := [d] }
  | _ => none }
def tensBackRow : OpenClaim := { program := "ytoeineoiofjfdaa", sum := "0fd6e071e5c08febea0613280a0cb899b9fa8ccd4f7c9acba4223e3ecc0b8091", func := "lattice/latticelaw05.TensBack", spec := "tensBack", unfollowed := true, recurses := true, apart := false }
def TensBackSaid : Prop := tensBackRow.holds Try.pinned (OpenSpec.ofChange tensBackSpec)

/-- ITS FALSE NEIGHBOUR: 'it returns false'. Refute it at one input. -/
def tensBackWrong : ChangeSpec := { name := "tensBack", fn := fun _ => fun
  | [d] => { results := [.lit (.bool false)], args := [d] }
  | _ => none }
def TensBackWrongFalsely : Prop := tensBackRow.holds Try.pinned (OpenSpec.ofChange tensBackWrong)

/-- 'latticelaw05.TensTurns': WHATEVER THE INPUT: true; the input reads as it did. -/
def tensTurnsSpec : ChangeSpec := { name := "tensTurns", fn := fun _ => fun
  | [d1, d2] => { results := [.lit (.bool true)], args := [d1, d2] }
  | _ => none }
def tensTurnsRow : OpenClaim := { program := "ytoeineoiofjfdaa", sum := "0fd6e071e5c08febea0613280a0cb899b9fa8ccd4f7c9acba4223e3ecc0b8091", func := "lattice/latticelaw05.TensTurns", spec := "tensTurns", unfollowed := true, recurses := true, apart := false }
def TensTurnsSaid : Prop := tensTurnsRow.holds Try.pinned (OpenSpec.ofChange tensTurnsSpec)

/-- ITS FALSE NEIGHBOUR: 'it returns false'. Refute it at one input. -/
def tensTurnsWrong : ChangeSpec := { name := "tensTurns", fn := fun _ => fun
  | [d1, d2] => { results := [.lit (.bool false)], args := [d1, d2] }
  | _ => none }
def TensTurnsWrongFalsely : Prop := tensTurnsRow.holds Try.pinned (OpenSpec.ofChange tensTurnsWrong)

/- THE SECOND FORM. 'bulk': how many values and letters a reading holds, each counted each time it is reached (what is shared counts as often as it is met; a slice's spare places count too). A statement '..UptoSaid' is the law's where the arguments, and the package variables that the reading takes, are together of bulk at most 1048576: NARROWER than '..Said'. Prove '..Said' where nothing that the law and all that it calls make is longer than what came in: it says more and counts as full. Else prove '..UptoSaid'. A law counts once. -/
mutual
def uptoBulk {H : Type} : DataW H → Nat
  | .lit (.string bytes) => bytes.length + 1
  | .lit _ => 1
  | .nil => 1
  | .ptr d => uptoBulk d + 1
  | .slice elems spare => uptoBulkAll elems + uptoBulkAll spare + 1
  | .agg parts => uptoBulkAll parts + 1
  | .iface _ d => uptoBulk d + 1
  | .map entries => uptoBulkEntries entries + 1
  | .held _ => 1
def uptoBulkAll {H : Type} : List (DataW H) → Nat
  | [] => 0
  | d :: r => uptoBulk d + uptoBulkAll r
def uptoBulkEntries {H : Type} : List (Lit × DataW H) → Nat
  | [] => 0
  | x :: r => uptoBulkEntry x + uptoBulkEntries r
def uptoBulkEntry {H : Type} : Lit × DataW H → Nat
  | (.string bytes, d) => bytes.length + uptoBulk d + 1
  | (_, d) => uptoBulk d + 1
 end
def uptoSmall : (H : Type) → List (DataW H) → Bool := fun _ ds => decide (uptoBulkAll ds ≤ 1048576)
def OpenSpec.upto (s : _root_.Go.ChangeSpec) : _root_.Go.OpenSpec := { _root_.Go.OpenSpec.ofChange s with cond := some uptoSmall }

/-- 'latticelaw04.ShapePlaces', WHERE WHAT IT READS IS OF BULK AT MOST 1048576: true; the input reads as it did. -/
def shapePlacesUptoRow : OpenClaim := { program := "ytoeineoiofjfdaa", sum := "0fd6e071e5c08febea0613280a0cb899b9fa8ccd4f7c9acba4223e3ecc0b8091", func := "lattice/latticelaw04.ShapePlaces", spec := "shapePlaces", unfollowed := true, recurses := true, apart := false, narrowed := true }
def ShapePlacesUptoSaid : Prop := shapePlacesUptoRow.holds Try.pinned (OpenSpec.upto shapePlacesSpec)

/-- 'latticelaw04.ShapeMeets', WHERE WHAT IT READS IS OF BULK AT MOST 1048576: true; the input reads as it did. -/
def shapeMeetsUptoRow : OpenClaim := { program := "ytoeineoiofjfdaa", sum := "0fd6e071e5c08febea0613280a0cb899b9fa8ccd4f7c9acba4223e3ecc0b8091", func := "lattice/latticelaw04.ShapeMeets", spec := "shapeMeets", unfollowed := true, recurses := true, apart := false, narrowed := true }
def ShapeMeetsUptoSaid : Prop := shapeMeetsUptoRow.holds Try.pinned (OpenSpec.upto shapeMeetsSpec)

/-- 'latticelaw04.ShapeBack', WHERE WHAT IT READS IS OF BULK AT MOST 1048576: true; the input reads as it did. -/
def shapeBackUptoRow : OpenClaim := { program := "ytoeineoiofjfdaa", sum := "0fd6e071e5c08febea0613280a0cb899b9fa8ccd4f7c9acba4223e3ecc0b8091", func := "lattice/latticelaw04.ShapeBack", spec := "shapeBack", unfollowed := true, recurses := true, apart := false, narrowed := true }
def ShapeBackUptoSaid : Prop := shapeBackUptoRow.holds Try.pinned (OpenSpec.upto shapeBackSpec)

/-- 'latticelaw04.ShapeBoth', WHERE WHAT IT READS IS OF BULK AT MOST 1048576: true; the input reads as it did. -/
def shapeBothUptoRow : OpenClaim := { program := "ytoeineoiofjfdaa", sum := "0fd6e071e5c08febea0613280a0cb899b9fa8ccd4f7c9acba4223e3ecc0b8091", func := "lattice/latticelaw04.ShapeBoth", spec := "shapeBoth", unfollowed := true, recurses := true, apart := false, narrowed := true }
def ShapeBothUptoSaid : Prop := shapeBothUptoRow.holds Try.pinned (OpenSpec.upto shapeBothSpec)

/-- 'latticelaw05.TensNews', WHERE WHAT IT READS IS OF BULK AT MOST 1048576: true; the input reads as it did. -/
def tensNewsUptoRow : OpenClaim := { program := "ytoeineoiofjfdaa", sum := "0fd6e071e5c08febea0613280a0cb899b9fa8ccd4f7c9acba4223e3ecc0b8091", func := "lattice/latticelaw05.TensNews", spec := "tensNews", unfollowed := true, recurses := true, apart := false, narrowed := true }
def TensNewsUptoSaid : Prop := tensNewsUptoRow.holds Try.pinned (OpenSpec.upto tensNewsSpec)

/-- 'latticelaw05.TensPicks', WHERE WHAT IT READS IS OF BULK AT MOST 1048576: true; the input reads as it did. -/
def tensPicksUptoRow : OpenClaim := { program := "ytoeineoiofjfdaa", sum := "0fd6e071e5c08febea0613280a0cb899b9fa8ccd4f7c9acba4223e3ecc0b8091", func := "lattice/latticelaw05.TensPicks", spec := "tensPicks", unfollowed := true, recurses := true, apart := false, narrowed := true }
def TensPicksUptoSaid : Prop := tensPicksUptoRow.holds Try.pinned (OpenSpec.upto tensPicksSpec)

/-- 'latticelaw05.TensBytes', WHERE WHAT IT READS IS OF BULK AT MOST 1048576: true; the input reads as it did. -/
def tensBytesUptoRow : OpenClaim := { program := "ytoeineoiofjfdaa", sum := "0fd6e071e5c08febea0613280a0cb899b9fa8ccd4f7c9acba4223e3ecc0b8091", func := "lattice/latticelaw05.TensBytes", spec := "tensBytes", unfollowed := true, recurses := true, apart := false, narrowed := true }
def TensBytesUptoSaid : Prop := tensBytesUptoRow.holds Try.pinned (OpenSpec.upto tensBytesSpec)

/-- 'latticelaw05.TensLooks', WHERE WHAT IT READS IS OF BULK AT MOST 1048576: true; the input reads as it did. -/
def tensLooksUptoRow : OpenClaim := { program := "ytoeineoiofjfdaa", sum := "0fd6e071e5c08febea0613280a0cb899b9fa8ccd4f7c9acba4223e3ecc0b8091", func := "lattice/latticelaw05.TensLooks", spec := "tensLooks", unfollowed := true, recurses := true, apart := false, narrowed := true }
def TensLooksUptoSaid : Prop := tensLooksUptoRow.holds Try.pinned (OpenSpec.upto tensLooksSpec)

/-- 'latticelaw05.TensBack', WHERE WHAT IT READS IS OF BULK AT MOST 1048576: true; the input reads as it did. -/
def tensBackUptoRow : OpenClaim := { program := "ytoeineoiofjfdaa", sum := "0fd6e071e5c08febea0613280a0cb899b9fa8ccd4f7c9acba4223e3ecc0b8091", func := "lattice/latticelaw05.TensBack", spec := "tensBack", unfollowed := true, recurses := true, apart := false, narrowed := true }
def TensBackUptoSaid : Prop := tensBackUptoRow.holds Try.pinned (OpenSpec.upto tensBackSpec)

/-- 'latticelaw05.TensTurns', WHERE WHAT IT READS IS OF BULK AT MOST 1048576: true; the input reads as it did. -/
def tensTurnsUptoRow : OpenClaim := { program := "ytoeineoiofjfdaa", sum := "0fd6e071e5c08febea0613280a0cb899b9fa8ccd4f7c9acba4223e3ecc0b8091", func := "lattice/latticelaw05.TensTurns", spec := "tensTurns", unfollowed := true, recurses := true, apart := false, narrowed := true }
def TensTurnsUptoSaid : Prop := tensTurnsUptoRow.holds Try.pinned (OpenSpec.upto tensTurnsSpec)

end Rows
end Go.Proofs.Ytoeineoiofjfdaa
