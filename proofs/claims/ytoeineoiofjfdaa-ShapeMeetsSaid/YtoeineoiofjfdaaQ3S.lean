/- Plain functions, as the program has them; data of structs. Made by a program of mine. Conditions: none. -/
import Derived.Test.YtoeineoiofjfdaaMi
set_option linter.unusedVariables false
namespace Go.Av

/-! slices.IndexFunc[[]int,int] -/
def slices_IndexFunc_int_L1 (fu : Nat) (p1 : Int → Option Bool) (x1 : List Int) (nx1 : Int → Option Int) (x4 : Int) : Option Int :=
  if x4 < (x1.length : Int) then ((at? x1 x4).bind fun x7 => (p1 x7).bind fun x8 => if x8 = true then (some x4) else nx1 (wk .i64 (x4 + 1))) else some (-1)
def slices_IndexFunc_int_W1 (fu : Nat) (p1 : Int → Option Bool) (x1 : List Int) (x4 : Int) : Option Int :=
  cloop (fun next s => slices_IndexFunc_int_L1 fu p1 x1 next s) fu x4
def slices_IndexFunc_int (fu : Nat) (x1 : List Int) (p1 : Int → Option Bool) : Option Int :=
  slices_IndexFunc_int_W1 fu p1 x1 0

/-! slices.ContainsFunc[[]int,int] -/
def slices_ContainsFunc_int (fu : Nat) (x1 : List Int) (p1 : Int → Option Bool) : Option Bool :=
  (slices_IndexFunc_int fu x1 p1).bind fun x2 => some (decide (0 ≤ x2))

/-! lattice/shape.Size$1 -/
def shape_Size_1 (fu : Nat) (x1 : Int) : Option Bool :=
  some (decide (x1 < 0))

/-! lattice/shape.Size$2 -/
def shape_Size_2 (fu : Nat) (x1 : Int) : Option Bool :=
  some (decide (4096 < x1))

/-! slices.Index[[]int,int] -/
def slices_Index_int_L1 (fu : Nat) (x1 : List Int) (x2 : Int) (nx1 : Int → Option Int) (x4 : Int) : Option Int :=
  if x4 < (x1.length : Int) then ((at? x1 x4).bind fun x6 => if x2 = x6 then (some x4) else nx1 (wk .i64 (x4 + 1))) else some (-1)
def slices_Index_int_W1 (fu : Nat) (x1 : List Int) (x2 : Int) (x4 : Int) : Option Int :=
  cloop (fun next s => slices_Index_int_L1 fu x1 x2 next s) fu x4
def slices_Index_int (fu : Nat) (x1 : List Int) (x2 : Int) : Option Int :=
  slices_Index_int_W1 fu x1 x2 0

/-! slices.Contains[[]int,int] -/
def slices_Contains_int (fu : Nat) (x1 : List Int) (x2 : Int) : Option Bool :=
  (slices_Index_int fu x1 x2).bind fun x3 => some (decide (0 ≤ x3))

/-! lattice/shape.Size -/
def shape_Size_L1 (fu : Nat) (x1 : List Int) (nx1 : Int → Int → Option (Int × Int)) (x5 : Int) (x6 : Int) : Option (Int × Int) :=
  if x6 < (x1.length : Int) then ((at? x1 x6).bind fun x8 => chk (x5 ≠ 0) <| if (wk .i64 (Int.tdiv 4096 x5)) < x8 then (some (0, 4)) else nx1 (wk .i64 (x5 * x8)) (wk .i64 (x6 + 1))) else some (x5, 0)
def shape_Size_W1 (fu : Nat) (x1 : List Int) (x5 : Int) (x6 : Int) : Option (Int × Int) :=
  cloop (fun next s => shape_Size_L1 fu x1 (fun x5 x6 => next (x5, x6)) s.1 s.2) fu (x5, x6)
def shape_Size_k1 (fu : Nat) (x1 : List Int) : Option (Int × Int) :=
  (slices_Contains_int fu x1 0).bind fun x3 => if x3 = true then (some (0, 0)) else shape_Size_W1 fu x1 1 0
def shape_Size (fu : Nat) (x1 : List Int) : Option (Int × Int) :=
  (slices_ContainsFunc_int fu x1 (fun y0 => shape_Size_1 fu y0)).bind fun x2 => if x2 = true then (some (0, 1)) else if 8 < (x1.length : Int) then (some (0, 4)) else (slices_ContainsFunc_int fu x1 (fun y0 => shape_Size_2 fu y0)).bind fun x9 => if x9 = true then (some (0, 4)) else shape_Size_k1 fu x1

/-! lattice/shape.strides -/
def shape_strides_L1 (fu : Nat) (x1 : List Int) (nx1 : (List Int) → Int → Int → Option (List Int)) (x3 : List Int) (x4 : Int) (x5 : Int) : Option (List Int) :=
  if 0 ≤ x5 then (chk (0 ≤ x5 ∧ x5 < (x3.length : Int)) <| (at? x1 x5).bind fun x7 => nx1 (x3.set x5.toNat x4) (wk .i64 (x4 * x7)) (wk .i64 (x5 - 1))) else some x3
def shape_strides_W1 (fu : Nat) (x1 : List Int) (x3 : List Int) (x4 : Int) (x5 : Int) : Option (List Int) :=
  cloop (fun next s => shape_strides_L1 fu x1 (fun x3 x4 x5 => next (x3, x4, x5)) s.1 s.2.1 s.2.2) fu (x3, x4, x5)
def shape_strides (fu : Nat) (x1 : List Int) : Option (List Int) :=
  chk (0 ≤ (x1.length : Int) ∧ (x1.length : Int) * 8 ≤ 140737488355328) <| shape_strides_W1 fu x1 (List.replicate (x1.length : Int).toNat (0 : Int)) 1 (wk .i64 ((x1.length : Int) - 1))

/-! lattice/shape.Strides -/
def shape_Strides (fu : Nat) (x1 : List Int) : Option ((List Int) × Int) :=
  (shape_Size fu x1).bind fun x2 => if x2.2 = 0 then ((shape_strides fu x1).bind fun x3 => some (x3, 0)) else some ([], x2.2)

/-! lattice/shape.Index -/
def shape_Index_L1 (fu : Nat) (x4 : List Int) (nx1 : (List Int) → Int → Int → Option ((List Int) × Int)) (x6 : List Int) (x7 : Int) (x8 : Int) : Option ((List Int) × Int) :=
  if x8 < (x4.length : Int) then ((at? x4 x8).bind fun x10 => chk (x10 ≠ 0) <| chk (0 ≤ x8 ∧ x8 < (x6.length : Int)) <| nx1 (x6.set x8.toNat (wk .i64 (Int.tdiv x7 x10))) (Int.tmod x7 x10) (wk .i64 (x8 + 1))) else some (x6, 0)
def shape_Index_W1 (fu : Nat) (x4 : List Int) (x6 : List Int) (x7 : Int) (x8 : Int) : Option ((List Int) × Int) :=
  cloop (fun next s => shape_Index_L1 fu x4 (fun x6 x7 x8 => next (x6, x7, x8)) s.1 s.2.1 s.2.2) fu (x6, x7, x8)
def shape_Index_k1 (fu : Nat) (x1 : List Int) (x2 : Int) : Option ((List Int) × Int) :=
  chk (0 ≤ (x1.length : Int) ∧ (x1.length : Int) * 8 ≤ 140737488355328) <| (shape_strides fu x1).bind fun x4 => shape_Index_W1 fu x4 (List.replicate (x1.length : Int).toNat (0 : Int)) x2 0
def shape_Index (fu : Nat) (x1 : List Int) (x2 : Int) : Option ((List Int) × Int) :=
  (shape_Size fu x1).bind fun x3 => if x3.2 = 0 then (if x2 < 0 then (some ([], 2)) else if x3.1 ≤ x2 then (some ([], 2)) else shape_Index_k1 fu x1 x2) else some ([], x3.2)

/-! lattice/shape.Offset -/
def shape_Offset_k1 (fu : Nat) (x4 : List Int) (x5 : Int) : Option (Int × Int) :=
  if x5 < 0 then (some (0, 2)) else some (x5, 0)
def shape_Offset_k2 (fu : Nat) (nx1 : Int → Int → Option (Int × Int)) (x2 : List Int) (x11 : Int) (x12 : Int) (x17 : Int) : Option (Int × Int) :=
  (at? x2 x12).bind fun x18 => nx1 (wk .i64 (x11 + (wk .i64 (x18 * x17)))) (wk .i64 (x12 + 1))
def shape_Offset_L1 (fu : Nat) (x1 : List Int) (x2 : List Int) (x6 : List Int) (nx1 : Int → Int → Option (Int × Int)) (x11 : Int) (x12 : Int) : Option (Int × Int) :=
  if x12 < (x6.length : Int) then ((at? x6 x12).bind fun x17 => (at? x2 x12).bind fun x19 => if x19 < 0 then (shape_Offset_k1 fu x6 (-1)) else (at? x1 x12).bind fun x20 => if x20 ≤ x19 then (shape_Offset_k1 fu x6 (-1)) else shape_Offset_k2 fu nx1 x2 x11 x12 x17) else shape_Offset_k1 fu x6 x11
def shape_Offset_W1 (fu : Nat) (x1 : List Int) (x2 : List Int) (x6 : List Int) (x11 : Int) (x12 : Int) : Option (Int × Int) :=
  cloop (fun next s => shape_Offset_L1 fu x1 x2 x6 (fun x11 x12 => next (x11, x12)) s.1 s.2) fu (x11, x12)
def shape_Offset (fu : Nat) (x1 : List Int) (x2 : List Int) : Option (Int × Int) :=
  (shape_Size fu x1).bind fun x3 => if x3.2 = 0 then (if (x2.length : Int) = (x1.length : Int) then ((shape_strides fu x1).bind fun x6 => shape_Offset_W1 fu x1 x2 x6 0 0) else some (0, 2)) else some (0, x3.2)

/-! slices.Clone[[]int,int] -/
def slices_Clone_int (fu : Nat) (x1 : List Int) : Option (List Int) :=
  chk ((x1.length : Int) * 8 ≤ 140737488355328) <| some x1

/-! lattice/shape.Broadcast -/
def shape_Broadcast_k3 (fu : Nat) (x7 : List Int) : Option ((List Int) × Int) :=
  (shape_Size fu x7).bind fun x8 => if x8.2 = 0 then (some (x7, 0)) else some ([], x8.2)
def shape_Broadcast_L1 (fu : Nat) (x4 : List Int) (x5 : List Int) (nx1 : (List Int) → Int → Option ((List Int) × Int)) (x11 : List Int) (x12 : Int) : Option ((List Int) × Int) :=
  if x12 < (x5.length : Int) then ((at? x5 x12).bind fun x15 => (at? x11 (wk .i64 ((wk .i64 ((x4.length : Int) - (x5.length : Int))) + x12))).bind fun x16 => if x16 = 1 then (chk (0 ≤ wk .i64 ((wk .i64 ((x4.length : Int) - (x5.length : Int))) + x12) ∧ wk .i64 ((wk .i64 ((x4.length : Int) - (x5.length : Int))) + x12) < (x11.length : Int)) <| nx1 (x11.set (wk .i64 ((wk .i64 ((x4.length : Int) - (x5.length : Int))) + x12)).toNat x15) (wk .i64 (x12 + 1))) else if x15 = 1 then (nx1 x11 (wk .i64 (x12 + 1))) else if x15 = x16 then (nx1 x11 (wk .i64 (x12 + 1))) else some ([], 3)) else shape_Broadcast_k3 fu x11
def shape_Broadcast_W1 (fu : Nat) (x4 : List Int) (x5 : List Int) (x11 : List Int) (x12 : Int) : Option ((List Int) × Int) :=
  cloop (fun next s => shape_Broadcast_L1 fu x4 x5 (fun x11 x12 => next (x11, x12)) s.1 s.2) fu (x11, x12)
def shape_Broadcast_k2 (fu : Nat) (x4 : List Int) (x5 : List Int) : Option ((List Int) × Int) :=
  (slices_Clone_int fu x4).bind fun x6 => shape_Broadcast_W1 fu x4 x5 x6 0
def shape_Broadcast_k1 (fu : Nat) (x1 : List Int) (x2 : List Int) (x3 : List (List Int)) : Option ((List Int) × Int) :=
  if (x1.length : Int) < (x2.length : Int) then (shape_Broadcast_k2 fu x2 x1) else shape_Broadcast_k2 fu x1 x2
def shape_Broadcast_L2 (fu : Nat) (x1 : List Int) (x2 : List Int) (nx2 : (List (List Int)) → Int → Option ((List Int) × Int)) (x19 : List (List Int)) (x20 : Int) : Option ((List Int) × Int) :=
  if x20 < ((2 : Nat) : Int) then ((at? x19 x20).bind fun x23 => (shape_Size fu x23).bind fun x24 => if x24.2 = 0 then (nx2 x19 (wk .i64 (x20 + 1))) else some ([], x24.2)) else shape_Broadcast_k1 fu x1 x2 x19
def shape_Broadcast_W2 (fu : Nat) (x1 : List Int) (x2 : List Int) (x19 : List (List Int)) (x20 : Int) : Option ((List Int) × Int) :=
  cloop (fun next s => shape_Broadcast_L2 fu x1 x2 (fun x19 x20 => next (x19, x20)) s.1 s.2) fu (x19, x20)
def shape_Broadcast (fu : Nat) (x1 : List Int) (x2 : List Int) : Option ((List Int) × Int) :=
  shape_Broadcast_W2 fu x1 x2 ([x1, x2]) 0

/-! slices.Equal[[]int,int] -/
def slices_Equal_int_L1 (fu : Nat) (x1 : List Int) (x2 : List Int) (nx1 : Int → Option Bool) (x5 : Int) : Option Bool :=
  if x5 < (x1.length : Int) then ((at? x1 x5).bind fun x8 => (at? x2 x5).bind fun x9 => if x8 = x9 then (nx1 (wk .i64 (x5 + 1))) else some false) else some true
def slices_Equal_int_W1 (fu : Nat) (x1 : List Int) (x2 : List Int) (x5 : Int) : Option Bool :=
  cloop (fun next s => slices_Equal_int_L1 fu x1 x2 next s) fu x5
def slices_Equal_int (fu : Nat) (x1 : List Int) (x2 : List Int) : Option Bool :=
  if (x1.length : Int) = (x2.length : Int) then (slices_Equal_int_W1 fu x1 x2 0) else some false

/-! lattice/shape.From -/
def shape_From_L1 (fu : Nat) (x1 : List Int) (x2 : List Int) (x7 : (List Int) × Int) (x8 : List Int) (nx1 : Int → Int → Option (Int × Int)) (x12 : Int) (x13 : Int) : Option (Int × Int) :=
  if x13 < (x8.length : Int) then ((at? x8 x13).bind fun x17 => (at? x1 x13).bind fun x18 => if x18 = 1 then (nx1 x12 (wk .i64 (x13 + 1))) else (at? (subN x7.1 (wk .i64 ((x2.length : Int) - (x1.length : Int))).toNat x7.1.length) x13).bind fun x19 => nx1 (wk .i64 (x12 + (wk .i64 (x19 * x17)))) (wk .i64 (x13 + 1))) else some (x12, 0)
def shape_From_W1 (fu : Nat) (x1 : List Int) (x2 : List Int) (x7 : (List Int) × Int) (x8 : List Int) (x12 : Int) (x13 : Int) : Option (Int × Int) :=
  cloop (fun next s => shape_From_L1 fu x1 x2 x7 x8 (fun x12 x13 => next (x12, x13)) s.1 s.2) fu (x12, x13)
def shape_From_k1 (fu : Nat) (x1 : List Int) (x2 : List Int) (x3 : Int) : Option (Int × Int) :=
  (shape_Index fu x2 x3).bind fun x7 => if x7.2 = 0 then (chk (0 ≤ wk .i64 ((x2.length : Int) - (x1.length : Int)) ∧ wk .i64 ((x2.length : Int) - (x1.length : Int)) ≤ (x7.1.length : Int)) <| (shape_strides fu x1).bind fun x8 => shape_From_W1 fu x1 x2 x7 x8 0 0) else some (0, x7.2)
def shape_From (fu : Nat) (x1 : List Int) (x2 : List Int) (x3 : Int) : Option (Int × Int) :=
  (shape_Size fu x1).bind fun x4 => if x4.2 = 0 then ((shape_Size fu x2).bind fun x5 => if x5.2 = 0 then ((shape_Broadcast fu x1 x2).bind fun x6 => if x6.2 = 0 then ((slices_Equal_int fu x6.1 x2).bind fun x20 => if x20 = true then (shape_From_k1 fu x1 x2 x3) else some (0, 3)) else some (0, 3)) else some (0, x5.2)) else some (0, x4.2)

/-! lattice/shape.Axis -/
def shape_Axis (fu : Nat) (x1 : Int) (x2 : Int) : Option (Int × Int) :=
  if x2 < 0 then (some (0, 2)) else if 0 ≤ x1 then (if x1 < x2 then (some (x1, 0)) else some (0, 2)) else if (wk .i64 (0 - x2)) ≤ x1 then (some (wk .i64 (x2 + x1), 0)) else some (0, 2)

/-! lattice/shape.Axes -/
def shape_Axes_k2 (fu : Nat) (x3 : List Bool) (x4 : Bool) : Option ((List Bool) × Int) :=
  if x4 = true then (some ([], 1)) else some (x3, 0)
def shape_Axes_L1 (fu : Nat) (x1 : List Int) (x2 : Int) (nx1 : (List Bool) → Bool → Int → Option ((List Bool) × Int)) (x8 : List Bool) (x9 : Bool) (x10 : Int) : Option ((List Bool) × Int) :=
  if x10 < (x1.length : Int) then ((at? x1 x10).bind fun x14 => (shape_Axis fu x14 x2).bind fun x15 => if x15.2 = 0 then (if x9 = true then (chk (0 ≤ x15.1 ∧ x15.1 < (x8.length : Int)) <| nx1 (x8.set x15.1.toNat true) true (wk .i64 (x10 + 1))) else (at? x8 x15.1).bind fun x16 => chk (0 ≤ x15.1 ∧ x15.1 < (x8.length : Int)) <| nx1 (x8.set x15.1.toNat true) x16 (wk .i64 (x10 + 1))) else some ([], x15.2)) else shape_Axes_k2 fu x8 x9
def shape_Axes_W1 (fu : Nat) (x1 : List Int) (x2 : Int) (x8 : List Bool) (x9 : Bool) (x10 : Int) : Option ((List Bool) × Int) :=
  cloop (fun next s => shape_Axes_L1 fu x1 x2 (fun x8 x9 x10 => next (x8, x9, x10)) s.1 s.2.1 s.2.2) fu (x8, x9, x10)
def shape_Axes_k1 (fu : Nat) (x1 : List Int) (x2 : Int) : Option ((List Bool) × Int) :=
  chk (0 ≤ x2 ∧ x2 * 1 ≤ 140737488355328) <| shape_Axes_W1 fu x1 x2 (List.replicate x2.toNat (false : Bool)) false 0
def shape_Axes (fu : Nat) (x1 : List Int) (x2 : Int) : Option ((List Bool) × Int) :=
  if x2 < 0 then (some ([], 1)) else if 8 < x2 then (some ([], 1)) else shape_Axes_k1 fu x1 x2

/-! lattice/latticeref04.SameInts -/
def ref04_SameInts_L1 (fu : Nat) (x1 : List Int) (x2 : List Int) (nx1 : Int → Option Bool) (x5 : Int) : Option Bool :=
  if x5 < (x1.length : Int) then ((at? x1 x5).bind fun x8 => (at? x2 x5).bind fun x9 => if x8 = x9 then (nx1 (wk .i64 (x5 + 1))) else some false) else some true
def ref04_SameInts_W1 (fu : Nat) (x1 : List Int) (x2 : List Int) (x5 : Int) : Option Bool :=
  cloop (fun next s => ref04_SameInts_L1 fu x1 x2 next s) fu x5
def ref04_SameInts (fu : Nat) (x1 : List Int) (x2 : List Int) : Option Bool :=
  if (x1.length : Int) = (x2.length : Int) then (ref04_SameInts_W1 fu x1 x2 0) else some false

/-! lattice/latticelaw04.awake -/
def law04_awake_k2 (fu : Nat) (x1 : Int × Int) (x4 : Int × Int) (x6 : Int × Int) (x7 : Int × Int) (x10 : Bool) (x11 : Bool) : Option Bool :=
  if x10 = true then (if x11 = true then (if x1.1 = 6 then (if x4.1 = 4 then (if x6.1 = 1 then (some (decide (x7.1 = 2))) else some false) else some false) else some false) else some false) else some false
def law04_awake_k1 (fu : Nat) (x1 : Int × Int) (x2 : (List Int) × Int) (x3 : (List Int) × Int) (x4 : Int × Int) (x5 : (List Int) × Int) (x6 : Int × Int) (x7 : Int × Int) (x8 : (List Bool) × Int) (x10 : Bool) : Option Bool :=
  (ref04_SameInts fu x2.1 ([12, 4, 1])).bind fun x12 => if x12 = true then ((ref04_SameInts fu x3.1 ([1, 1])).bind fun x13 => if x13 = true then ((ref04_SameInts fu x5.1 ([2, 3, 4])).bind fun x14 => if x14 = true then (if ((x8.1.length : Nat) : Int) = 3 then ((at? x8.1 0).bind fun x15 => if x15 = true then ((at? x8.1 1).bind fun x16 => if x16 = true then (law04_awake_k2 fu x1 x4 x6 x7 x10 false) else (at? x8.1 2).bind fun x17 => law04_awake_k2 fu x1 x4 x6 x7 x10 x17) else law04_awake_k2 fu x1 x4 x6 x7 x10 false) else law04_awake_k2 fu x1 x4 x6 x7 x10 false) else law04_awake_k2 fu x1 x4 x6 x7 x10 false) else law04_awake_k2 fu x1 x4 x6 x7 x10 false) else law04_awake_k2 fu x1 x4 x6 x7 x10 false
def law04_awake (fu : Nat) : Option Bool :=
  (shape_Size fu ([2, 3])).bind fun x1 => (shape_Strides fu ([2, 3, 4])).bind fun x2 => (shape_Index fu ([2, 3]) 4).bind fun x3 => (shape_Offset fu ([2, 3]) ([1, 1])).bind fun x4 => (shape_Broadcast fu ([3, 1]) ([2, 1, 4])).bind fun x5 => (shape_From fu ([3, 1]) ([2, 3, 4]) 17).bind fun x6 => (shape_Axis fu (-1) 3).bind fun x7 => (shape_Axes fu ([0, -1]) 3).bind fun x8 => (shape_Size fu ([64, 65])).bind fun x9 => if x1.2 = 0 then (if x2.2 = 0 then (if x3.2 = 0 then (if x4.2 = 0 then (if x5.2 = 0 then (if x6.2 = 0 then (if x7.2 = 0 then (if x8.2 = 0 then (law04_awake_k1 fu x1 x2 x3 x4 x5 x6 x7 x8 (decide (x9.2 = 4))) else law04_awake_k1 fu x1 x2 x3 x4 x5 x6 x7 x8 false) else law04_awake_k1 fu x1 x2 x3 x4 x5 x6 x7 x8 false) else law04_awake_k1 fu x1 x2 x3 x4 x5 x6 x7 x8 false) else law04_awake_k1 fu x1 x2 x3 x4 x5 x6 x7 x8 false) else law04_awake_k1 fu x1 x2 x3 x4 x5 x6 x7 x8 false) else law04_awake_k1 fu x1 x2 x3 x4 x5 x6 x7 x8 false) else law04_awake_k1 fu x1 x2 x3 x4 x5 x6 x7 x8 false) else law04_awake_k1 fu x1 x2 x3 x4 x5 x6 x7 x8 false

/-! lattice/latticeref04.Size -/
def ref04_Size_k2 (fu : Nat) (nx1 : Int → Int → Option (Int × Int)) (x1 : List Int) (x6 : Int) (x7 : Int) : Option (Int × Int) :=
  (at? x1 x7).bind fun x10 => nx1 (wk .i64 (x6 * x10)) (wk .i64 (x7 + 1))
def ref04_Size_L1 (fu : Nat) (x1 : List Int) (nx1 : Int → Int → Option (Int × Int)) (x6 : Int) (x7 : Int) : Option (Int × Int) :=
  if x7 < (x1.length : Int) then ((at? x1 x7).bind fun x11 => if 4096 < x11 then (some (0, 4)) else if 4096 < (wk .i64 (x6 * x11)) then (some (0, 4)) else ref04_Size_k2 fu nx1 x1 x6 x7) else some (x6, 0)
def ref04_Size_W1 (fu : Nat) (x1 : List Int) (x6 : Int) (x7 : Int) : Option (Int × Int) :=
  cloop (fun next s => ref04_Size_L1 fu x1 (fun x6 x7 => next (x6, x7)) s.1 s.2) fu (x6, x7)
def ref04_Size_k1 (fu : Nat) (x1 : List Int) (x2 : Bool) (x3 : Bool) : Option (Int × Int) :=
  if x3 = true then (some (0, 4)) else if x2 = true then (some (0, 0)) else ref04_Size_W1 fu x1 1 0
def ref04_Size_k3 (fu : Nat) (nx2 : Bool → Bool → Int → Option (Int × Int)) (x14 : Bool) (x15 : Int) (x18 : Int) (x19 : Bool) : Option (Int × Int) :=
  if x14 = true then (nx2 x19 true (wk .i64 (x15 + 1))) else nx2 x19 (decide (4096 < x18)) (wk .i64 (x15 + 1))
def ref04_Size_L2 (fu : Nat) (x1 : List Int) (nx2 : Bool → Bool → Int → Option (Int × Int)) (x13 : Bool) (x14 : Bool) (x15 : Int) : Option (Int × Int) :=
  if x15 < (x1.length : Int) then ((at? x1 x15).bind fun x18 => if x18 < 0 then (some (0, 1)) else if x13 = true then (ref04_Size_k3 fu nx2 x14 x15 x18 true) else ref04_Size_k3 fu nx2 x14 x15 x18 (decide (x18 = 0))) else ref04_Size_k1 fu x1 x13 x14
def ref04_Size_W2 (fu : Nat) (x1 : List Int) (x13 : Bool) (x14 : Bool) (x15 : Int) : Option (Int × Int) :=
  cloop (fun next s => ref04_Size_L2 fu x1 (fun x13 x14 x15 => next (x13, x14, x15)) s.1 s.2.1 s.2.2) fu (x13, x14, x15)
def ref04_Size (fu : Nat) (x1 : List Int) : Option (Int × Int) :=
  ref04_Size_W2 fu x1 false (decide (8 < (x1.length : Int))) 0

/-! lattice/latticeref04.Strides -/
def ref04_Strides_k1 (fu : Nat) (nx1 : (List Int) → Int → Option ((List Int) × Int)) (x9 : List Int) (x10 : Int) (x17 : Int) : Option ((List Int) × Int) :=
  chk ((x9.length + 1 : Int) * 8 ≤ 140737488355328) <| nx1 (x9 ++ ([x17])) (wk .i64 (x10 + 1))
def ref04_Strides_L2 (fu : Nat) (nx1 : (List Int) → Int → Option ((List Int) × Int)) (x1 : List Int) (x9 : List Int) (x10 : Int) (nx2 : Int → Int → Option ((List Int) × Int)) (x19 : Int) (x20 : Int) : Option ((List Int) × Int) :=
  if x20 < (x1.length : Int) then ((at? x1 x20).bind fun x22 => nx2 (wk .i64 (x19 * x22)) (wk .i64 (x20 + 1))) else ref04_Strides_k1 fu nx1 x9 x10 x19
def ref04_Strides_W2 (fu : Nat) (nx1 : (List Int) → Int → Option ((List Int) × Int)) (x1 : List Int) (x9 : List Int) (x10 : Int) (x19 : Int) (x20 : Int) : Option ((List Int) × Int) :=
  cloop (fun next s => ref04_Strides_L2 fu nx1 x1 x9 x10 (fun x19 x20 => next (x19, x20)) s.1 s.2) fu (x19, x20)
def ref04_Strides_L1 (fu : Nat) (x1 : List Int) (nx1 : (List Int) → Int → Option ((List Int) × Int)) (x9 : List Int) (x10 : Int) : Option ((List Int) × Int) :=
  if x10 < (x1.length : Int) then (ref04_Strides_W2 fu nx1 x1 x9 x10 1 (wk .i64 (x10 + 1))) else some (x9, 0)
def ref04_Strides_W1 (fu : Nat) (x1 : List Int) (x9 : List Int) (x10 : Int) : Option ((List Int) × Int) :=
  cloop (fun next s => ref04_Strides_L1 fu x1 (fun x9 x10 => next (x9, x10)) s.1 s.2) fu (x9, x10)
def ref04_Strides (fu : Nat) (x1 : List Int) : Option ((List Int) × Int) :=
  (ref04_Size fu x1).bind fun x2 => if x2.2 = 0 then (ref04_Strides_W1 fu x1 ([] : List Int) 0) else some ([], x2.2)

/-! lattice/latticeref04.Index -/
def ref04_Index_L1 (fu : Nat) (x1 : List Int) (nx1 : (List Int) → Int → Int → Option ((List Int) × Int)) (x5 : List Int) (x6 : Int) (x7 : Int) : Option ((List Int) × Int) :=
  if 0 ≤ x7 then ((at? x1 x7).bind fun x9 => chk (x9 ≠ 0) <| chk (0 ≤ x7 ∧ x7 < (x5.length : Int)) <| nx1 (x5.set x7.toNat (Int.tmod x6 x9)) (wk .i64 (Int.tdiv x6 x9)) (wk .i64 (x7 - 1))) else some (x5, 0)
def ref04_Index_W1 (fu : Nat) (x1 : List Int) (x5 : List Int) (x6 : Int) (x7 : Int) : Option ((List Int) × Int) :=
  cloop (fun next s => ref04_Index_L1 fu x1 (fun x5 x6 x7 => next (x5, x6, x7)) s.1 s.2.1 s.2.2) fu (x5, x6, x7)
def ref04_Index_k1 (fu : Nat) (x1 : List Int) (x2 : Int) : Option ((List Int) × Int) :=
  chk (0 ≤ (x1.length : Int) ∧ (x1.length : Int) * 8 ≤ 140737488355328) <| ref04_Index_W1 fu x1 (List.replicate (x1.length : Int).toNat (0 : Int)) x2 (wk .i64 ((x1.length : Int) - 1))
def ref04_Index (fu : Nat) (x1 : List Int) (x2 : Int) : Option ((List Int) × Int) :=
  (ref04_Size fu x1).bind fun x3 => if x3.2 = 0 then (if x2 < 0 then (some ([], 2)) else if x3.1 ≤ x2 then (some ([], 2)) else ref04_Index_k1 fu x1 x2) else some ([], x3.2)

/-! lattice/latticeref04.Offset -/
def ref04_Offset_k1 (fu : Nat) (nx1 : Int → Int → Option (Int × Int)) (x1 : List Int) (x2 : List Int) (x8 : Int) (x9 : Int) : Option (Int × Int) :=
  (at? x1 x9).bind fun x14 => (at? x2 x9).bind fun x15 => nx1 (wk .i64 ((wk .i64 (x8 * x14)) + x15)) (wk .i64 (x9 + 1))
def ref04_Offset_L1 (fu : Nat) (x1 : List Int) (x2 : List Int) (nx1 : Int → Int → Option (Int × Int)) (x8 : Int) (x9 : Int) : Option (Int × Int) :=
  if x9 < (x1.length : Int) then ((at? x2 x9).bind fun x16 => if x16 < 0 then (some (0, 2)) else (at? x1 x9).bind fun x17 => if x17 ≤ x16 then (some (0, 2)) else ref04_Offset_k1 fu nx1 x1 x2 x8 x9) else some (x8, 0)
def ref04_Offset_W1 (fu : Nat) (x1 : List Int) (x2 : List Int) (x8 : Int) (x9 : Int) : Option (Int × Int) :=
  cloop (fun next s => ref04_Offset_L1 fu x1 x2 (fun x8 x9 => next (x8, x9)) s.1 s.2) fu (x8, x9)
def ref04_Offset (fu : Nat) (x1 : List Int) (x2 : List Int) : Option (Int × Int) :=
  (ref04_Size fu x1).bind fun x3 => if x3.2 = 0 then (if (x2.length : Int) = (x1.length : Int) then (ref04_Offset_W1 fu x1 x2 0 0) else some (0, 2)) else some (0, x3.2)

/-! lattice/latticelaw04.ShapePlaces -/
def law04_ShapePlaces (fu : Nat) (x1 : List Int) (x2 : Int) (x3 : List Int) : Option Bool :=
  chk ((x1.length : Int) * 8 ≤ 140737488355328) <| chk ((x1.length + 2 : Int) * 8 ≤ 140737488355328) <| chk (0 ≤ (x1.length : Int) ∧ (x1.length : Int) ≤ ((x1.length + 2 : Nat) : Int)) <| chk ((x3.length : Int) * 8 ≤ 140737488355328) <| chk ((x3.length + 2 : Int) * 8 ≤ 140737488355328) <| chk (0 ≤ (x3.length : Int) ∧ (x3.length : Int) ≤ ((x3.length + 2 : Nat) : Int)) <| (shape_Size fu x1).bind fun x4 => (ref04_Size fu x1).bind fun x5 => (shape_Strides fu x1).bind fun x6 => (ref04_Strides fu x1).bind fun x7 => (shape_Index fu x1 x2).bind fun x8 => (ref04_Index fu x1 x2).bind fun x9 => (shape_Offset fu x1 x3).bind fun x10 => (ref04_Offset fu x1 x3).bind fun x11 => if x4.1 = x5.1 then (if x4.2 = x5.2 then ((ref04_SameInts fu x6.1 x7.1).bind fun x12 => if x12 = true then (if x6.2 = x7.2 then ((ref04_SameInts fu x8.1 x9.1).bind fun x13 => if x13 = true then (if x8.2 = x9.2 then (if x10.1 = x11.1 then (if x10.2 = x11.2 then (chk (0 ≤ wk .i64 ((x1.length : Int) + 2) ∧ wk .i64 ((x1.length : Int) + 2) ≤ ((x1.length + 2 : Nat) : Int)) <| (ref04_SameInts fu x1 x1).bind fun x14 => if x14 = true then (chk (0 ≤ (x1.length : Int) ∧ (x1.length : Int) < (((wk .i64 ((x1.length : Int) + 2)).toNat : Nat) : Int)) <| (at? (x1 ++ ([991, 992])) (x1.length : Int)).bind fun x15 => if x15 = 991 then (chk (0 ≤ wk .i64 ((x1.length : Int) + 1) ∧ wk .i64 ((x1.length : Int) + 1) < (((wk .i64 ((x1.length : Int) + 2)).toNat : Nat) : Int)) <| (at? (x1 ++ ([991, 992])) (wk .i64 ((x1.length : Int) + 1))).bind fun x16 => if x16 = 992 then (chk (0 ≤ wk .i64 ((x3.length : Int) + 2) ∧ wk .i64 ((x3.length : Int) + 2) ≤ ((x3.length + 2 : Nat) : Int)) <| (ref04_SameInts fu x3 x3).bind fun x17 => if x17 = true then (chk (0 ≤ (x3.length : Int) ∧ (x3.length : Int) < (((wk .i64 ((x3.length : Int) + 2)).toNat : Nat) : Int)) <| (at? (x3 ++ ([991, 992])) (x3.length : Int)).bind fun x18 => if x18 = 991 then (chk (0 ≤ wk .i64 ((x3.length : Int) + 1) ∧ wk .i64 ((x3.length : Int) + 1) < (((wk .i64 ((x3.length : Int) + 2)).toNat : Nat) : Int)) <| (at? (x3 ++ ([991, 992])) (wk .i64 ((x3.length : Int) + 1))).bind fun x19 => some (decide (x19 = 992))) else some false) else some false) else some false) else some false) else some false) else some false) else some false) else some false) else some false) else some false) else some false) else some false) else some false

/-! lattice/latticeref04.dim -/
def ref04_dim (fu : Nat) (x1 : List Int) (x2 : Int) : Option Int :=
  if (x1.length : Int) ≤ x2 then (some 1) else (at? x1 (wk .i64 ((wk .i64 ((x1.length : Int) - 1)) - x2))).bind fun x3 => some x3

/-! lattice/latticeref04.Broadcast -/
def ref04_Broadcast_k1 (fu : Nat) (x5 : List Int) : Option ((List Int) × Int) :=
  (ref04_Size fu x5).bind fun x6 => if x6.2 = 0 then (some (x5, 0)) else some ([], x6.2)
def ref04_Broadcast_k3 (fu : Nat) (nx1 : (List Int) → Int → Option ((List Int) × Int)) (x1 : List Int) (x2 : List Int) (x10 : List Int) (x11 : Int) (x17 : Int) : Option ((List Int) × Int) :=
  chk (0 ≤ wk .i64 ((wk .i64 ((imax (x1.length : Int) (x2.length : Int)) - 1)) - x11) ∧ wk .i64 ((wk .i64 ((imax (x1.length : Int) (x2.length : Int)) - 1)) - x11) < (x10.length : Int)) <| nx1 (x10.set (wk .i64 ((wk .i64 ((imax (x1.length : Int) (x2.length : Int)) - 1)) - x11)).toNat x17) (wk .i64 (x11 + 1))
def ref04_Broadcast_k2 (fu : Nat) (nx1 : (List Int) → Int → Option ((List Int) × Int)) (x1 : List Int) (x2 : List Int) (x10 : List Int) (x11 : Int) (x15 : Int) (x16 : Int) : Option ((List Int) × Int) :=
  if x15 = 1 then (ref04_Broadcast_k3 fu nx1 x1 x2 x10 x11 x16) else ref04_Broadcast_k3 fu nx1 x1 x2 x10 x11 x15
def ref04_Broadcast_L1 (fu : Nat) (x1 : List Int) (x2 : List Int) (nx1 : (List Int) → Int → Option ((List Int) × Int)) (x10 : List Int) (x11 : Int) : Option ((List Int) × Int) :=
  if x11 < (imax (x1.length : Int) (x2.length : Int)) then ((ref04_dim fu x1 x11).bind fun x15 => (ref04_dim fu x2 x11).bind fun x16 => if x15 = x16 then (ref04_Broadcast_k2 fu nx1 x1 x2 x10 x11 x15 x16) else if x15 = 1 then (ref04_Broadcast_k2 fu nx1 x1 x2 x10 x11 x15 x16) else if x16 = 1 then (ref04_Broadcast_k2 fu nx1 x1 x2 x10 x11 x15 x16) else some ([], 3)) else ref04_Broadcast_k1 fu x10
def ref04_Broadcast_W1 (fu : Nat) (x1 : List Int) (x2 : List Int) (x10 : List Int) (x11 : Int) : Option ((List Int) × Int) :=
  cloop (fun next s => ref04_Broadcast_L1 fu x1 x2 (fun x10 x11 => next (x10, x11)) s.1 s.2) fu (x10, x11)
def ref04_Broadcast (fu : Nat) (x1 : List Int) (x2 : List Int) : Option ((List Int) × Int) :=
  (ref04_Size fu x1).bind fun x3 => if x3.2 = 0 then ((ref04_Size fu x2).bind fun x4 => if x4.2 = 0 then (chk (0 ≤ imax (x1.length : Int) (x2.length : Int) ∧ (imax (x1.length : Int) (x2.length : Int)) * 8 ≤ 140737488355328) <| ref04_Broadcast_W1 fu x1 x2 (List.replicate (imax (x1.length : Int) (x2.length : Int)).toNat (0 : Int)) 0) else some ([], x4.2)) else some ([], x3.2)

/-! lattice/latticeref04.From -/
def ref04_From_k3 (fu : Nat) (nx1 : Int → Int → Option (Int × Int)) (x1 : List Int) (x12 : Int) (x13 : Int) (x19 : Int) : Option (Int × Int) :=
  (at? x1 x13).bind fun x20 => nx1 (wk .i64 ((wk .i64 (x12 * x20)) + x19)) (wk .i64 (x13 + 1))
def ref04_From_L1 (fu : Nat) (x1 : List Int) (x2 : List Int) (x7 : (List Int) × Int) (nx1 : Int → Int → Option (Int × Int)) (x12 : Int) (x13 : Int) : Option (Int × Int) :=
  if x13 < (x1.length : Int) then ((at? x7.1 (wk .i64 ((wk .i64 ((x2.length : Int) - (x1.length : Int))) + x13))).bind fun x18 => (at? x1 x13).bind fun x21 => if x21 = 1 then (ref04_From_k3 fu nx1 x1 x12 x13 0) else ref04_From_k3 fu nx1 x1 x12 x13 x18) else some (x12, 0)
def ref04_From_W1 (fu : Nat) (x1 : List Int) (x2 : List Int) (x7 : (List Int) × Int) (x12 : Int) (x13 : Int) : Option (Int × Int) :=
  cloop (fun next s => ref04_From_L1 fu x1 x2 x7 (fun x12 x13 => next (x12, x13)) s.1 s.2) fu (x12, x13)
def ref04_From_k2 (fu : Nat) (x1 : List Int) (x2 : List Int) (x3 : Int) : Option (Int × Int) :=
  (ref04_Index fu x2 x3).bind fun x7 => ref04_From_W1 fu x1 x2 x7 0 0
def ref04_From_k1 (fu : Nat) (x1 : List Int) (x2 : List Int) (x3 : Int) (x5 : Int × Int) : Option (Int × Int) :=
  if x3 < 0 then (some (0, 2)) else if x5.1 ≤ x3 then (some (0, 2)) else ref04_From_k2 fu x1 x2 x3
def ref04_From (fu : Nat) (x1 : List Int) (x2 : List Int) (x3 : Int) : Option (Int × Int) :=
  (ref04_Size fu x1).bind fun x4 => if x4.2 = 0 then ((ref04_Size fu x2).bind fun x5 => if x5.2 = 0 then ((ref04_Broadcast fu x1 x2).bind fun x6 => if x6.2 = 0 then ((ref04_SameInts fu x6.1 x2).bind fun x22 => if x22 = true then (ref04_From_k1 fu x1 x2 x3 x5) else some (0, 3)) else some (0, 3)) else some (0, x5.2)) else some (0, x4.2)

/-! lattice/latticelaw04.ShapeMeets -/
def law04_ShapeMeets (fu : Nat) (x1 : List Int) (x2 : List Int) (x3 : Int) : Option Bool :=
  chk ((x1.length : Int) * 8 ≤ 140737488355328) <| chk ((x1.length + 2 : Int) * 8 ≤ 140737488355328) <| chk (0 ≤ (x1.length : Int) ∧ (x1.length : Int) ≤ ((x1.length + 2 : Nat) : Int)) <| chk ((x2.length : Int) * 8 ≤ 140737488355328) <| chk ((x2.length + 2 : Int) * 8 ≤ 140737488355328) <| chk (0 ≤ (x2.length : Int) ∧ (x2.length : Int) ≤ ((x2.length + 2 : Nat) : Int)) <| (shape_Broadcast fu x1 x2).bind fun x4 => (ref04_Broadcast fu x1 x2).bind fun x5 => (shape_From fu x1 x2 x3).bind fun x6 => (ref04_From fu x1 x2 x3).bind fun x7 => (shape_From fu x1 x5.1 x3).bind fun x8 => (ref04_From fu x1 x5.1 x3).bind fun x9 => (ref04_SameInts fu x4.1 x5.1).bind fun x10 => if x10 = true then (if x4.2 = x5.2 then (if x6.1 = x7.1 then (if x6.2 = x7.2 then (if x8.1 = x9.1 then (if x8.2 = x9.2 then (chk (0 ≤ wk .i64 ((x1.length : Int) + 2) ∧ wk .i64 ((x1.length : Int) + 2) ≤ ((x1.length + 2 : Nat) : Int)) <| (ref04_SameInts fu x1 x1).bind fun x11 => if x11 = true then (chk (0 ≤ (x1.length : Int) ∧ (x1.length : Int) < (((wk .i64 ((x1.length : Int) + 2)).toNat : Nat) : Int)) <| (at? (x1 ++ ([991, 992])) (x1.length : Int)).bind fun x12 => if x12 = 991 then (chk (0 ≤ wk .i64 ((x1.length : Int) + 1) ∧ wk .i64 ((x1.length : Int) + 1) < (((wk .i64 ((x1.length : Int) + 2)).toNat : Nat) : Int)) <| (at? (x1 ++ ([991, 992])) (wk .i64 ((x1.length : Int) + 1))).bind fun x13 => if x13 = 992 then (chk (0 ≤ wk .i64 ((x2.length : Int) + 2) ∧ wk .i64 ((x2.length : Int) + 2) ≤ ((x2.length + 2 : Nat) : Int)) <| (ref04_SameInts fu x2 x2).bind fun x14 => if x14 = true then (chk (0 ≤ (x2.length : Int) ∧ (x2.length : Int) < (((wk .i64 ((x2.length : Int) + 2)).toNat : Nat) : Int)) <| (at? (x2 ++ ([991, 992])) (x2.length : Int)).bind fun x15 => if x15 = 991 then (chk (0 ≤ wk .i64 ((x2.length : Int) + 1) ∧ wk .i64 ((x2.length : Int) + 1) < (((wk .i64 ((x2.length : Int) + 2)).toNat : Nat) : Int)) <| (at? (x2 ++ ([991, 992])) (wk .i64 ((x2.length : Int) + 1))).bind fun x16 => some (decide (x16 = 992))) else some false) else some false) else some false) else some false) else some false) else some false) else some false) else some false) else some false) else some false) else some false

end Go.Av
