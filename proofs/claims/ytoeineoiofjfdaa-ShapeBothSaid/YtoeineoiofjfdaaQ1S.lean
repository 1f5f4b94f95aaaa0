/- Plain functions, as the program has them; data of structs. Made by a program of mine. Conditions: none. -/
import Derived.Test.YtoeineoiofjfdaaMo
set_option linter.unusedVariables false
namespace Go.Av

/-! slices.IndexFunc[[]int,int] -/
def slices_IndexFunc_int_L1 (fu : Nat) (p1 : Int → Option Bool) (x1 : List Int) (nx1 : Int → Option Int) (x4 : Int) : Option Int :=
  if x4 < (x1.length : Int) then ((at? x1 x4).bind fun x7 => (p1 x7).bind fun x8 => if x8 = true then (some x4) else nx1 (wk .i64 (x4 + 1))) else some (-1)
def slices_IndexFunc_int_W1 (fu : Nat) (p1 : Int → Option Bool) (x1 : List Int) (x4 : Int) : Option Int :=
  cloop (fun next s => slices_IndexFunc_int_L1 fu p1 x1 next s) fu x4
def slices_IndexFunc_int (fu : Nat) (x1 : List Int) (p1 : Int → Option Bool) : Option Int :=
  slices_IndexFunc_int_W1 fu p1 x1 0

/-! slices.ContainsFunc[[]int,int] -/
def slices_ContainsFunc_int (fu : Nat) (x1 : List Int) (p1 : Int → Option Bool) : Option Bool :=
  (slices_IndexFunc_int fu x1 p1).bind fun x2 => some (decide (0 ≤ x2))

/-! lattice/shape.Size$1 -/
def shape_Size_1 (fu : Nat) (x1 : Int) : Option Bool :=
  some (decide (x1 < 0))

/-! lattice/shape.Size$2 -/
def shape_Size_2 (fu : Nat) (x1 : Int) : Option Bool :=
  some (decide (4096 < x1))

/-! slices.Index[[]int,int] -/
def slices_Index_int_L1 (fu : Nat) (x1 : List Int) (x2 : Int) (nx1 : Int → Option Int) (x4 : Int) : Option Int :=
  if x4 < (x1.length : Int) then ((at? x1 x4).bind fun x6 => if x2 = x6 then (some x4) else nx1 (wk .i64 (x4 + 1))) else some (-1)
def slices_Index_int_W1 (fu : Nat) (x1 : List Int) (x2 : Int) (x4 : Int) : Option Int :=
  cloop (fun next s => slices_Index_int_L1 fu x1 x2 next s) fu x4
def slices_Index_int (fu : Nat) (x1 : List Int) (x2 : Int) : Option Int :=
  slices_Index_int_W1 fu x1 x2 0

/-! slices.Contains[[]int,int] -/
def slices_Contains_int (fu : Nat) (x1 : List Int) (x2 : Int) : Option Bool :=
  (slices_Index_int fu x1 x2).bind fun x3 => some (decide (0 ≤ x3))

/-! lattice/shape.Size -/
def shape_Size_L1 (fu : Nat) (x1 : List Int) (nx1 : Int → Int → Option (Int × Int)) (x5 : Int) (x6 : Int) : Option (Int × Int) :=
  if x6 < (x1.length : Int) then ((at? x1 x6).bind fun x8 => chk (x5 ≠ 0) <| if (wk .i64 (Int.tdiv 4096 x5)) < x8 then (some (0, 4)) else nx1 (wk .i64 (x5 * x8)) (wk .i64 (x6 + 1))) else some (x5, 0)
def shape_Size_W1 (fu : Nat) (x1 : List Int) (x5 : Int) (x6 : Int) : Option (Int × Int) :=
  cloop (fun next s => shape_Size_L1 fu x1 (fun x5 x6 => next (x5, x6)) s.1 s.2) fu (x5, x6)
def shape_Size_k1 (fu : Nat) (x1 : List Int) : Option (Int × Int) :=
  (slices_Contains_int fu x1 0).bind fun x3 => if x3 = true then (some (0, 0)) else shape_Size_W1 fu x1 1 0
def shape_Size (fu : Nat) (x1 : List Int) : Option (Int × Int) :=
  (slices_ContainsFunc_int fu x1 (fun y0 => shape_Size_1 fu y0)).bind fun x2 => if x2 = true then (some (0, 1)) else if 8 < (x1.length : Int) then (some (0, 4)) else (slices_ContainsFunc_int fu x1 (fun y0 => shape_Size_2 fu y0)).bind fun x9 => if x9 = true then (some (0, 4)) else shape_Size_k1 fu x1

/-! lattice/shape.strides -/
def shape_strides_L1 (fu : Nat) (x1 : List Int) (nx1 : (List Int) → Int → Int → Option (List Int)) (x3 : List Int) (x4 : Int) (x5 : Int) : Option (List Int) :=
  if 0 ≤ x5 then (chk (0 ≤ x5 ∧ x5 < (x3.length : Int)) <| (at? x1 x5).bind fun x7 => nx1 (x3.set x5.toNat x4) (wk .i64 (x4 * x7)) (wk .i64 (x5 - 1))) else some x3
def shape_strides_W1 (fu : Nat) (x1 : List Int) (x3 : List Int) (x4 : Int) (x5 : Int) : Option (List Int) :=
  cloop (fun next s => shape_strides_L1 fu x1 (fun x3 x4 x5 => next (x3, x4, x5)) s.1 s.2.1 s.2.2) fu (x3, x4, x5)
def shape_strides (fu : Nat) (x1 : List Int) : Option (List Int) :=
  chk (0 ≤ (x1.length : Int) ∧ (x1.length : Int) * 8 ≤ 140737488355328) <| shape_strides_W1 fu x1 (List.replicate (x1.length : Int).toNat (0 : Int)) 1 (wk .i64 ((x1.length : Int) - 1))

/-! lattice/shape.Strides -/
def shape_Strides (fu : Nat) (x1 : List Int) : Option ((List Int) × Int) :=
  (shape_Size fu x1).bind fun x2 => if x2.2 = 0 then ((shape_strides fu x1).bind fun x3 => some (x3, 0)) else some ([], x2.2)

/-! lattice/shape.Index -/
def shape_Index_L1 (fu : Nat) (x4 : List Int) (nx1 : (List Int) → Int → Int → Option ((List Int) × Int)) (x6 : List Int) (x7 : Int) (x8 : Int) : Option ((List Int) × Int) :=
  if x8 < (x4.length : Int) then ((at? x4 x8).bind fun x10 => chk (x10 ≠ 0) <| chk (0 ≤ x8 ∧ x8 < (x6.length : Int)) <| nx1 (x6.set x8.toNat (wk .i64 (Int.tdiv x7 x10))) (Int.tmod x7 x10) (wk .i64 (x8 + 1))) else some (x6, 0)
def shape_Index_W1 (fu : Nat) (x4 : List Int) (x6 : List Int) (x7 : Int) (x8 : Int) : Option ((List Int) × Int) :=
  cloop (fun next s => shape_Index_L1 fu x4 (fun x6 x7 x8 => next (x6, x7, x8)) s.1 s.2.1 s.2.2) fu (x6, x7, x8)
def shape_Index_k1 (fu : Nat) (x1 : List Int) (x2 : Int) : Option ((List Int) × Int) :=
  chk (0 ≤ (x1.length : Int) ∧ (x1.length : Int) * 8 ≤ 140737488355328) <| (shape_strides fu x1).bind fun x4 => shape_Index_W1 fu x4 (List.replicate (x1.length : Int).toNat (0 : Int)) x2 0
def shape_Index (fu : Nat) (x1 : List Int) (x2 : Int) : Option ((List Int) × Int) :=
  (shape_Size fu x1).bind fun x3 => if x3.2 = 0 then (if x2 < 0 then (some ([], 2)) else if x3.1 ≤ x2 then (some ([], 2)) else shape_Index_k1 fu x1 x2) else some ([], x3.2)

/-! lattice/shape.Offset -/
def shape_Offset_k1 (fu : Nat) (x4 : List Int) (x5 : Int) : Option (Int × Int) :=
  if x5 < 0 then (some (0, 2)) else some (x5, 0)
def shape_Offset_k2 (fu : Nat) (nx1 : Int → Int → Option (Int × Int)) (x2 : List Int) (x11 : Int) (x12 : Int) (x17 : Int) : Option (Int × Int) :=
  (at? x2 x12).bind fun x18 => nx1 (wk .i64 (x11 + (wk .i64 (x18 * x17)))) (wk .i64 (x12 + 1))
def shape_Offset_L1 (fu : Nat) (x1 : List Int) (x2 : List Int) (x6 : List Int) (nx1 : Int → Int → Option (Int × Int)) (x11 : Int) (x12 : Int) : Option (Int × Int) :=
  if x12 < (x6.length : Int) then ((at? x6 x12).bind fun x17 => (at? x2 x12).bind fun x19 => if x19 < 0 then (shape_Offset_k1 fu x6 (-1)) else (at? x1 x12).bind fun x20 => if x20 ≤ x19 then (shape_Offset_k1 fu x6 (-1)) else shape_Offset_k2 fu nx1 x2 x11 x12 x17) else shape_Offset_k1 fu x6 x11
def shape_Offset_W1 (fu : Nat) (x1 : List Int) (x2 : List Int) (x6 : List Int) (x11 : Int) (x12 : Int) : Option (Int × Int) :=
  cloop (fun next s => shape_Offset_L1 fu x1 x2 x6 (fun x11 x12 => next (x11, x12)) s.1 s.2) fu (x11, x12)
def shape_Offset (fu : Nat) (x1 : List Int) (x2 : List Int) : Option (Int × Int) :=
  (shape_Size fu x1).bind fun x3 => if x3.2 = 0 then (if (x2.length : Int) = (x1.length : Int) then ((shape_strides fu x1).bind fun x6 => shape_Offset_W1 fu x1 x2 x6 0 0) else some (0, 2)) else some (0, x3.2)

/-! slices.Clone[[]int,int] -/
def slices_Clone_int (fu : Nat) (x1 : List Int) : Option (List Int) :=
  chk ((x1.length : Int) * 8 ≤ 140737488355328) <| some x1

/-! lattice/shape.Broadcast -/
def shape_Broadcast_k3 (fu : Nat) (x7 : List Int) : Option ((List Int) × Int) :=
  (shape_Size fu x7).bind fun x8 => if x8.2 = 0 then (some (x7, 0)) else some ([], x8.2)
def shape_Broadcast_L1 (fu : Nat) (x4 : List Int) (x5 : List Int) (nx1 : (List Int) → Int → Option ((List Int) × Int)) (x11 : List Int) (x12 : Int) : Option ((List Int) × Int) :=
  if x12 < (x5.length : Int) then ((at? x5 x12).bind fun x15 => (at? x11 (wk .i64 ((wk .i64 ((x4.length : Int) - (x5.length : Int))) + x12))).bind fun x16 => if x16 = 1 then (chk (0 ≤ wk .i64 ((wk .i64 ((x4.length : Int) - (x5.length : Int))) + x12) ∧ wk .i64 ((wk .i64 ((x4.length : Int) - (x5.length : Int))) + x12) < (x11.length : Int)) <| nx1 (x11.set (wk .i64 ((wk .i64 ((x4.length : Int) - (x5.length : Int))) + x12)).toNat x15) (wk .i64 (x12 + 1))) else if x15 = 1 then (nx1 x11 (wk .i64 (x12 + 1))) else if x15 = x16 then (nx1 x11 (wk .i64 (x12 + 1))) else some ([], 3)) else shape_Broadcast_k3 fu x11
def shape_Broadcast_W1 (fu : Nat) (x4 : List Int) (x5 : List Int) (x11 : List Int) (x12 : Int) : Option ((List Int) × Int) :=
  cloop (fun next s => shape_Broadcast_L1 fu x4 x5 (fun x11 x12 => next (x11, x12)) s.1 s.2) fu (x11, x12)
def shape_Broadcast_k2 (fu : Nat) (x4 : List Int) (x5 : List Int) : Option ((List Int) × Int) :=
  (slices_Clone_int fu x4).bind fun x6 => shape_Broadcast_W1 fu x4 x5 x6 0
def shape_Broadcast_k1 (fu : Nat) (x1 : List Int) (x2 : List Int) (x3 : List (List Int)) : Option ((List Int) × Int) :=
  if (x1.length : Int) < (x2.length : Int) then (shape_Broadcast_k2 fu x2 x1) else shape_Broadcast_k2 fu x1 x2
def shape_Broadcast_L2 (fu : Nat) (x1 : List Int) (x2 : List Int) (nx2 : (List (List Int)) → Int → Option ((List Int) × Int)) (x19 : List (List Int)) (x20 : Int) : Option ((List Int) × Int) :=
  if x20 < ((2 : Nat) : Int) then ((at? x19 x20).bind fun x23 => (shape_Size fu x23).bind fun x24 => if x24.2 = 0 then (nx2 x19 (wk .i64 (x20 + 1))) else some ([], x24.2)) else shape_Broadcast_k1 fu x1 x2 x19
def shape_Broadcast_W2 (fu : Nat) (x1 : List Int) (x2 : List Int) (x19 : List (List Int)) (x20 : Int) : Option ((List Int) × Int) :=
  cloop (fun next s => shape_Broadcast_L2 fu x1 x2 (fun x19 x20 => next (x19, x20)) s.1 s.2) fu (x19, x20)
def shape_Broadcast (fu : Nat) (x1 : List Int) (x2 : List Int) : Option ((List Int) × Int) :=
  shape_Broadcast_W2 fu x1 x2 ([x1, x2]) 0

/-! slices.Equal[[]int,int] -/
def slices_Equal_int_L1 (fu : Nat) (x1 : List Int) (x2 : List Int) (nx1 : Int → Option Bool) (x5 : Int) : Option Bool :=
  if x5 < (x1.length : Int) then ((at? x1 x5).bind fun x8 => (at? x2 x5).bind fun x9 => if x8 = x9 then (nx1 (wk .i64 (x5 + 1))) else some false) else some true
def slices_Equal_int_W1 (fu : Nat) (x1 : List Int) (x2 : List Int) (x5 : Int) : Option Bool :=
  cloop (fun next s => slices_Equal_int_L1 fu x1 x2 next s) fu x5
def slices_Equal_int (fu : Nat) (x1 : List Int) (x2 : List Int) : Option Bool :=
  if (x1.length : Int) = (x2.length : Int) then (slices_Equal_int_W1 fu x1 x2 0) else some false

/-! lattice/shape.From -/
def shape_From_L1 (fu : Nat) (x1 : List Int) (x2 : List Int) (x7 : (List Int) × Int) (x8 : List Int) (nx1 : Int → Int → Option (Int × Int)) (x12 : Int) (x13 : Int) : Option (Int × Int) :=
  if x13 < (x8.length : Int) then ((at? x8 x13).bind fun x17 => (at? x1 x13).bind fun x18 => if x18 = 1 then (nx1 x12 (wk .i64 (x13 + 1))) else (at? (subN x7.1 (wk .i64 ((x2.length : Int) - (x1.length : Int))).toNat x7.1.length) x13).bind fun x19 => nx1 (wk .i64 (x12 + (wk .i64 (x19 * x17)))) (wk .i64 (x13 + 1))) else some (x12, 0)
def shape_From_W1 (fu : Nat) (x1 : List Int) (x2 : List Int) (x7 : (List Int) × Int) (x8 : List Int) (x12 : Int) (x13 : Int) : Option (Int × Int) :=
  cloop (fun next s => shape_From_L1 fu x1 x2 x7 x8 (fun x12 x13 => next (x12, x13)) s.1 s.2) fu (x12, x13)
def shape_From_k1 (fu : Nat) (x1 : List Int) (x2 : List Int) (x3 : Int) : Option (Int × Int) :=
  (shape_Index fu x2 x3).bind fun x7 => if x7.2 = 0 then (chk (0 ≤ wk .i64 ((x2.length : Int) - (x1.length : Int)) ∧ wk .i64 ((x2.length : Int) - (x1.length : Int)) ≤ (x7.1.length : Int)) <| (shape_strides fu x1).bind fun x8 => shape_From_W1 fu x1 x2 x7 x8 0 0) else some (0, x7.2)
def shape_From (fu : Nat) (x1 : List Int) (x2 : List Int) (x3 : Int) : Option (Int × Int) :=
  (shape_Size fu x1).bind fun x4 => if x4.2 = 0 then ((shape_Size fu x2).bind fun x5 => if x5.2 = 0 then ((shape_Broadcast fu x1 x2).bind fun x6 => if x6.2 = 0 then ((slices_Equal_int fu x6.1 x2).bind fun x20 => if x20 = true then (shape_From_k1 fu x1 x2 x3) else some (0, 3)) else some (0, 3)) else some (0, x5.2)) else some (0, x4.2)

/-! lattice/shape.Axis -/
def shape_Axis (fu : Nat) (x1 : Int) (x2 : Int) : Option (Int × Int) :=
  if x2 < 0 then (some (0, 2)) else if 0 ≤ x1 then (if x1 < x2 then (some (x1, 0)) else some (0, 2)) else if (wk .i64 (0 - x2)) ≤ x1 then (some (wk .i64 (x2 + x1), 0)) else some (0, 2)

/-! lattice/shape.Axes -/
def shape_Axes_k2 (fu : Nat) (x3 : List Bool) (x4 : Bool) : Option ((List Bool) × Int) :=
  if x4 = true then (some ([], 1)) else some (x3, 0)
def shape_Axes_L1 (fu : Nat) (x1 : List Int) (x2 : Int) (nx1 : (List Bool) → Bool → Int → Option ((List Bool) × Int)) (x8 : List Bool) (x9 : Bool) (x10 : Int) : Option ((List Bool) × Int) :=
  if x10 < (x1.length : Int) then ((at? x1 x10).bind fun x14 => (shape_Axis fu x14 x2).bind fun x15 => if x15.2 = 0 then (if x9 = true then (chk (0 ≤ x15.1 ∧ x15.1 < (x8.length : Int)) <| nx1 (x8.set x15.1.toNat true) true (wk .i64 (x10 + 1))) else (at? x8 x15.1).bind fun x16 => chk (0 ≤ x15.1 ∧ x15.1 < (x8.length : Int)) <| nx1 (x8.set x15.1.toNat true) x16 (wk .i64 (x10 + 1))) else some ([], x15.2)) else shape_Axes_k2 fu x8 x9
def shape_Axes_W1 (fu : Nat) (x1 : List Int) (x2 : Int) (x8 : List Bool) (x9 : Bool) (x10 : Int) : Option ((List Bool) × Int) :=
  cloop (fun next s => shape_Axes_L1 fu x1 x2 (fun x8 x9 x10 => next (x8, x9, x10)) s.1 s.2.1 s.2.2) fu (x8, x9, x10)
def shape_Axes_k1 (fu : Nat) (x1 : List Int) (x2 : Int) : Option ((List Bool) × Int) :=
  chk (0 ≤ x2 ∧ x2 * 1 ≤ 140737488355328) <| shape_Axes_W1 fu x1 x2 (List.replicate x2.toNat (false : Bool)) false 0
def shape_Axes (fu : Nat) (x1 : List Int) (x2 : Int) : Option ((List Bool) × Int) :=
  if x2 < 0 then (some ([], 1)) else if 8 < x2 then (some ([], 1)) else shape_Axes_k1 fu x1 x2

/-! lattice/latticeref04.SameInts -/
def ref04_SameInts_L1 (fu : Nat) (x1 : List Int) (x2 : List Int) (nx1 : Int → Option Bool) (x5 : Int) : Option Bool :=
  if x5 < (x1.length : Int) then ((at? x1 x5).bind fun x8 => (at? x2 x5).bind fun x9 => if x8 = x9 then (nx1 (wk .i64 (x5 + 1))) else some false) else some true
def ref04_SameInts_W1 (fu : Nat) (x1 : List Int) (x2 : List Int) (x5 : Int) : Option Bool :=
  cloop (fun next s => ref04_SameInts_L1 fu x1 x2 next s) fu x5
def ref04_SameInts (fu : Nat) (x1 : List Int) (x2 : List Int) : Option Bool :=
  if (x1.length : Int) = (x2.length : Int) then (ref04_SameInts_W1 fu x1 x2 0) else some false

/-! lattice/latticelaw04.awake -/
def law04_awake_k2 (fu : Nat) (x1 : Int × Int) (x4 : Int × Int) (x6 : Int × Int) (x7 : Int × Int) (x10 : Bool) (x11 : Bool) : Option Bool :=
  if x10 = true then (if x11 = true then (if x1.1 = 6 then (if x4.1 = 4 then (if x6.1 = 1 then (some (decide (x7.1 = 2))) else some false) else some false) else some false) else some false) else some false
def law04_awake_k1 (fu : Nat) (x1 : Int × Int) (x2 : (List Int) × Int) (x3 : (List Int) × Int) (x4 : Int × Int) (x5 : (List Int) × Int) (x6 : Int × Int) (x7 : Int × Int) (x8 : (List Bool) × Int) (x10 : Bool) : Option Bool :=
  (ref04_SameInts fu x2.1 ([12, 4, 1])).bind fun x12 => if x12 = true then ((ref04_SameInts fu x3.1 ([1, 1])).bind fun x13 => if x13 = true then ((ref04_SameInts fu x5.1 ([2, 3, 4])).bind fun x14 => if x14 = true then (if ((x8.1.length : Nat) : Int) = 3 then ((at? x8.1 0).bind fun x15 => if x15 = true then ((at? x8.1 1).bind fun x16 => if x16 = true then (law04_awake_k2 fu x1 x4 x6 x7 x10 false) else (at? x8.1 2).bind fun x17 => law04_awake_k2 fu x1 x4 x6 x7 x10 x17) else law04_awake_k2 fu x1 x4 x6 x7 x10 false) else law04_awake_k2 fu x1 x4 x6 x7 x10 false) else law04_awake_k2 fu x1 x4 x6 x7 x10 false) else law04_awake_k2 fu x1 x4 x6 x7 x10 false) else law04_awake_k2 fu x1 x4 x6 x7 x10 false
def law04_awake (fu : Nat) : Option Bool :=
  (shape_Size fu ([2, 3])).bind fun x1 => (shape_Strides fu ([2, 3, 4])).bind fun x2 => (shape_Index fu ([2, 3]) 4).bind fun x3 => (shape_Offset fu ([2, 3]) ([1, 1])).bind fun x4 => (shape_Broadcast fu ([3, 1]) ([2, 1, 4])).bind fun x5 => (shape_From fu ([3, 1]) ([2, 3, 4]) 17).bind fun x6 => (shape_Axis fu (-1) 3).bind fun x7 => (shape_Axes fu ([0, -1]) 3).bind fun x8 => (shape_Size fu ([64, 65])).bind fun x9 => if x1.2 = 0 then (if x2.2 = 0 then (if x3.2 = 0 then (if x4.2 = 0 then (if x5.2 = 0 then (if x6.2 = 0 then (if x7.2 = 0 then (if x8.2 = 0 then (law04_awake_k1 fu x1 x2 x3 x4 x5 x6 x7 x8 (decide (x9.2 = 4))) else law04_awake_k1 fu x1 x2 x3 x4 x5 x6 x7 x8 false) else law04_awake_k1 fu x1 x2 x3 x4 x5 x6 x7 x8 false) else law04_awake_k1 fu x1 x2 x3 x4 x5 x6 x7 x8 false) else law04_awake_k1 fu x1 x2 x3 x4 x5 x6 x7 x8 false) else law04_awake_k1 fu x1 x2 x3 x4 x5 x6 x7 x8 false) else law04_awake_k1 fu x1 x2 x3 x4 x5 x6 x7 x8 false) else law04_awake_k1 fu x1 x2 x3 x4 x5 x6 x7 x8 false) else law04_awake_k1 fu x1 x2 x3 x4 x5 x6 x7 x8 false

/-! lattice/latticelaw04.ShapeBack -/
def law04_ShapeBack_k2 (fu : Nat) (x5 : (List Int) × Int) : Option Bool :=
  some (decide (x5.2 = 2))
def law04_ShapeBack_k4 (fu : Nat) (x4 : Int) (x8 : Int) : Option Bool :=
  some (decide (x8 = x4))
def law04_ShapeBack_k5 (fu : Nat) (nx1 : Int → Int → Option Bool) (x5 : (List Int) × Int) (x6 : (List Int) × Int) (x13 : Int) (x14 : Int) : Option Bool :=
  (at? x5.1 x14).bind fun x19 => (at? x6.1 x14).bind fun x20 => nx1 (wk .i64 (x13 + (wk .i64 (x19 * x20)))) (wk .i64 (x14 + 1))
def law04_ShapeBack_L1 (fu : Nat) (x1 : List Int) (x4 : Int) (x5 : (List Int) × Int) (x6 : (List Int) × Int) (nx1 : Int → Int → Option Bool) (x13 : Int) (x14 : Int) : Option Bool :=
  if x14 < ((x5.1.length : Nat) : Int) then ((at? x5.1 x14).bind fun x21 => if x21 < 0 then (some false) else (at? x1 x14).bind fun x22 => if x22 ≤ x21 then (some false) else law04_ShapeBack_k5 fu nx1 x5 x6 x13 x14) else law04_ShapeBack_k4 fu x4 x13
def law04_ShapeBack_W1 (fu : Nat) (x1 : List Int) (x4 : Int) (x5 : (List Int) × Int) (x6 : (List Int) × Int) (x13 : Int) (x14 : Int) : Option Bool :=
  cloop (fun next s => law04_ShapeBack_L1 fu x1 x4 x5 x6 (fun x13 x14 => next (x13, x14)) s.1 s.2) fu (x13, x14)
def law04_ShapeBack_k3 (fu : Nat) (x1 : List Int) (x4 : Int) (x5 : (List Int) × Int) (x6 : (List Int) × Int) : Option Bool :=
  law04_ShapeBack_W1 fu x1 x4 x5 x6 0 0
def law04_ShapeBack_k1 (fu : Nat) (x1 : List Int) (x3 : Int × Int) (x4 : Int) : Option Bool :=
  (shape_Index fu x1 x4).bind fun x5 => if x3.1 = 0 then (law04_ShapeBack_k2 fu x5) else (shape_Strides fu x1).bind fun x6 => (shape_Offset fu x1 x5.1).bind fun x7 => if x5.2 = 0 then (if x6.2 = 0 then (if x7.2 = 0 then (if x7.1 = x4 then (if ((x5.1.length : Nat) : Int) = (x1.length : Int) then (if ((x6.1.length : Nat) : Int) = (x1.length : Int) then (law04_ShapeBack_k3 fu x1 x4 x5 x6) else some false) else some false) else some false) else some false) else some false) else some false
def law04_ShapeBack_k6 (fu : Nat) (x3 : Int × Int) : Option Bool :=
  some (decide (x3.1 = 0))
def law04_ShapeBack (fu : Nat) (x1 : List Int) (x2 : Int) : Option Bool :=
  (shape_Size fu x1).bind fun x3 => if x3.2 = 0 then (if 0 < x3.1 then (if x2 < 0 then (chk (x3.1 ≠ 0) <| law04_ShapeBack_k1 fu x1 x3 (Int.tmod (band .i64 x2 65535) x3.1)) else if x3.1 ≤ x2 then (chk (x3.1 ≠ 0) <| law04_ShapeBack_k1 fu x1 x3 (Int.tmod (band .i64 x2 65535) x3.1)) else law04_ShapeBack_k1 fu x1 x3 x2) else law04_ShapeBack_k1 fu x1 x3 x2) else law04_ShapeBack_k6 fu x3

/-! lattice/latticelaw04.ShapeBoth -/
def law04_ShapeBoth_k1 (fu : Nat) (x1 : List Int) (x3 : (List Int) × Int) (x8 : Int × Int) : Option Bool :=
  if x8.1 = 0 then (some true) else (shape_From fu x1 x3.1 (wk .i64 (x8.1 - 1))).bind fun x9 => (shape_From fu x1 x3.1 0).bind fun x10 => (shape_Size fu x1).bind fun x11 => if x9.2 = 0 then (if x10.2 = 0 then (if x11.2 = 0 then (if x10.1 = 0 then (some (decide (x9.1 = (wk .i64 (x11.1 - 1))))) else some false) else some false) else some false) else some false
def law04_ShapeBoth_k2 (fu : Nat) (x16 : Bool) : Option Bool :=
  some x16
def law04_ShapeBoth (fu : Nat) (x1 : List Int) (x2 : List Int) : Option Bool :=
  (shape_Broadcast fu x1 x2).bind fun x3 => (shape_Broadcast fu x2 x1).bind fun x4 => if x3.2 = 0 then ((shape_Broadcast fu x3.1 x1).bind fun x5 => (shape_Broadcast fu x2 x3.1).bind fun x6 => (shape_Broadcast fu x3.1 x3.1).bind fun x7 => (shape_Size fu x3.1).bind fun x8 => if x4.2 = 0 then (if x5.2 = 0 then (if x6.2 = 0 then (if x7.2 = 0 then (if x8.2 = 0 then ((ref04_SameInts fu x3.1 x4.1).bind fun x12 => if x12 = true then ((ref04_SameInts fu x3.1 x5.1).bind fun x13 => if x13 = true then ((ref04_SameInts fu x3.1 x6.1).bind fun x14 => if x14 = true then ((ref04_SameInts fu x3.1 x7.1).bind fun x15 => if x15 = true then (law04_ShapeBoth_k1 fu x1 x3 x8) else some false) else some false) else some false) else some false) else some false) else some false) else some false) else some false) else some false) else if x4.2 = 0 then (law04_ShapeBoth_k2 fu false) else if ((x3.1.length : Nat) : Int) = 0 then (law04_ShapeBoth_k2 fu (decide (((x4.1.length : Nat) : Int) = 0))) else law04_ShapeBoth_k2 fu false

end Go.Av
