/- Plain functions, as the program has them; data of structs. Made by a program of mine. Conditions: none. -/
import Derived.Test.YtoeineoiofjfdaaMi
set_option linter.unusedVariables false
namespace Go.Av

structure T_Tensor where
  fType : Int
  fDims : List Int
  fF : List Int
  fI : List Int
  fB : List Bool
def c_T_Tensor (x : T_Tensor) : List AV := [.v (.int .i64 x.fType), .arr x.fDims.length (lm (ik .i64) x.fDims), .arr x.fF.length (lm (ik .u32) x.fF), .arr x.fI.length (lm (ik .i64) x.fI), .arr x.fB.length (lm (bk) x.fB)]
theorem c_T_Tensor_len : ∀ x, (c_T_Tensor x).length = 5 := fun _ => rfl
theorem c_T_Tensor_one : ∀ x, (c_T_Tensor x).all AV.one = true := fun _ => rfl

/-! lattice/tens.Width -/
def tens_Width (fu : Nat) (x1 : Int) : Option Int :=
  if x1 = 1 then (some 4) else if x1 = 7 then (some 8) else if x1 = 9 then (some 1) else some 0

/-! lattice/tens.known -/
def tens_known (fu : Nat) (x1 : Int) : Option Bool :=
  (tens_Width fu x1).bind fun x2 => some (decide (0 < x2))

/-! slices.IndexFunc[[]int,int] -/
def slices_IndexFunc_int_L1 (fu : Nat) (p1 : Int → Option Bool) (x1 : List Int) (nx1 : Int → Option Int) (x4 : Int) : Option Int :=
  if x4 < (x1.length : Int) then ((at? x1 x4).bind fun x7 => (p1 x7).bind fun x8 => if x8 = true then (some x4) else nx1 (wk .i64 (x4 + 1))) else some (-1)
def slices_IndexFunc_int_W1 (fu : Nat) (p1 : Int → Option Bool) (x1 : List Int) (x4 : Int) : Option Int :=
  cloop (fun next s => slices_IndexFunc_int_L1 fu p1 x1 next s) fu x4
def slices_IndexFunc_int (fu : Nat) (x1 : List Int) (p1 : Int → Option Bool) : Option Int :=
  slices_IndexFunc_int_W1 fu p1 x1 0

/-! slices.ContainsFunc[[]int,int] -/
def slices_ContainsFunc_int (fu : Nat) (x1 : List Int) (p1 : Int → Option Bool) : Option Bool :=
  (slices_IndexFunc_int fu x1 p1).bind fun x2 => some (decide (0 ≤ x2))

/-! lattice/shape.Size$1 -/
def shape_Size_1 (fu : Nat) (x1 : Int) : Option Bool :=
  some (decide (x1 < 0))

/-! lattice/shape.Size$2 -/
def shape_Size_2 (fu : Nat) (x1 : Int) : Option Bool :=
  some (decide (4096 < x1))

/-! slices.Index[[]int,int] -/
def slices_Index_int_L1 (fu : Nat) (x1 : List Int) (x2 : Int) (nx1 : Int → Option Int) (x4 : Int) : Option Int :=
  if x4 < (x1.length : Int) then ((at? x1 x4).bind fun x6 => if x2 = x6 then (some x4) else nx1 (wk .i64 (x4 + 1))) else some (-1)
def slices_Index_int_W1 (fu : Nat) (x1 : List Int) (x2 : Int) (x4 : Int) : Option Int :=
  cloop (fun next s => slices_Index_int_L1 fu x1 x2 next s) fu x4
def slices_Index_int (fu : Nat) (x1 : List Int) (x2 : Int) : Option Int :=
  slices_Index_int_W1 fu x1 x2 0

/-! slices.Contains[[]int,int] -/
def slices_Contains_int (fu : Nat) (x1 : List Int) (x2 : Int) : Option Bool :=
  (slices_Index_int fu x1 x2).bind fun x3 => some (decide (0 ≤ x3))

/-! lattice/shape.Size -/
def shape_Size_L1 (fu : Nat) (x1 : List Int) (nx1 : Int → Int → Option (Int × Int)) (x5 : Int) (x6 : Int) : Option (Int × Int) :=
  if x6 < (x1.length : Int) then ((at? x1 x6).bind fun x8 => chk (x5 ≠ 0) <| if (wk .i64 (Int.tdiv 4096 x5)) < x8 then (some (0, 4)) else nx1 (wk .i64 (x5 * x8)) (wk .i64 (x6 + 1))) else some (x5, 0)
def shape_Size_W1 (fu : Nat) (x1 : List Int) (x5 : Int) (x6 : Int) : Option (Int × Int) :=
  cloop (fun next s => shape_Size_L1 fu x1 (fun x5 x6 => next (x5, x6)) s.1 s.2) fu (x5, x6)
def shape_Size_k1 (fu : Nat) (x1 : List Int) : Option (Int × Int) :=
  (slices_Contains_int fu x1 0).bind fun x3 => if x3 = true then (some (0, 0)) else shape_Size_W1 fu x1 1 0
def shape_Size (fu : Nat) (x1 : List Int) : Option (Int × Int) :=
  (slices_ContainsFunc_int fu x1 (fun y0 => shape_Size_1 fu y0)).bind fun x2 => if x2 = true then (some (0, 1)) else if 8 < (x1.length : Int) then (some (0, 4)) else (slices_ContainsFunc_int fu x1 (fun y0 => shape_Size_2 fu y0)).bind fun x9 => if x9 = true then (some (0, 4)) else shape_Size_k1 fu x1

/-! lattice/tens.Check -/
def tens_Check_k1 (fu : Nat) (x1 : T_Tensor) (x3 : Int × Int) (x4 : Int) : Option Int :=
  if x4 = x3.1 then (if (wk .i64 ((wk .i64 ((x1.fF.length : Int) + (x1.fI.length : Int))) + (x1.fB.length : Int))) = x3.1 then (some 0) else some 3) else some 3
def tens_Check (fu : Nat) (x1 : T_Tensor) : Option Int :=
  (tens_known fu x1.fType).bind fun x2 => if x2 = true then ((shape_Size fu x1.fDims).bind fun x3 => if x3.2 = 0 then (if x1.fType = 7 then (tens_Check_k1 fu x1 x3 (x1.fI.length : Int)) else if x1.fType = 9 then (tens_Check_k1 fu x1 x3 (x1.fB.length : Int)) else tens_Check_k1 fu x1 x3 (x1.fF.length : Int)) else some x3.2) else some 5

/-! slices.Clone[[]int,int] -/
def slices_Clone_int (fu : Nat) (x1 : List Int) : Option (List Int) :=
  chk ((x1.length : Int) * 8 ≤ 140737488355328) <| some x1

/-! lattice/tens.New -/
def tens_New (fu : Nat) (x1 : Int) (x2 : List Int) : Option (T_Tensor × Int) :=
  (tens_known fu x1).bind fun x3 => if x3 = true then ((shape_Size fu x2).bind fun x4 => if x4.2 = 0 then ((slices_Clone_int fu x2).bind fun x5 => if x1 = 1 then (chk (0 ≤ x4.1 ∧ x4.1 * 4 ≤ 140737488355328) <| some (T_Tensor.mk x1 x5 (List.replicate x4.1.toNat (0 : Int)) ([]) ([]), 0)) else if x1 = 7 then (chk (0 ≤ x4.1 ∧ x4.1 * 8 ≤ 140737488355328) <| some (T_Tensor.mk x1 x5 ([]) (List.replicate x4.1.toNat (0 : Int)) ([]), 0)) else chk (0 ≤ x4.1 ∧ x4.1 * 1 ≤ 140737488355328) <| some (T_Tensor.mk x1 x5 ([]) ([]) (List.replicate x4.1.toNat (false : Bool)), 0)) else some (T_Tensor.mk 0 ([]) ([]) ([]) ([]), x4.2)) else some (T_Tensor.mk 0 ([]) ([]) ([]) ([]), 5)

/-! lattice/tens.Pick$1 -/
def tens_Pick_1 (fu : Nat) (x1 : Int) (x2 : Int) : Option Bool :=
  if x1 < (-1) then (some true) else some (decide (x2 ≤ x1))

/-! lattice/tens.Pick -/
def tens_Pick_c3 (fu : Nat) (x5 : T_Tensor × Int) (x7 : List Int) (x8 : List Int) (x9 : List Bool) : Option (T_Tensor × Int) :=
  chk (x5.1.fB.length = x9.length) <| some (T_Tensor.mk x5.1.fType x5.1.fDims x7 x8 x9, 0)
def tens_Pick_L1 (fu : Nat) (x1 : T_Tensor) (x3 : List Int) (x5 : T_Tensor × Int) (x7 : List Int) (x8 : List Int) (nx1 : (List Bool) → Int → Option (T_Tensor × Int)) (x12 : List Bool) (x13 : Int) : Option (T_Tensor × Int) :=
  if x13 < (x3.length : Int) then ((at? x3 x13).bind fun x16 => if 0 ≤ x16 then ((at? x1.fB x16).bind fun x17 => chk (0 ≤ x13 ∧ x13 < ((x5.1.fB.length : Nat) : Int)) <| chk (0 ≤ x13 ∧ x13 < (x12.length : Int)) <| nx1 (x12.set x13.toNat x17) (wk .i64 (x13 + 1))) else nx1 x12 (wk .i64 (x13 + 1))) else tens_Pick_c3 fu x5 x7 x8 x12
def tens_Pick_W1 (fu : Nat) (x1 : T_Tensor) (x3 : List Int) (x5 : T_Tensor × Int) (x7 : List Int) (x8 : List Int) (x12 : List Bool) (x13 : Int) : Option (T_Tensor × Int) :=
  cloop (fun next s => tens_Pick_L1 fu x1 x3 x5 x7 x8 (fun x12 x13 => next (x12, x13)) s.1 s.2) fu (x12, x13)
def tens_Pick_c2 (fu : Nat) (x1 : T_Tensor) (x3 : List Int) (x5 : T_Tensor × Int) (x7 : List Int) (x8 : List Int) : Option (T_Tensor × Int) :=
  chk (x5.1.fI.length = x8.length) <| if ((x5.1.fB.length : Nat) : Int) = 0 then (tens_Pick_c3 fu x5 x7 x8 x5.1.fB) else tens_Pick_W1 fu x1 x3 x5 x7 x8 x5.1.fB 0
def tens_Pick_L2 (fu : Nat) (x1 : T_Tensor) (x3 : List Int) (x5 : T_Tensor × Int) (x7 : List Int) (nx2 : (List Int) → Int → Option (T_Tensor × Int)) (x20 : List Int) (x21 : Int) : Option (T_Tensor × Int) :=
  if x21 < (x3.length : Int) then ((at? x3 x21).bind fun x24 => if 0 ≤ x24 then ((at? x1.fI x24).bind fun x25 => chk (0 ≤ x21 ∧ x21 < ((x5.1.fI.length : Nat) : Int)) <| chk (0 ≤ x21 ∧ x21 < (x20.length : Int)) <| nx2 (x20.set x21.toNat x25) (wk .i64 (x21 + 1))) else nx2 x20 (wk .i64 (x21 + 1))) else tens_Pick_c2 fu x1 x3 x5 x7 x20
def tens_Pick_W2 (fu : Nat) (x1 : T_Tensor) (x3 : List Int) (x5 : T_Tensor × Int) (x7 : List Int) (x20 : List Int) (x21 : Int) : Option (T_Tensor × Int) :=
  cloop (fun next s => tens_Pick_L2 fu x1 x3 x5 x7 (fun x20 x21 => next (x20, x21)) s.1 s.2) fu (x20, x21)
def tens_Pick_c1 (fu : Nat) (x1 : T_Tensor) (x3 : List Int) (x5 : T_Tensor × Int) (x7 : List Int) : Option (T_Tensor × Int) :=
  chk (x5.1.fF.length = x7.length) <| if ((x5.1.fI.length : Nat) : Int) = 0 then (tens_Pick_c2 fu x1 x3 x5 x7 x5.1.fI) else tens_Pick_W2 fu x1 x3 x5 x7 x5.1.fI 0
def tens_Pick_L3 (fu : Nat) (x1 : T_Tensor) (x3 : List Int) (x5 : T_Tensor × Int) (nx3 : (List Int) → Int → Option (T_Tensor × Int)) (x28 : List Int) (x29 : Int) : Option (T_Tensor × Int) :=
  if x29 < (x3.length : Int) then ((at? x3 x29).bind fun x32 => if 0 ≤ x32 then ((at? x1.fF x32).bind fun x33 => chk (0 ≤ x29 ∧ x29 < ((x5.1.fF.length : Nat) : Int)) <| chk (0 ≤ x29 ∧ x29 < (x28.length : Int)) <| nx3 (x28.set x29.toNat x33) (wk .i64 (x29 + 1))) else nx3 x28 (wk .i64 (x29 + 1))) else tens_Pick_c1 fu x1 x3 x5 x28
def tens_Pick_W3 (fu : Nat) (x1 : T_Tensor) (x3 : List Int) (x5 : T_Tensor × Int) (x28 : List Int) (x29 : Int) : Option (T_Tensor × Int) :=
  cloop (fun next s => tens_Pick_L3 fu x1 x3 x5 (fun x28 x29 => next (x28, x29)) s.1 s.2) fu (x28, x29)
def tens_Pick (fu : Nat) (x1 : T_Tensor) (x2 : List Int) (x3 : List Int) : Option (T_Tensor × Int) :=
  (tens_Check fu x1).bind fun x4 => if x4 = 0 then ((tens_New fu x1.fType x2).bind fun x5 => if x5.2 = 0 then (if (x3.length : Int) = (wk .i64 ((wk .i64 (((x5.1.fF.length : Nat) : Int) + ((x5.1.fI.length : Nat) : Int))) + ((x5.1.fB.length : Nat) : Int))) then ((slices_ContainsFunc_int fu x3 (fun y0 => tens_Pick_1 fu y0 (wk .i64 ((wk .i64 ((x1.fF.length : Int) + (x1.fI.length : Int))) + (x1.fB.length : Int))))).bind fun x6 => if x6 = true then (some (T_Tensor.mk 0 ([]) ([]) ([]) ([]), 2)) else if ((x5.1.fF.length : Nat) : Int) = 0 then (tens_Pick_c1 fu x1 x3 x5 x5.1.fF) else tens_Pick_W3 fu x1 x3 x5 x5.1.fF 0) else some (T_Tensor.mk 0 ([]) ([]) ([]) ([]), 3)) else some (T_Tensor.mk 0 ([]) ([]) ([]) ([]), x5.2)) else some (T_Tensor.mk 0 ([]) ([]) ([]) ([]), x4)

/-! lattice/tens.Ints -/
def tens_Ints_L1 (fu : Nat) (x1 : T_Tensor) (nx1 : (List Int) → Int → Option ((List Int) × Int)) (x4 : List Int) (x5 : Int) : Option ((List Int) × Int) :=
  if x5 < (x1.fI.length : Int) then ((at? x1.fI x5).bind fun x7 => chk ((x4.length + 1 : Int) * 8 ≤ 140737488355328) <| nx1 (x4 ++ ([x7])) (wk .i64 (x5 + 1))) else some (x4, 0)
def tens_Ints_W1 (fu : Nat) (x1 : T_Tensor) (x4 : List Int) (x5 : Int) : Option ((List Int) × Int) :=
  cloop (fun next s => tens_Ints_L1 fu x1 (fun x4 x5 => next (x4, x5)) s.1 s.2) fu (x4, x5)
def tens_Ints (fu : Nat) (x1 : T_Tensor) : Option ((List Int) × Int) :=
  (tens_Check fu x1).bind fun x2 => if x2 = 0 then (if x1.fType = 7 then (if 1 < (x1.fDims.length : Int) then (some ([], 3)) else tens_Ints_W1 fu x1 ([] : List Int) 0) else some ([], 5)) else some ([], x2)

/-! lattice/tens.Bytes -/
def tens_Bytes_L2 (fu : Nat) (nx1 : (List Int) → Int → Option ((List Int) × Int)) (x10 : Int) (x16 : Int) (nx2 : (List Int) → Int → Option ((List Int) × Int)) (x17 : List Int) (x18 : Int) : Option ((List Int) × Int) :=
  if x18 < 1 then (chk (0 ≤ (wk .i64 (8 * x18))) <| chk ((x17.length + 1 : Int) * 1 ≤ 140737488355328) <| nx2 (x17 ++ ([wk .u8 (shrk .u64 x16 (wk .i64 (8 * x18)))])) (wk .i64 (x18 + 1))) else nx1 x17 (wk .i64 (x10 + 1))
def tens_Bytes_W2 (fu : Nat) (nx1 : (List Int) → Int → Option ((List Int) × Int)) (x10 : Int) (x16 : Int) (x17 : List Int) (x18 : Int) : Option ((List Int) × Int) :=
  cloop (fun next s => tens_Bytes_L2 fu nx1 x10 x16 (fun x17 x18 => next (x17, x18)) s.1 s.2) fu (x17, x18)
def tens_Bytes_k3 (fu : Nat) (nx1 : (List Int) → Int → Option ((List Int) × Int)) (x9 : List Int) (x10 : Int) (x16 : Int) : Option ((List Int) × Int) :=
  tens_Bytes_W2 fu nx1 x10 x16 x9 0
def tens_Bytes_L1 (fu : Nat) (x1 : T_Tensor) (nx1 : (List Int) → Int → Option ((List Int) × Int)) (x9 : List Int) (x10 : Int) : Option ((List Int) × Int) :=
  if x10 < (x1.fB.length : Int) then ((at? x1.fB x10).bind fun x15 => if x15 = true then (tens_Bytes_k3 fu nx1 x9 x10 1) else tens_Bytes_k3 fu nx1 x9 x10 0) else some (x9, 0)
def tens_Bytes_W1 (fu : Nat) (x1 : T_Tensor) (x9 : List Int) (x10 : Int) : Option ((List Int) × Int) :=
  cloop (fun next s => tens_Bytes_L1 fu x1 (fun x9 x10 => next (x9, x10)) s.1 s.2) fu (x9, x10)
def tens_Bytes_k2 (fu : Nat) (x1 : T_Tensor) (x4 : List Int) : Option ((List Int) × Int) :=
  tens_Bytes_W1 fu x1 x4 0
def tens_Bytes_L4 (fu : Nat) (nx3 : (List Int) → Int → Option ((List Int) × Int)) (x23 : Int) (x27 : Int) (nx4 : (List Int) → Int → Option ((List Int) × Int)) (x28 : List Int) (x29 : Int) : Option ((List Int) × Int) :=
  if x29 < 8 then (chk (0 ≤ (wk .i64 (8 * x29))) <| chk ((x28.length + 1 : Int) * 1 ≤ 140737488355328) <| nx4 (x28 ++ ([wk .u8 (shrk .u64 (wk .u64 x27) (wk .i64 (8 * x29)))])) (wk .i64 (x29 + 1))) else nx3 x28 (wk .i64 (x23 + 1))
def tens_Bytes_W4 (fu : Nat) (nx3 : (List Int) → Int → Option ((List Int) × Int)) (x23 : Int) (x27 : Int) (x28 : List Int) (x29 : Int) : Option ((List Int) × Int) :=
  cloop (fun next s => tens_Bytes_L4 fu nx3 x23 x27 (fun x28 x29 => next (x28, x29)) s.1 s.2) fu (x28, x29)
def tens_Bytes_L3 (fu : Nat) (x1 : T_Tensor) (nx3 : (List Int) → Int → Option ((List Int) × Int)) (x22 : List Int) (x23 : Int) : Option ((List Int) × Int) :=
  if x23 < (x1.fI.length : Int) then ((at? x1.fI x23).bind fun x27 => tens_Bytes_W4 fu nx3 x23 x27 x22 0) else tens_Bytes_k2 fu x1 x22
def tens_Bytes_W3 (fu : Nat) (x1 : T_Tensor) (x22 : List Int) (x23 : Int) : Option ((List Int) × Int) :=
  cloop (fun next s => tens_Bytes_L3 fu x1 (fun x22 x23 => next (x22, x23)) s.1 s.2) fu (x22, x23)
def tens_Bytes_k1 (fu : Nat) (x1 : T_Tensor) (x3 : List Int) : Option ((List Int) × Int) :=
  tens_Bytes_W3 fu x1 x3 0
def tens_Bytes_L6 (fu : Nat) (nx5 : (List Int) → Int → Option ((List Int) × Int)) (x34 : Int) (x38 : Int) (nx6 : (List Int) → Int → Option ((List Int) × Int)) (x39 : List Int) (x40 : Int) : Option ((List Int) × Int) :=
  if x40 < 4 then (chk (0 ≤ (wk .i64 (8 * x40))) <| chk ((x39.length + 1 : Int) * 1 ≤ 140737488355328) <| nx6 (x39 ++ ([wk .u8 (shrk .u64 (wk .u64 x38) (wk .i64 (8 * x40)))])) (wk .i64 (x40 + 1))) else nx5 x39 (wk .i64 (x34 + 1))
def tens_Bytes_W6 (fu : Nat) (nx5 : (List Int) → Int → Option ((List Int) × Int)) (x34 : Int) (x38 : Int) (x39 : List Int) (x40 : Int) : Option ((List Int) × Int) :=
  cloop (fun next s => tens_Bytes_L6 fu nx5 x34 x38 (fun x39 x40 => next (x39, x40)) s.1 s.2) fu (x39, x40)
def tens_Bytes_L5 (fu : Nat) (x1 : T_Tensor) (nx5 : (List Int) → Int → Option ((List Int) × Int)) (x33 : List Int) (x34 : Int) : Option ((List Int) × Int) :=
  if x34 < (x1.fF.length : Int) then ((at? x1.fF x34).bind fun x38 => tens_Bytes_W6 fu nx5 x34 x38 x33 0) else tens_Bytes_k1 fu x1 x33
def tens_Bytes_W5 (fu : Nat) (x1 : T_Tensor) (x33 : List Int) (x34 : Int) : Option ((List Int) × Int) :=
  cloop (fun next s => tens_Bytes_L5 fu x1 (fun x33 x34 => next (x33, x34)) s.1 s.2) fu (x33, x34)
def tens_Bytes (fu : Nat) (x1 : T_Tensor) : Option ((List Int) × Int) :=
  (tens_Check fu x1).bind fun x2 => if x2 = 0 then (tens_Bytes_W5 fu x1 ([] : List Int) 0) else some ([], x2)

/-! lattice/tens.number -/
def tens_number_L1 (fu : Nat) (x1 : List Int) (nx1 : Int → Int → Option Int) (x3 : Int) (x4 : Int) : Option Int :=
  if x4 < (x1.length : Int) then ((at? x1 x4).bind fun x6 => chk (0 ≤ (wk .i64 (8 * x4))) <| nx1 (bor .u64 x3 (shlk .u64 (wk .u64 x6) (wk .i64 (8 * x4)))) (wk .i64 (x4 + 1))) else some x3
def tens_number_W1 (fu : Nat) (x1 : List Int) (x3 : Int) (x4 : Int) : Option Int :=
  cloop (fun next s => tens_number_L1 fu x1 (fun x3 x4 => next (x3, x4)) s.1 s.2) fu (x3, x4)
def tens_number (fu : Nat) (x1 : List Int) : Option Int :=
  tens_number_W1 fu x1 0 0

/-! lattice/tens.FromBytes -/
def tens_FromBytes_L1 (fu : Nat) (x1 : Int) (x3 : List Int) (x4 : T_Tensor × Int) (x5 : Int) (nx1 : (List Int) → (List Int) → (List Bool) → Int → Option (T_Tensor × Int)) (x7 : List Int) (x8 : List Int) (x9 : List Bool) (x10 : Int) : Option (T_Tensor × Int) :=
  if x10 < (wk .i64 ((wk .i64 (((x4.1.fF.length : Nat) : Int) + ((x4.1.fI.length : Nat) : Int))) + ((x4.1.fB.length : Nat) : Int))) then (chk (0 ≤ wk .i64 (x10 * x5) ∧ 0 ≤ wk .i64 ((wk .i64 (x10 * x5)) + x5) ∧ wk .i64 ((wk .i64 (x10 * x5)) + x5) ≤ (x3.length : Int) ∧ wk .i64 (x10 * x5) ≤ wk .i64 ((wk .i64 (x10 * x5)) + x5)) <| (tens_number fu (subN x3 (wk .i64 (x10 * x5)).toNat (wk .i64 ((wk .i64 (x10 * x5)) + x5)).toNat)).bind fun x12 => if x1 = 1 then (chk (0 ≤ x10 ∧ x10 < (x7.length : Int)) <| nx1 (x7.set x10.toNat (wk .u32 x12)) x8 x9 (wk .i64 (x10 + 1))) else if x1 = 7 then (chk (0 ≤ x10 ∧ x10 < (x8.length : Int)) <| nx1 x7 (x8.set x10.toNat (wk .i64 x12)) x9 (wk .i64 (x10 + 1))) else if 1 < x12 then (some (T_Tensor.mk 0 ([]) ([]) ([]) ([]), 1)) else chk (0 ≤ x10 ∧ x10 < (x9.length : Int)) <| nx1 x7 x8 (x9.set x10.toNat (decide (x12 = 1))) (wk .i64 (x10 + 1))) else some (T_Tensor.mk x4.1.fType x4.1.fDims x7 x8 x9, 0)
def tens_FromBytes_W1 (fu : Nat) (x1 : Int) (x3 : List Int) (x4 : T_Tensor × Int) (x5 : Int) (x7 : List Int) (x8 : List Int) (x9 : List Bool) (x10 : Int) : Option (T_Tensor × Int) :=
  cloop (fun next s => tens_FromBytes_L1 fu x1 x3 x4 x5 (fun x7 x8 x9 x10 => next (x7, x8, x9, x10)) s.1 s.2.1 s.2.2.1 s.2.2.2) fu (x7, x8, x9, x10)
def tens_FromBytes (fu : Nat) (x1 : Int) (x2 : List Int) (x3 : List Int) : Option (T_Tensor × Int) :=
  (tens_New fu x1 x2).bind fun x4 => if x4.2 = 0 then ((tens_Width fu x1).bind fun x5 => if (x3.length : Int) = (wk .i64 ((wk .i64 ((wk .i64 (((x4.1.fF.length : Nat) : Int) + ((x4.1.fI.length : Nat) : Int))) + ((x4.1.fB.length : Nat) : Int))) * x5)) then (tens_FromBytes_W1 fu x1 x3 x4 x5 x4.1.fF x4.1.fI x4.1.fB 0) else some (T_Tensor.mk 0 ([]) ([]) ([]) ([]), 3)) else some (T_Tensor.mk 0 ([]) ([]) ([]) ([]), x4.2)

/-! lattice/tens.own[int] -/
def tens_own_int (fu : Nat) (x1 : List Int) : Option (List Int) :=
  chk ((x1.length : Int) * 8 ≤ 140737488355328) <| some x1

/-! lattice/tens.own[uint32] -/
def tens_own_uint32 (fu : Nat) (x1 : List Int) : Option (List Int) :=
  chk ((x1.length : Int) * 4 ≤ 140737488355328) <| some x1

/-! lattice/tens.own[int64] -/
def tens_own_int64 (fu : Nat) (x1 : List Int) : Option (List Int) :=
  chk ((x1.length : Int) * 8 ≤ 140737488355328) <| some x1

/-! lattice/tens.own[bool] -/
def tens_own_bool (fu : Nat) (x1 : List Bool) : Option (List Bool) :=
  chk ((x1.length : Int) * 1 ≤ 140737488355328) <| some x1

/-! lattice/tens.Copy -/
def tens_Copy (fu : Nat) (x1 : T_Tensor) : Option T_Tensor :=
  (tens_own_int fu x1.fDims).bind fun x2 => (tens_own_uint32 fu x1.fF).bind fun x3 => (tens_own_int64 fu x1.fI).bind fun x4 => (tens_own_bool fu x1.fB).bind fun x5 => some (T_Tensor.mk x1.fType x2 x3 x4 x5)

/-! lattice/soft.Abs -/
def soft_Abs (fu : Nat) (x1 : Int) : Option Int :=
  some (bandn .u32 x1 2147483648)

/-! lattice/soft.NaN -/
def soft_NaN (fu : Nat) (x1 : Int) : Option Bool :=
  (soft_Abs fu x1).bind fun x2 => some (decide (2139095040 < x2))

/-! lattice/soft.Canon -/
def soft_Canon (fu : Nat) (x1 : Int) : Option Int :=
  (soft_NaN fu x1).bind fun x2 => if x2 = true then (some 2143289344) else some x1

/-! lattice/tens.Canon -/
def tens_Canon_L1 (fu : Nat) (x2 : T_Tensor) (nx1 : (List Int) → Int → Option T_Tensor) (x5 : List Int) (x6 : Int) : Option T_Tensor :=
  if x6 < ((x2.fF.length : Nat) : Int) then ((at? x5 x6).bind fun x9 => (soft_Canon fu x9).bind fun x10 => chk (0 ≤ x6 ∧ x6 < (x5.length : Int)) <| nx1 (x5.set x6.toNat x10) (wk .i64 (x6 + 1))) else some (T_Tensor.mk x2.fType x2.fDims x5 x2.fI x2.fB)
def tens_Canon_W1 (fu : Nat) (x2 : T_Tensor) (x5 : List Int) (x6 : Int) : Option T_Tensor :=
  cloop (fun next s => tens_Canon_L1 fu x2 (fun x5 x6 => next (x5, x6)) s.1 s.2) fu (x5, x6)
def tens_Canon (fu : Nat) (x1 : T_Tensor) : Option T_Tensor :=
  (tens_Copy fu x1).bind fun x2 => tens_Canon_W1 fu x2 x2.fF 0

/-! lattice/latticeref04.SameInts -/
def ref04_SameInts_L1 (fu : Nat) (x1 : List Int) (x2 : List Int) (nx1 : Int → Option Bool) (x5 : Int) : Option Bool :=
  if x5 < (x1.length : Int) then ((at? x1 x5).bind fun x8 => (at? x2 x5).bind fun x9 => if x8 = x9 then (nx1 (wk .i64 (x5 + 1))) else some false) else some true
def ref04_SameInts_W1 (fu : Nat) (x1 : List Int) (x2 : List Int) (x5 : Int) : Option Bool :=
  cloop (fun next s => ref04_SameInts_L1 fu x1 x2 next s) fu x5
def ref04_SameInts (fu : Nat) (x1 : List Int) (x2 : List Int) : Option Bool :=
  if (x1.length : Int) = (x2.length : Int) then (ref04_SameInts_W1 fu x1 x2 0) else some false

/-! lattice/latticeref05.Same -/
def ref05_Same_L1 (fu : Nat) (x1 : T_Tensor) (x2 : T_Tensor) (nx1 : Int → Option Bool) (x5 : Int) : Option Bool :=
  if x5 < (x1.fB.length : Int) then ((at? x1.fB x5).bind fun x8 => (at? x2.fB x5).bind fun x9 => if (x8 == x9) = true then (nx1 (wk .i64 (x5 + 1))) else some false) else some true
def ref05_Same_W1 (fu : Nat) (x1 : T_Tensor) (x2 : T_Tensor) (x5 : Int) : Option Bool :=
  cloop (fun next s => ref05_Same_L1 fu x1 x2 next s) fu x5
def ref05_Same_k3 (fu : Nat) (x1 : T_Tensor) (x2 : T_Tensor) : Option Bool :=
  ref05_Same_W1 fu x1 x2 0
def ref05_Same_L2 (fu : Nat) (x1 : T_Tensor) (x2 : T_Tensor) (nx2 : Int → Option Bool) (x12 : Int) : Option Bool :=
  if x12 < (x1.fI.length : Int) then ((at? x1.fI x12).bind fun x15 => (at? x2.fI x12).bind fun x16 => if x15 = x16 then (nx2 (wk .i64 (x12 + 1))) else some false) else ref05_Same_k3 fu x1 x2
def ref05_Same_W2 (fu : Nat) (x1 : T_Tensor) (x2 : T_Tensor) (x12 : Int) : Option Bool :=
  cloop (fun next s => ref05_Same_L2 fu x1 x2 next s) fu x12
def ref05_Same_k2 (fu : Nat) (x1 : T_Tensor) (x2 : T_Tensor) : Option Bool :=
  ref05_Same_W2 fu x1 x2 0
def ref05_Same_L3 (fu : Nat) (x1 : T_Tensor) (x2 : T_Tensor) (nx3 : Int → Option Bool) (x19 : Int) : Option Bool :=
  if x19 < (x1.fF.length : Int) then ((at? x1.fF x19).bind fun x22 => (at? x2.fF x19).bind fun x23 => if x22 = x23 then (nx3 (wk .i64 (x19 + 1))) else some false) else ref05_Same_k2 fu x1 x2
def ref05_Same_W3 (fu : Nat) (x1 : T_Tensor) (x2 : T_Tensor) (x19 : Int) : Option Bool :=
  cloop (fun next s => ref05_Same_L3 fu x1 x2 next s) fu x19
def ref05_Same_k1 (fu : Nat) (x1 : T_Tensor) (x2 : T_Tensor) : Option Bool :=
  ref05_Same_W3 fu x1 x2 0
def ref05_Same (fu : Nat) (x1 : T_Tensor) (x2 : T_Tensor) : Option Bool :=
  if x1.fType = x2.fType then ((ref04_SameInts fu x1.fDims x2.fDims).bind fun x24 => if x24 = true then (if (x1.fF.length : Int) = (x2.fF.length : Int) then (if (x1.fI.length : Int) = (x2.fI.length : Int) then (if (x1.fB.length : Int) = (x2.fB.length : Int) then (ref05_Same_k1 fu x1 x2) else some false) else some false) else some false) else some false) else some false

/-! lattice/latticelaw05.awake -/
def law05_awake_k1 (fu : Nat) (x1 : T_Tensor × Int) (x2 : T_Tensor × Int) (x3 : (List Int) × Int) (x4 : (List Int) × Int) (x5 : T_Tensor × Int) (x6 : T_Tensor) (x7 : Int) : Option Bool :=
  if x1.2 = 0 then ((ref05_Same fu x1.1 (T_Tensor.mk 7 ([3]) ([]) ([7, 0, 5]) ([]))).bind fun x8 => if x8 = true then (if x2.2 = 2 then (if x3.2 = 0 then ((ref04_SameInts fu x3.1 ([5, 7])).bind fun x9 => if x9 = true then (if x4.2 = 0 then ((at? x4.1 8).bind fun x10 => if x10 = 7 then (if x5.2 = 1 then ((at? x6.fF 0).bind fun x11 => if x11 = 2143289344 then (some (decide (x7 = 3))) else some false) else some false) else some false) else some false) else some false) else some false) else some false) else some false) else some false
def law05_awake (fu : Nat) : Option Bool :=
  (tens_Pick fu (T_Tensor.mk 7 ([2]) ([]) ([5, 7]) ([])) ([3]) ([1, -1, 0])).bind fun x1 => (tens_Pick fu (T_Tensor.mk 7 ([2]) ([]) ([5, 7]) ([])) ([1]) ([2])).bind fun x2 => (tens_Ints fu (T_Tensor.mk 7 ([2]) ([]) ([5, 7]) ([]))).bind fun x3 => (tens_Bytes fu (T_Tensor.mk 7 ([2]) ([]) ([5, 7]) ([]))).bind fun x4 => (tens_FromBytes fu 9 ([2]) ([1, 2])).bind fun x5 => (tens_Canon fu (T_Tensor.mk 0 ([]) ([2139095041]) ([]) ([]))).bind fun x6 => (tens_Check fu (T_Tensor.mk 1 ([2]) ([1]) ([]) ([]))).bind fun x7 => if ((x4.1.length : Nat) : Int) = 16 then (if ((x6.fF.length : Nat) : Int) = 1 then (law05_awake_k1 fu x1 x2 x3 x4 x5 x6 x7) else some false) else some false

/-! lattice/latticeref05.Known -/
def ref05_Known (fu : Nat) (x1 : Int) : Option Bool :=
  if x1 = 1 then (some true) else if x1 = 7 then (some true) else some (decide (x1 = 9))

/-! lattice/latticeref04.Size -/
def ref04_Size_k2 (fu : Nat) (nx1 : Int → Int → Option (Int × Int)) (x1 : List Int) (x6 : Int) (x7 : Int) : Option (Int × Int) :=
  (at? x1 x7).bind fun x10 => nx1 (wk .i64 (x6 * x10)) (wk .i64 (x7 + 1))
def ref04_Size_L1 (fu : Nat) (x1 : List Int) (nx1 : Int → Int → Option (Int × Int)) (x6 : Int) (x7 : Int) : Option (Int × Int) :=
  if x7 < (x1.length : Int) then ((at? x1 x7).bind fun x11 => if 4096 < x11 then (some (0, 4)) else if 4096 < (wk .i64 (x6 * x11)) then (some (0, 4)) else ref04_Size_k2 fu nx1 x1 x6 x7) else some (x6, 0)
def ref04_Size_W1 (fu : Nat) (x1 : List Int) (x6 : Int) (x7 : Int) : Option (Int × Int) :=
  cloop (fun next s => ref04_Size_L1 fu x1 (fun x6 x7 => next (x6, x7)) s.1 s.2) fu (x6, x7)
def ref04_Size_k1 (fu : Nat) (x1 : List Int) (x2 : Bool) (x3 : Bool) : Option (Int × Int) :=
  if x3 = true then (some (0, 4)) else if x2 = true then (some (0, 0)) else ref04_Size_W1 fu x1 1 0
def ref04_Size_k3 (fu : Nat) (nx2 : Bool → Bool → Int → Option (Int × Int)) (x14 : Bool) (x15 : Int) (x18 : Int) (x19 : Bool) : Option (Int × Int) :=
  if x14 = true then (nx2 x19 true (wk .i64 (x15 + 1))) else nx2 x19 (decide (4096 < x18)) (wk .i64 (x15 + 1))
def ref04_Size_L2 (fu : Nat) (x1 : List Int) (nx2 : Bool → Bool → Int → Option (Int × Int)) (x13 : Bool) (x14 : Bool) (x15 : Int) : Option (Int × Int) :=
  if x15 < (x1.length : Int) then ((at? x1 x15).bind fun x18 => if x18 < 0 then (some (0, 1)) else if x13 = true then (ref04_Size_k3 fu nx2 x14 x15 x18 true) else ref04_Size_k3 fu nx2 x14 x15 x18 (decide (x18 = 0))) else ref04_Size_k1 fu x1 x13 x14
def ref04_Size_W2 (fu : Nat) (x1 : List Int) (x13 : Bool) (x14 : Bool) (x15 : Int) : Option (Int × Int) :=
  cloop (fun next s => ref04_Size_L2 fu x1 (fun x13 x14 x15 => next (x13, x14, x15)) s.1 s.2.1 s.2.2) fu (x13, x14, x15)
def ref04_Size (fu : Nat) (x1 : List Int) : Option (Int × Int) :=
  ref04_Size_W2 fu x1 false (decide (8 < (x1.length : Int))) 0

/-! lattice/latticeref05.New -/
def ref05_New (fu : Nat) (x1 : Int) (x2 : List Int) : Option (T_Tensor × Int) :=
  (ref05_Known fu x1).bind fun x3 => if x3 = true then ((ref04_Size fu x2).bind fun x4 => if x4.2 = 0 then (chk ((x2.length : Int) * 8 ≤ 140737488355328) <| if x1 = 1 then (chk (0 ≤ x4.1 ∧ x4.1 * 4 ≤ 140737488355328) <| some (T_Tensor.mk x1 x2 (List.replicate x4.1.toNat (0 : Int)) ([]) ([]), 0)) else if x1 = 7 then (chk (0 ≤ x4.1 ∧ x4.1 * 8 ≤ 140737488355328) <| some (T_Tensor.mk x1 x2 ([]) (List.replicate x4.1.toNat (0 : Int)) ([]), 0)) else chk (0 ≤ x4.1 ∧ x4.1 * 1 ≤ 140737488355328) <| some (T_Tensor.mk x1 x2 ([]) ([]) (List.replicate x4.1.toNat (false : Bool)), 0)) else some (T_Tensor.mk 0 ([]) ([]) ([]) ([]), x4.2)) else some (T_Tensor.mk 0 ([]) ([]) ([]) ([]), 5)

/-! lattice/latticeref05.Width -/
def ref05_Width (fu : Nat) (x1 : Int) : Option Int :=
  if x1 = 1 then (some 4) else if x1 = 7 then (some 8) else if x1 = 9 then (some 1) else some 0

/-! lattice/latticelaw05.TensNews -/
def law05_TensNews_L1 (fu : Nat) (x1 : Int) (x2 : List Int) (x3 : T_Tensor × Int) (x4 : T_Tensor × Int) (x5 : Bool) (x6 : List Int) (x7 : List Int) (x8 : List Int) (nx1 : (List Bool) → Int → Option Bool) (x10 : List Bool) (x11 : Int) : Option Bool :=
  if x11 < ((x3.1.fB.length : Nat) : Int) then (chk (0 ≤ x11 ∧ x11 < ((x3.1.fB.length : Nat) : Int)) <| (at? x10 x11).bind fun x13 => chk (0 ≤ x11 ∧ x11 < (x10.length : Int)) <| nx1 (x10.set x11.toNat (!x13)) (wk .i64 (x11 + 1))) else chk (x3.1.fDims.length = x6.length) <| chk (x3.1.fF.length = x7.length) <| chk (x3.1.fI.length = x8.length) <| chk (x3.1.fB.length = x10.length) <| if x3.2 = x4.2 then (if x5 = true then ((tens_Width fu x1).bind fun x14 => (ref05_Width fu x1).bind fun x15 => if x14 = x15 then ((ref04_SameInts fu x2 x2).bind fun x16 => some x16) else some false) else some false) else some false
def law05_TensNews_W1 (fu : Nat) (x1 : Int) (x2 : List Int) (x3 : T_Tensor × Int) (x4 : T_Tensor × Int) (x5 : Bool) (x6 : List Int) (x7 : List Int) (x8 : List Int) (x10 : List Bool) (x11 : Int) : Option Bool :=
  cloop (fun next s => law05_TensNews_L1 fu x1 x2 x3 x4 x5 x6 x7 x8 (fun x10 x11 => next (x10, x11)) s.1 s.2) fu (x10, x11)
def law05_TensNews_k3 (fu : Nat) (x1 : Int) (x2 : List Int) (x3 : T_Tensor × Int) (x4 : T_Tensor × Int) (x5 : Bool) (x6 : List Int) (x7 : List Int) (x8 : List Int) : Option Bool :=
  law05_TensNews_W1 fu x1 x2 x3 x4 x5 x6 x7 x8 x3.1.fB 0
def law05_TensNews_L2 (fu : Nat) (x1 : Int) (x2 : List Int) (x3 : T_Tensor × Int) (x4 : T_Tensor × Int) (x5 : Bool) (x6 : List Int) (x7 : List Int) (nx2 : (List Int) → Int → Option Bool) (x18 : List Int) (x19 : Int) : Option Bool :=
  if x19 < ((x3.1.fI.length : Nat) : Int) then (chk (0 ≤ x19 ∧ x19 < ((x3.1.fI.length : Nat) : Int)) <| (at? x18 x19).bind fun x21 => chk (0 ≤ x19 ∧ x19 < (x18.length : Int)) <| nx2 (x18.set x19.toNat (bxor .i64 x21 1)) (wk .i64 (x19 + 1))) else law05_TensNews_k3 fu x1 x2 x3 x4 x5 x6 x7 x18
def law05_TensNews_W2 (fu : Nat) (x1 : Int) (x2 : List Int) (x3 : T_Tensor × Int) (x4 : T_Tensor × Int) (x5 : Bool) (x6 : List Int) (x7 : List Int) (x18 : List Int) (x19 : Int) : Option Bool :=
  cloop (fun next s => law05_TensNews_L2 fu x1 x2 x3 x4 x5 x6 x7 (fun x18 x19 => next (x18, x19)) s.1 s.2) fu (x18, x19)
def law05_TensNews_k2 (fu : Nat) (x1 : Int) (x2 : List Int) (x3 : T_Tensor × Int) (x4 : T_Tensor × Int) (x5 : Bool) (x6 : List Int) (x7 : List Int) : Option Bool :=
  law05_TensNews_W2 fu x1 x2 x3 x4 x5 x6 x7 x3.1.fI 0
def law05_TensNews_L3 (fu : Nat) (x1 : Int) (x2 : List Int) (x3 : T_Tensor × Int) (x4 : T_Tensor × Int) (x5 : Bool) (x6 : List Int) (nx3 : (List Int) → Int → Option Bool) (x23 : List Int) (x24 : Int) : Option Bool :=
  if x24 < ((x3.1.fF.length : Nat) : Int) then (chk (0 ≤ x24 ∧ x24 < ((x3.1.fF.length : Nat) : Int)) <| (at? x23 x24).bind fun x26 => chk (0 ≤ x24 ∧ x24 < (x23.length : Int)) <| nx3 (x23.set x24.toNat (bxor .u32 x26 1)) (wk .i64 (x24 + 1))) else law05_TensNews_k2 fu x1 x2 x3 x4 x5 x6 x23
def law05_TensNews_W3 (fu : Nat) (x1 : Int) (x2 : List Int) (x3 : T_Tensor × Int) (x4 : T_Tensor × Int) (x5 : Bool) (x6 : List Int) (x23 : List Int) (x24 : Int) : Option Bool :=
  cloop (fun next s => law05_TensNews_L3 fu x1 x2 x3 x4 x5 x6 (fun x23 x24 => next (x23, x24)) s.1 s.2) fu (x23, x24)
def law05_TensNews_k1 (fu : Nat) (x1 : Int) (x2 : List Int) (x3 : T_Tensor × Int) (x4 : T_Tensor × Int) (x5 : Bool) (x6 : List Int) : Option Bool :=
  law05_TensNews_W3 fu x1 x2 x3 x4 x5 x6 x3.1.fF 0
def law05_TensNews_L4 (fu : Nat) (x1 : Int) (x2 : List Int) (x3 : T_Tensor × Int) (x4 : T_Tensor × Int) (x5 : Bool) (nx4 : (List Int) → Int → Option Bool) (x28 : List Int) (x29 : Int) : Option Bool :=
  if x29 < ((x3.1.fDims.length : Nat) : Int) then (chk (0 ≤ x29 ∧ x29 < ((x3.1.fDims.length : Nat) : Int)) <| (at? x28 x29).bind fun x31 => chk (0 ≤ x29 ∧ x29 < (x28.length : Int)) <| nx4 (x28.set x29.toNat (bxor .i64 x31 64)) (wk .i64 (x29 + 1))) else law05_TensNews_k1 fu x1 x2 x3 x4 x5 x28
def law05_TensNews_W4 (fu : Nat) (x1 : Int) (x2 : List Int) (x3 : T_Tensor × Int) (x4 : T_Tensor × Int) (x5 : Bool) (x28 : List Int) (x29 : Int) : Option Bool :=
  cloop (fun next s => law05_TensNews_L4 fu x1 x2 x3 x4 x5 (fun x28 x29 => next (x28, x29)) s.1 s.2) fu (x28, x29)
def law05_TensNews (fu : Nat) (x1 : Int) (x2 : List Int) : Option Bool :=
  (tens_New fu x1 x2).bind fun x3 => (ref05_New fu x1 x2).bind fun x4 => (ref05_Same fu x3.1 x4.1).bind fun x5 => chk ((x2.length : Int) * 8 ≤ 140737488355328) <| law05_TensNews_W4 fu x1 x2 x3 x4 x5 x3.1.fDims 0

/-! lattice/latticeref05.Copy -/
def ref05_Copy (fu : Nat) (x1 : T_Tensor) : Option T_Tensor :=
  chk ((x1.fDims.length : Int) * 8 ≤ 140737488355328) <| chk ((x1.fF.length : Int) * 4 ≤ 140737488355328) <| chk ((x1.fI.length : Int) * 8 ≤ 140737488355328) <| chk ((x1.fB.length : Int) * 1 ≤ 140737488355328) <| some x1

/-! lattice/latticeref05.Check -/
def ref05_Check_k1 (fu : Nat) (x1 : T_Tensor) (x4 : Int) (x5 : Int) (x6 : Int) : Option Int :=
  if (x1.fF.length : Int) = x4 then (if (x1.fI.length : Int) = x5 then (if (x1.fB.length : Int) = x6 then (some 0) else some 3) else some 3) else some 3
def ref05_Check (fu : Nat) (x1 : T_Tensor) : Option Int :=
  (ref05_Known fu x1.fType).bind fun x2 => if x2 = true then ((ref04_Size fu x1.fDims).bind fun x3 => if x3.2 = 0 then (if x1.fType = 1 then (ref05_Check_k1 fu x1 x3.1 0 0) else if x1.fType = 7 then (ref05_Check_k1 fu x1 0 x3.1 0) else ref05_Check_k1 fu x1 0 0 x3.1) else some x3.2) else some 5

/-! lattice/latticeref05.Pick -/
def ref05_Pick_c2 (fu : Nat) (nx1 : (List Int) → (List Int) → (List Bool) → Int → Option (T_Tensor × Int)) (x15 : List Int) (x16 : List Int) (x17 : List Bool) (x18 : Int) (x28 : List Int) (x29 : List Int) (x30 : List Bool) : Option (T_Tensor × Int) :=
  chk (x15.length = x28.length) <| chk (x16.length = x29.length) <| chk (x17.length = x30.length) <| nx1 x28 x29 x30 (wk .i64 (x18 + 1))
def ref05_Pick_k1 (fu : Nat) (nx1 : (List Int) → (List Int) → (List Bool) → Int → Option (T_Tensor × Int)) (x1 : T_Tensor) (x3 : List Int) (x5 : T_Tensor × Int) (x15 : List Int) (x16 : List Int) (x17 : List Bool) (x18 : Int) : Option (T_Tensor × Int) :=
  (at? x3 x18).bind fun x27 => if 0 ≤ x27 then (if x5.1.fType = 1 then ((at? x1.fF x27).bind fun x31 => chk (0 ≤ x18 ∧ x18 < (x15.length : Int)) <| ref05_Pick_c2 fu nx1 x15 x16 x17 x18 (x15.set x18.toNat x31) x16 x17) else if x5.1.fType = 7 then ((at? x1.fI x27).bind fun x32 => chk (0 ≤ x18 ∧ x18 < (x16.length : Int)) <| ref05_Pick_c2 fu nx1 x15 x16 x17 x18 x15 (x16.set x18.toNat x32) x17) else (at? x1.fB x27).bind fun x33 => chk (0 ≤ x18 ∧ x18 < (x17.length : Int)) <| ref05_Pick_c2 fu nx1 x15 x16 x17 x18 x15 x16 (x17.set x18.toNat x33)) else nx1 x15 x16 x17 (wk .i64 (x18 + 1))
def ref05_Pick_L1 (fu : Nat) (x1 : T_Tensor) (x3 : List Int) (x5 : T_Tensor × Int) (x6 : Int × Int) (nx1 : (List Int) → (List Int) → (List Bool) → Int → Option (T_Tensor × Int)) (x15 : List Int) (x16 : List Int) (x17 : List Bool) (x18 : Int) : Option (T_Tensor × Int) :=
  if x18 < x6.1 then ((at? x3 x18).bind fun x34 => if x34 < (-1) then (some (T_Tensor.mk 0 ([]) ([]) ([]) ([]), 2)) else if (wk .i64 ((wk .i64 ((x1.fF.length : Int) + (x1.fI.length : Int))) + (x1.fB.length : Int))) ≤ x34 then (some (T_Tensor.mk 0 ([]) ([]) ([]) ([]), 2)) else ref05_Pick_k1 fu nx1 x1 x3 x5 x15 x16 x17 x18) else some (T_Tensor.mk x5.1.fType x5.1.fDims x15 x16 x17, 0)
def ref05_Pick_W1 (fu : Nat) (x1 : T_Tensor) (x3 : List Int) (x5 : T_Tensor × Int) (x6 : Int × Int) (x15 : List Int) (x16 : List Int) (x17 : List Bool) (x18 : Int) : Option (T_Tensor × Int) :=
  cloop (fun next s => ref05_Pick_L1 fu x1 x3 x5 x6 (fun x15 x16 x17 x18 => next (x15, x16, x17, x18)) s.1 s.2.1 s.2.2.1 s.2.2.2) fu (x15, x16, x17, x18)
def ref05_Pick (fu : Nat) (x1 : T_Tensor) (x2 : List Int) (x3 : List Int) : Option (T_Tensor × Int) :=
  (ref05_Check fu x1).bind fun x4 => if x4 = 0 then ((ref05_New fu x1.fType x2).bind fun x5 => if x5.2 = 0 then ((ref04_Size fu x2).bind fun x6 => if (x3.length : Int) = x6.1 then (ref05_Pick_W1 fu x1 x3 x5 x6 x5.1.fF x5.1.fI x5.1.fB 0) else some (T_Tensor.mk 0 ([]) ([]) ([]) ([]), 3)) else some (T_Tensor.mk 0 ([]) ([]) ([]) ([]), x5.2)) else some (T_Tensor.mk 0 ([]) ([]) ([]) ([]), x4)

/-! lattice/latticeref05.Ints -/
def ref05_Ints_L1 (fu : Nat) (x1 : T_Tensor) (nx1 : (List Int) → Int → Option ((List Int) × Int)) (x4 : List Int) (x5 : Int) : Option ((List Int) × Int) :=
  if x5 < (x1.fI.length : Int) then ((at? x1.fI x5).bind fun x7 => chk ((x4.length + 1 : Int) * 8 ≤ 140737488355328) <| nx1 (x4 ++ ([x7])) (wk .i64 (x5 + 1))) else some (x4, 0)
def ref05_Ints_W1 (fu : Nat) (x1 : T_Tensor) (x4 : List Int) (x5 : Int) : Option ((List Int) × Int) :=
  cloop (fun next s => ref05_Ints_L1 fu x1 (fun x4 x5 => next (x4, x5)) s.1 s.2) fu (x4, x5)
def ref05_Ints (fu : Nat) (x1 : T_Tensor) : Option ((List Int) × Int) :=
  (ref05_Check fu x1).bind fun x2 => if x2 = 0 then (if x1.fType = 7 then (if 1 < (x1.fDims.length : Int) then (some ([], 3)) else ref05_Ints_W1 fu x1 ([] : List Int) 0) else some ([], 5)) else some ([], x2)

/-! lattice/latticelaw05.TensPicks -/
def law05_TensPicks_k5 (fu : Nat) (x1 : T_Tensor) (x4 : T_Tensor) (x5 : T_Tensor × Int) (x6 : T_Tensor × Int) (x7 : (List Int) × Int) (x8 : (List Int) × Int) (x9 : Bool) (x18 : List Int) : Option Bool :=
  if x9 = true then (if x5.2 = x6.2 then (if x7.2 = x8.2 then ((ref05_Same fu x1 x4).bind fun x19 => some x19) else some false) else some false) else some false
def law05_TensPicks_L2 (fu : Nat) (x1 : T_Tensor) (x4 : T_Tensor) (x5 : T_Tensor × Int) (x6 : T_Tensor × Int) (x7 : (List Int) × Int) (x8 : (List Int) × Int) (x9 : Bool) (nx2 : (List Int) → Int → Option Bool) (x20 : List Int) (x21 : Int) : Option Bool :=
  if x21 < (x20.length : Int) then (chk (0 ≤ x21 ∧ x21 < (x20.length : Int)) <| nx2 (x20.set x21.toNat (-9)) (wk .i64 (x21 + 1))) else law05_TensPicks_k5 fu x1 x4 x5 x6 x7 x8 x9 x20
def law05_TensPicks_W2 (fu : Nat) (x1 : T_Tensor) (x4 : T_Tensor) (x5 : T_Tensor × Int) (x6 : T_Tensor × Int) (x7 : (List Int) × Int) (x8 : (List Int) × Int) (x9 : Bool) (x20 : List Int) (x21 : Int) : Option Bool :=
  cloop (fun next s => law05_TensPicks_L2 fu x1 x4 x5 x6 x7 x8 x9 (fun x20 x21 => next (x20, x21)) s.1 s.2) fu (x20, x21)
def law05_TensPicks_L1 (fu : Nat) (x1 : T_Tensor) (x4 : T_Tensor) (x5 : T_Tensor × Int) (x6 : T_Tensor × Int) (x7 : (List Int) × Int) (x8 : (List Int) × Int) (x9 : Bool) (x10 : List Int) (x11 : List Int) (x12 : List Int) (nx1 : (List Bool) → Int → Option Bool) (x14 : List Bool) (x15 : Int) : Option Bool :=
  if x15 < ((x5.1.fB.length : Nat) : Int) then (chk (0 ≤ x15 ∧ x15 < ((x5.1.fB.length : Nat) : Int)) <| (at? x14 x15).bind fun x17 => chk (0 ≤ x15 ∧ x15 < (x14.length : Int)) <| nx1 (x14.set x15.toNat (!x17)) (wk .i64 (x15 + 1))) else chk (x5.1.fDims.length = x10.length) <| chk (x5.1.fF.length = x11.length) <| chk (x5.1.fI.length = x12.length) <| chk (x5.1.fB.length = x14.length) <| law05_TensPicks_W2 fu x1 x4 x5 x6 x7 x8 x9 x7.1 0
def law05_TensPicks_W1 (fu : Nat) (x1 : T_Tensor) (x4 : T_Tensor) (x5 : T_Tensor × Int) (x6 : T_Tensor × Int) (x7 : (List Int) × Int) (x8 : (List Int) × Int) (x9 : Bool) (x10 : List Int) (x11 : List Int) (x12 : List Int) (x14 : List Bool) (x15 : Int) : Option Bool :=
  cloop (fun next s => law05_TensPicks_L1 fu x1 x4 x5 x6 x7 x8 x9 x10 x11 x12 (fun x14 x15 => next (x14, x15)) s.1 s.2) fu (x14, x15)
def law05_TensPicks_k4 (fu : Nat) (x1 : T_Tensor) (x4 : T_Tensor) (x5 : T_Tensor × Int) (x6 : T_Tensor × Int) (x7 : (List Int) × Int) (x8 : (List Int) × Int) (x9 : Bool) (x10 : List Int) (x11 : List Int) (x12 : List Int) : Option Bool :=
  law05_TensPicks_W1 fu x1 x4 x5 x6 x7 x8 x9 x10 x11 x12 x5.1.fB 0
def law05_TensPicks_L3 (fu : Nat) (x1 : T_Tensor) (x4 : T_Tensor) (x5 : T_Tensor × Int) (x6 : T_Tensor × Int) (x7 : (List Int) × Int) (x8 : (List Int) × Int) (x9 : Bool) (x10 : List Int) (x11 : List Int) (nx3 : (List Int) → Int → Option Bool) (x23 : List Int) (x24 : Int) : Option Bool :=
  if x24 < ((x5.1.fI.length : Nat) : Int) then (chk (0 ≤ x24 ∧ x24 < ((x5.1.fI.length : Nat) : Int)) <| (at? x23 x24).bind fun x26 => chk (0 ≤ x24 ∧ x24 < (x23.length : Int)) <| nx3 (x23.set x24.toNat (bxor .i64 x26 1)) (wk .i64 (x24 + 1))) else law05_TensPicks_k4 fu x1 x4 x5 x6 x7 x8 x9 x10 x11 x23
def law05_TensPicks_W3 (fu : Nat) (x1 : T_Tensor) (x4 : T_Tensor) (x5 : T_Tensor × Int) (x6 : T_Tensor × Int) (x7 : (List Int) × Int) (x8 : (List Int) × Int) (x9 : Bool) (x10 : List Int) (x11 : List Int) (x23 : List Int) (x24 : Int) : Option Bool :=
  cloop (fun next s => law05_TensPicks_L3 fu x1 x4 x5 x6 x7 x8 x9 x10 x11 (fun x23 x24 => next (x23, x24)) s.1 s.2) fu (x23, x24)
def law05_TensPicks_k3 (fu : Nat) (x1 : T_Tensor) (x4 : T_Tensor) (x5 : T_Tensor × Int) (x6 : T_Tensor × Int) (x7 : (List Int) × Int) (x8 : (List Int) × Int) (x9 : Bool) (x10 : List Int) (x11 : List Int) : Option Bool :=
  law05_TensPicks_W3 fu x1 x4 x5 x6 x7 x8 x9 x10 x11 x5.1.fI 0
def law05_TensPicks_L4 (fu : Nat) (x1 : T_Tensor) (x4 : T_Tensor) (x5 : T_Tensor × Int) (x6 : T_Tensor × Int) (x7 : (List Int) × Int) (x8 : (List Int) × Int) (x9 : Bool) (x10 : List Int) (nx4 : (List Int) → Int → Option Bool) (x28 : List Int) (x29 : Int) : Option Bool :=
  if x29 < ((x5.1.fF.length : Nat) : Int) then (chk (0 ≤ x29 ∧ x29 < ((x5.1.fF.length : Nat) : Int)) <| (at? x28 x29).bind fun x31 => chk (0 ≤ x29 ∧ x29 < (x28.length : Int)) <| nx4 (x28.set x29.toNat (bxor .u32 x31 1)) (wk .i64 (x29 + 1))) else law05_TensPicks_k3 fu x1 x4 x5 x6 x7 x8 x9 x10 x28
def law05_TensPicks_W4 (fu : Nat) (x1 : T_Tensor) (x4 : T_Tensor) (x5 : T_Tensor × Int) (x6 : T_Tensor × Int) (x7 : (List Int) × Int) (x8 : (List Int) × Int) (x9 : Bool) (x10 : List Int) (x28 : List Int) (x29 : Int) : Option Bool :=
  cloop (fun next s => law05_TensPicks_L4 fu x1 x4 x5 x6 x7 x8 x9 x10 (fun x28 x29 => next (x28, x29)) s.1 s.2) fu (x28, x29)
def law05_TensPicks_k2 (fu : Nat) (x1 : T_Tensor) (x4 : T_Tensor) (x5 : T_Tensor × Int) (x6 : T_Tensor × Int) (x7 : (List Int) × Int) (x8 : (List Int) × Int) (x9 : Bool) (x10 : List Int) : Option Bool :=
  law05_TensPicks_W4 fu x1 x4 x5 x6 x7 x8 x9 x10 x5.1.fF 0
def law05_TensPicks_L5 (fu : Nat) (x1 : T_Tensor) (x4 : T_Tensor) (x5 : T_Tensor × Int) (x6 : T_Tensor × Int) (x7 : (List Int) × Int) (x8 : (List Int) × Int) (x9 : Bool) (nx5 : (List Int) → Int → Option Bool) (x33 : List Int) (x34 : Int) : Option Bool :=
  if x34 < ((x5.1.fDims.length : Nat) : Int) then (chk (0 ≤ x34 ∧ x34 < ((x5.1.fDims.length : Nat) : Int)) <| (at? x33 x34).bind fun x36 => chk (0 ≤ x34 ∧ x34 < (x33.length : Int)) <| nx5 (x33.set x34.toNat (bxor .i64 x36 64)) (wk .i64 (x34 + 1))) else law05_TensPicks_k2 fu x1 x4 x5 x6 x7 x8 x9 x33
def law05_TensPicks_W5 (fu : Nat) (x1 : T_Tensor) (x4 : T_Tensor) (x5 : T_Tensor × Int) (x6 : T_Tensor × Int) (x7 : (List Int) × Int) (x8 : (List Int) × Int) (x9 : Bool) (x33 : List Int) (x34 : Int) : Option Bool :=
  cloop (fun next s => law05_TensPicks_L5 fu x1 x4 x5 x6 x7 x8 x9 (fun x33 x34 => next (x33, x34)) s.1 s.2) fu (x33, x34)
def law05_TensPicks_k1 (fu : Nat) (x1 : T_Tensor) (x4 : T_Tensor) (x5 : T_Tensor × Int) (x6 : T_Tensor × Int) (x7 : (List Int) × Int) (x8 : (List Int) × Int) (x9 : Bool) : Option Bool :=
  law05_TensPicks_W5 fu x1 x4 x5 x6 x7 x8 x9 x5.1.fDims 0
def law05_TensPicks (fu : Nat) (x1 : T_Tensor) (x2 : List Int) (x3 : List Int) : Option Bool :=
  (ref05_Copy fu x1).bind fun x4 => (tens_Pick fu x1 x2 x3).bind fun x5 => (ref05_Pick fu x4 x2 x3).bind fun x6 => (tens_Ints fu x1).bind fun x7 => (ref05_Ints fu x4).bind fun x8 => (ref05_Same fu x5.1 x6.1).bind fun x37 => if x37 = true then ((ref04_SameInts fu x7.1 x8.1).bind fun x38 => law05_TensPicks_k1 fu x1 x4 x5 x6 x7 x8 x38) else law05_TensPicks_k1 fu x1 x4 x5 x6 x7 x8 false

/-! lattice/latticeref05.Bytes -/
def ref05_Bytes_L2 (fu : Nat) (nx1 : (List Int) → Int → Option ((List Int) × Int)) (x1 : T_Tensor) (x14 : Int) (nx2 : (List Int) → Int → Int → Option ((List Int) × Int)) (x27 : List Int) (x28 : Int) (x29 : Int) : Option ((List Int) × Int) :=
  (ref05_Width fu x1.fType).bind fun x31 => if x29 < x31 then (chk ((x27.length + 1 : Int) * 1 ≤ 140737488355328) <| nx2 (x27 ++ ([wk .u8 (Int.tmod x28 256)])) (wk .u64 (Int.tdiv x28 256)) (wk .i64 (x29 + 1))) else nx1 x27 (wk .i64 (x14 + 1))
def ref05_Bytes_W2 (fu : Nat) (nx1 : (List Int) → Int → Option ((List Int) × Int)) (x1 : T_Tensor) (x14 : Int) (x27 : List Int) (x28 : Int) (x29 : Int) : Option ((List Int) × Int) :=
  cloop (fun next s => ref05_Bytes_L2 fu nx1 x1 x14 (fun x27 x28 x29 => next (x27, x28, x29)) s.1 s.2.1 s.2.2) fu (x27, x28, x29)
def ref05_Bytes_k1 (fu : Nat) (nx1 : (List Int) → Int → Option ((List Int) × Int)) (x1 : T_Tensor) (x13 : List Int) (x14 : Int) (x25 : Int) : Option ((List Int) × Int) :=
  ref05_Bytes_W2 fu nx1 x1 x14 x13 x25 0
def ref05_Bytes_L1 (fu : Nat) (x1 : T_Tensor) (nx1 : (List Int) → Int → Option ((List Int) × Int)) (x13 : List Int) (x14 : Int) : Option ((List Int) × Int) :=
  if x14 < (wk .i64 ((wk .i64 ((x1.fF.length : Int) + (x1.fI.length : Int))) + (x1.fB.length : Int))) then (if x1.fType = 1 then ((at? x1.fF x14).bind fun x32 => ref05_Bytes_k1 fu nx1 x1 x13 x14 (wk .u64 x32)) else if x1.fType = 7 then ((at? x1.fI x14).bind fun x33 => ref05_Bytes_k1 fu nx1 x1 x13 x14 (wk .u64 x33)) else (at? x1.fB x14).bind fun x34 => if x34 = true then (ref05_Bytes_k1 fu nx1 x1 x13 x14 1) else ref05_Bytes_k1 fu nx1 x1 x13 x14 0) else some (x13, 0)
def ref05_Bytes_W1 (fu : Nat) (x1 : T_Tensor) (x13 : List Int) (x14 : Int) : Option ((List Int) × Int) :=
  cloop (fun next s => ref05_Bytes_L1 fu x1 (fun x13 x14 => next (x13, x14)) s.1 s.2) fu (x13, x14)
def ref05_Bytes (fu : Nat) (x1 : T_Tensor) : Option ((List Int) × Int) :=
  (ref05_Check fu x1).bind fun x2 => if x2 = 0 then (ref05_Bytes_W1 fu x1 ([] : List Int) 0) else some ([], x2)

/-! lattice/latticeref05.FromBytes -/
def ref05_FromBytes_k1 (fu : Nat) (nx1 : (List Int) → (List Int) → (List Bool) → Int → Option (T_Tensor × Int)) (x1 : Int) (x13 : List Int) (x14 : List Int) (x15 : List Bool) (x16 : Int) (x23 : Int) : Option (T_Tensor × Int) :=
  if x1 = 1 then (chk (0 ≤ x16 ∧ x16 < (x13.length : Int)) <| nx1 (x13.set x16.toNat (wk .u32 x23)) x14 x15 (wk .i64 (x16 + 1))) else if x1 = 7 then (chk (0 ≤ x16 ∧ x16 < (x14.length : Int)) <| nx1 x13 (x14.set x16.toNat (wk .i64 x23)) x15 (wk .i64 (x16 + 1))) else if 1 < x23 then (some (T_Tensor.mk 0 ([]) ([]) ([]) ([]), 1)) else chk (0 ≤ x16 ∧ x16 < (x15.length : Int)) <| nx1 x13 x14 (x15.set x16.toNat (decide (x23 = 1))) (wk .i64 (x16 + 1))
def ref05_FromBytes_L2 (fu : Nat) (nx1 : (List Int) → (List Int) → (List Bool) → Int → Option (T_Tensor × Int)) (x1 : Int) (x3 : List Int) (x6 : Int) (x13 : List Int) (x14 : List Int) (x15 : List Bool) (x16 : Int) (nx2 : Int → Int → Option (T_Tensor × Int)) (x25 : Int) (x26 : Int) : Option (T_Tensor × Int) :=
  if 0 ≤ x26 then ((at? x3 (wk .i64 ((wk .i64 (x16 * x6)) + x26))).bind fun x28 => nx2 (wk .u64 ((wk .u64 (x25 * 256)) + (wk .u64 x28))) (wk .i64 (x26 - 1))) else ref05_FromBytes_k1 fu nx1 x1 x13 x14 x15 x16 x25
def ref05_FromBytes_W2 (fu : Nat) (nx1 : (List Int) → (List Int) → (List Bool) → Int → Option (T_Tensor × Int)) (x1 : Int) (x3 : List Int) (x6 : Int) (x13 : List Int) (x14 : List Int) (x15 : List Bool) (x16 : Int) (x25 : Int) (x26 : Int) : Option (T_Tensor × Int) :=
  cloop (fun next s => ref05_FromBytes_L2 fu nx1 x1 x3 x6 x13 x14 x15 x16 (fun x25 x26 => next (x25, x26)) s.1 s.2) fu (x25, x26)
def ref05_FromBytes_L1 (fu : Nat) (x1 : Int) (x3 : List Int) (x4 : T_Tensor × Int) (x5 : Int × Int) (x6 : Int) (nx1 : (List Int) → (List Int) → (List Bool) → Int → Option (T_Tensor × Int)) (x13 : List Int) (x14 : List Int) (x15 : List Bool) (x16 : Int) : Option (T_Tensor × Int) :=
  if x16 < x5.1 then (ref05_FromBytes_W2 fu nx1 x1 x3 x6 x13 x14 x15 x16 0 (wk .i64 (x6 - 1))) else some (T_Tensor.mk x4.1.fType x4.1.fDims x13 x14 x15, 0)
def ref05_FromBytes_W1 (fu : Nat) (x1 : Int) (x3 : List Int) (x4 : T_Tensor × Int) (x5 : Int × Int) (x6 : Int) (x13 : List Int) (x14 : List Int) (x15 : List Bool) (x16 : Int) : Option (T_Tensor × Int) :=
  cloop (fun next s => ref05_FromBytes_L1 fu x1 x3 x4 x5 x6 (fun x13 x14 x15 x16 => next (x13, x14, x15, x16)) s.1 s.2.1 s.2.2.1 s.2.2.2) fu (x13, x14, x15, x16)
def ref05_FromBytes (fu : Nat) (x1 : Int) (x2 : List Int) (x3 : List Int) : Option (T_Tensor × Int) :=
  (ref05_New fu x1 x2).bind fun x4 => if x4.2 = 0 then ((ref04_Size fu x2).bind fun x5 => (ref05_Width fu x1).bind fun x6 => if (x3.length : Int) = (wk .i64 (x5.1 * x6)) then (ref05_FromBytes_W1 fu x1 x3 x4 x5 x6 x4.1.fF x4.1.fI x4.1.fB 0) else some (T_Tensor.mk 0 ([]) ([]) ([]) ([]), 3)) else some (T_Tensor.mk 0 ([]) ([]) ([]) ([]), x4.2)

/-! lattice/latticelaw05.TensBytes -/
def law05_TensBytes_L1 (fu : Nat) (x5 : (List Int) × Int) (x6 : (List Int) × Int) (nx1 : Int → Option Bool) (x11 : Int) : Option Bool :=
  if x11 < ((x5.1.length : Nat) : Int) then ((at? x5.1 x11).bind fun x14 => (at? x6.1 x11).bind fun x15 => if x14 = x15 then (nx1 (wk .i64 (x11 + 1))) else some false) else some true
def law05_TensBytes_W1 (fu : Nat) (x5 : (List Int) × Int) (x6 : (List Int) × Int) (x11 : Int) : Option Bool :=
  cloop (fun next s => law05_TensBytes_L1 fu x5 x6 next s) fu x11
def law05_TensBytes_k1 (fu : Nat) (x5 : (List Int) × Int) (x6 : (List Int) × Int) : Option Bool :=
  law05_TensBytes_W1 fu x5 x6 0
def law05_TensBytes (fu : Nat) (x1 : T_Tensor) (x2 : Int) (x3 : List Int) (x4 : List Int) : Option Bool :=
  (tens_Bytes fu x1).bind fun x5 => (ref05_Bytes fu x1).bind fun x6 => (tens_FromBytes fu x2 x3 x4).bind fun x7 => (ref05_FromBytes fu x2 x3 x4).bind fun x8 => if x5.2 = x6.2 then (if x7.2 = x8.2 then (if ((x5.1.length : Nat) : Int) = ((x6.1.length : Nat) : Int) then ((ref05_Same fu x7.1 x8.1).bind fun x16 => if x16 = true then (law05_TensBytes_k1 fu x5 x6) else some false) else some false) else some false) else some false

/-! lattice/latticeref01.Abs -/
def ref01_Abs (fu : Nat) (x1 : Int) : Option Int :=
  some (Int.tmod x1 2147483648)

/-! lattice/latticeref01.IsNone -/
def ref01_IsNone (fu : Nat) (x1 : Int) : Option Bool :=
  (ref01_Abs fu x1).bind fun x2 => some (decide (2139095040 < x2))

/-! lattice/latticeref01.Canon -/
def ref01_Canon (fu : Nat) (x1 : Int) : Option Int :=
  (ref01_IsNone fu x1).bind fun x2 => if x2 = true then (some 2143289344) else some x1

/-! lattice/latticeref05.Canon -/
def ref05_Canon_L1 (fu : Nat) (x2 : T_Tensor) (nx1 : (List Int) → Int → Option T_Tensor) (x5 : List Int) (x6 : Int) : Option T_Tensor :=
  if x6 < (x5.length : Int) then ((at? x5 x6).bind fun x9 => (ref01_Canon fu x9).bind fun x10 => chk (0 ≤ x6 ∧ x6 < (x5.length : Int)) <| nx1 (x5.set x6.toNat x10) (wk .i64 (x6 + 1))) else some (T_Tensor.mk x2.fType x2.fDims x5 x2.fI x2.fB)
def ref05_Canon_W1 (fu : Nat) (x2 : T_Tensor) (x5 : List Int) (x6 : Int) : Option T_Tensor :=
  cloop (fun next s => ref05_Canon_L1 fu x2 (fun x5 x6 => next (x5, x6)) s.1 s.2) fu (x5, x6)
def ref05_Canon (fu : Nat) (x1 : T_Tensor) : Option T_Tensor :=
  (ref05_Copy fu x1).bind fun x2 => ref05_Canon_W1 fu x2 x2.fF 0

/-! slices.Equal[[]int,int] -/
def slices_Equal_int_L1 (fu : Nat) (x1 : List Int) (x2 : List Int) (nx1 : Int → Option Bool) (x5 : Int) : Option Bool :=
  if x5 < (x1.length : Int) then ((at? x1 x5).bind fun x8 => (at? x2 x5).bind fun x9 => if x8 = x9 then (nx1 (wk .i64 (x5 + 1))) else some false) else some true
def slices_Equal_int_W1 (fu : Nat) (x1 : List Int) (x2 : List Int) (x5 : Int) : Option Bool :=
  cloop (fun next s => slices_Equal_int_L1 fu x1 x2 next s) fu x5
def slices_Equal_int (fu : Nat) (x1 : List Int) (x2 : List Int) : Option Bool :=
  if (x1.length : Int) = (x2.length : Int) then (slices_Equal_int_W1 fu x1 x2 0) else some false

/-! slices.Equal[[]uint32,uint32] -/
def slices_Equal_uint32_L1 (fu : Nat) (x1 : List Int) (x2 : List Int) (nx1 : Int → Option Bool) (x5 : Int) : Option Bool :=
  if x5 < (x1.length : Int) then ((at? x1 x5).bind fun x8 => (at? x2 x5).bind fun x9 => if x8 = x9 then (nx1 (wk .i64 (x5 + 1))) else some false) else some true
def slices_Equal_uint32_W1 (fu : Nat) (x1 : List Int) (x2 : List Int) (x5 : Int) : Option Bool :=
  cloop (fun next s => slices_Equal_uint32_L1 fu x1 x2 next s) fu x5
def slices_Equal_uint32 (fu : Nat) (x1 : List Int) (x2 : List Int) : Option Bool :=
  if (x1.length : Int) = (x2.length : Int) then (slices_Equal_uint32_W1 fu x1 x2 0) else some false

/-! slices.Equal[[]int64,int64] -/
def slices_Equal_int64_L1 (fu : Nat) (x1 : List Int) (x2 : List Int) (nx1 : Int → Option Bool) (x5 : Int) : Option Bool :=
  if x5 < (x1.length : Int) then ((at? x1 x5).bind fun x8 => (at? x2 x5).bind fun x9 => if x8 = x9 then (nx1 (wk .i64 (x5 + 1))) else some false) else some true
def slices_Equal_int64_W1 (fu : Nat) (x1 : List Int) (x2 : List Int) (x5 : Int) : Option Bool :=
  cloop (fun next s => slices_Equal_int64_L1 fu x1 x2 next s) fu x5
def slices_Equal_int64 (fu : Nat) (x1 : List Int) (x2 : List Int) : Option Bool :=
  if (x1.length : Int) = (x2.length : Int) then (slices_Equal_int64_W1 fu x1 x2 0) else some false

/-! slices.Equal[[]bool,bool] -/
def slices_Equal_bool_L1 (fu : Nat) (x1 : List Bool) (x2 : List Bool) (nx1 : Int → Option Bool) (x5 : Int) : Option Bool :=
  if x5 < (x1.length : Int) then ((at? x1 x5).bind fun x8 => (at? x2 x5).bind fun x9 => if (x8 == x9) = true then (nx1 (wk .i64 (x5 + 1))) else some false) else some true
def slices_Equal_bool_W1 (fu : Nat) (x1 : List Bool) (x2 : List Bool) (x5 : Int) : Option Bool :=
  cloop (fun next s => slices_Equal_bool_L1 fu x1 x2 next s) fu x5
def slices_Equal_bool (fu : Nat) (x1 : List Bool) (x2 : List Bool) : Option Bool :=
  if (x1.length : Int) = (x2.length : Int) then (slices_Equal_bool_W1 fu x1 x2 0) else some false

/-! lattice/tens.Same -/
def tens_Same (fu : Nat) (x1 : T_Tensor) (x2 : T_Tensor) : Option Bool :=
  if x1.fType = x2.fType then ((slices_Equal_int fu x1.fDims x2.fDims).bind fun x3 => if x3 = true then ((slices_Equal_uint32 fu x1.fF x2.fF).bind fun x4 => if x4 = true then ((slices_Equal_int64 fu x1.fI x2.fI).bind fun x5 => if x5 = true then ((slices_Equal_bool fu x1.fB x2.fB).bind fun x6 => some x6) else some false) else some false) else some false) else some false

/-! lattice/latticelaw05.TensLooks -/
def law05_TensLooks_L2 (fu : Nat) (x1 : T_Tensor) (x2 : T_Tensor) (x3 : T_Tensor) (x5 : T_Tensor) (x6 : Bool) (x15 : List Int) (x16 : List Int) (x17 : List Int) (nx2 : (List Bool) → Int → Option Bool) (x19 : List Bool) (x20 : Int) : Option Bool :=
  if x20 < ((x5.fB.length : Nat) : Int) then (chk (0 ≤ x20 ∧ x20 < ((x5.fB.length : Nat) : Int)) <| (at? x19 x20).bind fun x22 => chk (0 ≤ x20 ∧ x20 < (x19.length : Int)) <| nx2 (x19.set x20.toNat (!x22)) (wk .i64 (x20 + 1))) else chk (x5.fDims.length = x15.length) <| chk (x5.fF.length = x16.length) <| chk (x5.fI.length = x17.length) <| chk (x5.fB.length = x19.length) <| (ref05_Same fu x1 x3).bind fun x23 => if x6 = true then (if x23 = true then ((tens_Check fu x1).bind fun x24 => (ref05_Check fu x1).bind fun x25 => if x24 = x25 then ((tens_Check fu x2).bind fun x26 => (ref05_Check fu x2).bind fun x27 => if x26 = x27 then ((tens_Same fu x1 x2).bind fun x28 => (ref05_Same fu x1 x2).bind fun x29 => if (x28 == x29) = true then ((tens_Same fu x1 x3).bind fun x30 => if x30 = true then ((ref05_Copy fu x2).bind fun x31 => (tens_Same fu x2 x31).bind fun x32 => some x32) else some false) else some false) else some false) else some false) else some false) else some false
def law05_TensLooks_W2 (fu : Nat) (x1 : T_Tensor) (x2 : T_Tensor) (x3 : T_Tensor) (x5 : T_Tensor) (x6 : Bool) (x15 : List Int) (x16 : List Int) (x17 : List Int) (x19 : List Bool) (x20 : Int) : Option Bool :=
  cloop (fun next s => law05_TensLooks_L2 fu x1 x2 x3 x5 x6 x15 x16 x17 (fun x19 x20 => next (x19, x20)) s.1 s.2) fu (x19, x20)
def law05_TensLooks_k7 (fu : Nat) (x1 : T_Tensor) (x2 : T_Tensor) (x3 : T_Tensor) (x5 : T_Tensor) (x6 : Bool) (x15 : List Int) (x16 : List Int) (x17 : List Int) : Option Bool :=
  law05_TensLooks_W2 fu x1 x2 x3 x5 x6 x15 x16 x17 x5.fB 0
def law05_TensLooks_L3 (fu : Nat) (x1 : T_Tensor) (x2 : T_Tensor) (x3 : T_Tensor) (x5 : T_Tensor) (x6 : Bool) (x15 : List Int) (x16 : List Int) (nx3 : (List Int) → Int → Option Bool) (x34 : List Int) (x35 : Int) : Option Bool :=
  if x35 < ((x5.fI.length : Nat) : Int) then (chk (0 ≤ x35 ∧ x35 < ((x5.fI.length : Nat) : Int)) <| (at? x34 x35).bind fun x37 => chk (0 ≤ x35 ∧ x35 < (x34.length : Int)) <| nx3 (x34.set x35.toNat (bxor .i64 x37 1)) (wk .i64 (x35 + 1))) else law05_TensLooks_k7 fu x1 x2 x3 x5 x6 x15 x16 x34
def law05_TensLooks_W3 (fu : Nat) (x1 : T_Tensor) (x2 : T_Tensor) (x3 : T_Tensor) (x5 : T_Tensor) (x6 : Bool) (x15 : List Int) (x16 : List Int) (x34 : List Int) (x35 : Int) : Option Bool :=
  cloop (fun next s => law05_TensLooks_L3 fu x1 x2 x3 x5 x6 x15 x16 (fun x34 x35 => next (x34, x35)) s.1 s.2) fu (x34, x35)
def law05_TensLooks_k6 (fu : Nat) (x1 : T_Tensor) (x2 : T_Tensor) (x3 : T_Tensor) (x5 : T_Tensor) (x6 : Bool) (x15 : List Int) (x16 : List Int) : Option Bool :=
  law05_TensLooks_W3 fu x1 x2 x3 x5 x6 x15 x16 x5.fI 0
def law05_TensLooks_L4 (fu : Nat) (x1 : T_Tensor) (x2 : T_Tensor) (x3 : T_Tensor) (x5 : T_Tensor) (x6 : Bool) (x15 : List Int) (nx4 : (List Int) → Int → Option Bool) (x39 : List Int) (x40 : Int) : Option Bool :=
  if x40 < ((x5.fF.length : Nat) : Int) then (chk (0 ≤ x40 ∧ x40 < ((x5.fF.length : Nat) : Int)) <| (at? x39 x40).bind fun x42 => chk (0 ≤ x40 ∧ x40 < (x39.length : Int)) <| nx4 (x39.set x40.toNat (bxor .u32 x42 1)) (wk .i64 (x40 + 1))) else law05_TensLooks_k6 fu x1 x2 x3 x5 x6 x15 x39
def law05_TensLooks_W4 (fu : Nat) (x1 : T_Tensor) (x2 : T_Tensor) (x3 : T_Tensor) (x5 : T_Tensor) (x6 : Bool) (x15 : List Int) (x39 : List Int) (x40 : Int) : Option Bool :=
  cloop (fun next s => law05_TensLooks_L4 fu x1 x2 x3 x5 x6 x15 (fun x39 x40 => next (x39, x40)) s.1 s.2) fu (x39, x40)
def law05_TensLooks_k5 (fu : Nat) (x1 : T_Tensor) (x2 : T_Tensor) (x3 : T_Tensor) (x5 : T_Tensor) (x6 : Bool) (x15 : List Int) : Option Bool :=
  law05_TensLooks_W4 fu x1 x2 x3 x5 x6 x15 x5.fF 0
def law05_TensLooks_L5 (fu : Nat) (x1 : T_Tensor) (x2 : T_Tensor) (x3 : T_Tensor) (x5 : T_Tensor) (x6 : Bool) (nx5 : (List Int) → Int → Option Bool) (x44 : List Int) (x45 : Int) : Option Bool :=
  if x45 < ((x5.fDims.length : Nat) : Int) then (chk (0 ≤ x45 ∧ x45 < ((x5.fDims.length : Nat) : Int)) <| (at? x44 x45).bind fun x47 => chk (0 ≤ x45 ∧ x45 < (x44.length : Int)) <| nx5 (x44.set x45.toNat (bxor .i64 x47 64)) (wk .i64 (x45 + 1))) else law05_TensLooks_k5 fu x1 x2 x3 x5 x6 x44
def law05_TensLooks_W5 (fu : Nat) (x1 : T_Tensor) (x2 : T_Tensor) (x3 : T_Tensor) (x5 : T_Tensor) (x6 : Bool) (x44 : List Int) (x45 : Int) : Option Bool :=
  cloop (fun next s => law05_TensLooks_L5 fu x1 x2 x3 x5 x6 (fun x44 x45 => next (x44, x45)) s.1 s.2) fu (x44, x45)
def law05_TensLooks_L1 (fu : Nat) (x1 : T_Tensor) (x2 : T_Tensor) (x3 : T_Tensor) (x4 : T_Tensor) (x5 : T_Tensor) (x6 : Bool) (x7 : List Int) (x8 : List Int) (x9 : List Int) (nx1 : (List Bool) → Int → Option Bool) (x11 : List Bool) (x12 : Int) : Option Bool :=
  if x12 < ((x4.fB.length : Nat) : Int) then (chk (0 ≤ x12 ∧ x12 < ((x4.fB.length : Nat) : Int)) <| (at? x11 x12).bind fun x14 => chk (0 ≤ x12 ∧ x12 < (x11.length : Int)) <| nx1 (x11.set x12.toNat (!x14)) (wk .i64 (x12 + 1))) else chk (x4.fDims.length = x7.length) <| chk (x4.fF.length = x8.length) <| chk (x4.fI.length = x9.length) <| chk (x4.fB.length = x11.length) <| law05_TensLooks_W5 fu x1 x2 x3 x5 x6 x5.fDims 0
def law05_TensLooks_W1 (fu : Nat) (x1 : T_Tensor) (x2 : T_Tensor) (x3 : T_Tensor) (x4 : T_Tensor) (x5 : T_Tensor) (x6 : Bool) (x7 : List Int) (x8 : List Int) (x9 : List Int) (x11 : List Bool) (x12 : Int) : Option Bool :=
  cloop (fun next s => law05_TensLooks_L1 fu x1 x2 x3 x4 x5 x6 x7 x8 x9 (fun x11 x12 => next (x11, x12)) s.1 s.2) fu (x11, x12)
def law05_TensLooks_k4 (fu : Nat) (x1 : T_Tensor) (x2 : T_Tensor) (x3 : T_Tensor) (x4 : T_Tensor) (x5 : T_Tensor) (x6 : Bool) (x7 : List Int) (x8 : List Int) (x9 : List Int) : Option Bool :=
  law05_TensLooks_W1 fu x1 x2 x3 x4 x5 x6 x7 x8 x9 x4.fB 0
def law05_TensLooks_L6 (fu : Nat) (x1 : T_Tensor) (x2 : T_Tensor) (x3 : T_Tensor) (x4 : T_Tensor) (x5 : T_Tensor) (x6 : Bool) (x7 : List Int) (x8 : List Int) (nx6 : (List Int) → Int → Option Bool) (x49 : List Int) (x50 : Int) : Option Bool :=
  if x50 < ((x4.fI.length : Nat) : Int) then (chk (0 ≤ x50 ∧ x50 < ((x4.fI.length : Nat) : Int)) <| (at? x49 x50).bind fun x52 => chk (0 ≤ x50 ∧ x50 < (x49.length : Int)) <| nx6 (x49.set x50.toNat (bxor .i64 x52 1)) (wk .i64 (x50 + 1))) else law05_TensLooks_k4 fu x1 x2 x3 x4 x5 x6 x7 x8 x49
def law05_TensLooks_W6 (fu : Nat) (x1 : T_Tensor) (x2 : T_Tensor) (x3 : T_Tensor) (x4 : T_Tensor) (x5 : T_Tensor) (x6 : Bool) (x7 : List Int) (x8 : List Int) (x49 : List Int) (x50 : Int) : Option Bool :=
  cloop (fun next s => law05_TensLooks_L6 fu x1 x2 x3 x4 x5 x6 x7 x8 (fun x49 x50 => next (x49, x50)) s.1 s.2) fu (x49, x50)
def law05_TensLooks_k3 (fu : Nat) (x1 : T_Tensor) (x2 : T_Tensor) (x3 : T_Tensor) (x4 : T_Tensor) (x5 : T_Tensor) (x6 : Bool) (x7 : List Int) (x8 : List Int) : Option Bool :=
  law05_TensLooks_W6 fu x1 x2 x3 x4 x5 x6 x7 x8 x4.fI 0
def law05_TensLooks_L7 (fu : Nat) (x1 : T_Tensor) (x2 : T_Tensor) (x3 : T_Tensor) (x4 : T_Tensor) (x5 : T_Tensor) (x6 : Bool) (x7 : List Int) (nx7 : (List Int) → Int → Option Bool) (x54 : List Int) (x55 : Int) : Option Bool :=
  if x55 < ((x4.fF.length : Nat) : Int) then (chk (0 ≤ x55 ∧ x55 < ((x4.fF.length : Nat) : Int)) <| (at? x54 x55).bind fun x57 => chk (0 ≤ x55 ∧ x55 < (x54.length : Int)) <| nx7 (x54.set x55.toNat (bxor .u32 x57 1)) (wk .i64 (x55 + 1))) else law05_TensLooks_k3 fu x1 x2 x3 x4 x5 x6 x7 x54
def law05_TensLooks_W7 (fu : Nat) (x1 : T_Tensor) (x2 : T_Tensor) (x3 : T_Tensor) (x4 : T_Tensor) (x5 : T_Tensor) (x6 : Bool) (x7 : List Int) (x54 : List Int) (x55 : Int) : Option Bool :=
  cloop (fun next s => law05_TensLooks_L7 fu x1 x2 x3 x4 x5 x6 x7 (fun x54 x55 => next (x54, x55)) s.1 s.2) fu (x54, x55)
def law05_TensLooks_k2 (fu : Nat) (x1 : T_Tensor) (x2 : T_Tensor) (x3 : T_Tensor) (x4 : T_Tensor) (x5 : T_Tensor) (x6 : Bool) (x7 : List Int) : Option Bool :=
  law05_TensLooks_W7 fu x1 x2 x3 x4 x5 x6 x7 x4.fF 0
def law05_TensLooks_L8 (fu : Nat) (x1 : T_Tensor) (x2 : T_Tensor) (x3 : T_Tensor) (x4 : T_Tensor) (x5 : T_Tensor) (x6 : Bool) (nx8 : (List Int) → Int → Option Bool) (x59 : List Int) (x60 : Int) : Option Bool :=
  if x60 < ((x4.fDims.length : Nat) : Int) then (chk (0 ≤ x60 ∧ x60 < ((x4.fDims.length : Nat) : Int)) <| (at? x59 x60).bind fun x62 => chk (0 ≤ x60 ∧ x60 < (x59.length : Int)) <| nx8 (x59.set x60.toNat (bxor .i64 x62 64)) (wk .i64 (x60 + 1))) else law05_TensLooks_k2 fu x1 x2 x3 x4 x5 x6 x59
def law05_TensLooks_W8 (fu : Nat) (x1 : T_Tensor) (x2 : T_Tensor) (x3 : T_Tensor) (x4 : T_Tensor) (x5 : T_Tensor) (x6 : Bool) (x59 : List Int) (x60 : Int) : Option Bool :=
  cloop (fun next s => law05_TensLooks_L8 fu x1 x2 x3 x4 x5 x6 (fun x59 x60 => next (x59, x60)) s.1 s.2) fu (x59, x60)
def law05_TensLooks_k1 (fu : Nat) (x1 : T_Tensor) (x2 : T_Tensor) (x3 : T_Tensor) (x4 : T_Tensor) (x5 : T_Tensor) (x6 : Bool) : Option Bool :=
  law05_TensLooks_W8 fu x1 x2 x3 x4 x5 x6 x4.fDims 0
def law05_TensLooks (fu : Nat) (x1 : T_Tensor) (x2 : T_Tensor) : Option Bool :=
  (ref05_Copy fu x1).bind fun x3 => (tens_Copy fu x1).bind fun x4 => (tens_Canon fu x1).bind fun x5 => (ref05_Same fu x4 x3).bind fun x63 => if x63 = true then ((ref05_Canon fu x3).bind fun x64 => (ref05_Same fu x5 x64).bind fun x65 => law05_TensLooks_k1 fu x1 x2 x3 x4 x5 x65) else law05_TensLooks_k1 fu x1 x2 x3 x4 x5 false

/-! lattice/latticelaw05.TensBack -/
def law05_TensBack_k1 (fu : Nat) (x7 : Bool) : Option Bool :=
  some x7
def law05_TensBack (fu : Nat) (x1 : T_Tensor) : Option Bool :=
  (tens_Bytes fu x1).bind fun x2 => if x2.2 = 0 then ((tens_FromBytes fu x1.fType x1.fDims x2.1).bind fun x3 => (ref04_Size fu x1.fDims).bind fun x4 => if x3.2 = 0 then (if x4.2 = 0 then ((tens_Same fu x1 x3.1).bind fun x5 => if x5 = true then ((tens_Width fu x1.fType).bind fun x6 => some (decide (((x2.1.length : Nat) : Int) = (wk .i64 (x4.1 * x6))))) else some false) else some false) else some false) else (tens_Check fu x1).bind fun x8 => if x2.2 = x8 then (law05_TensBack_k1 fu (decide (((x2.1.length : Nat) : Int) = 0))) else law05_TensBack_k1 fu false

/-! lattice/latticelaw05.TensTurns -/
def law05_TensTurns_k2 (fu : Nat) (x1 : T_Tensor) (x4 : Int × Int) (x5 : List Int) (x6 : List Int) : Option Bool :=
  (tens_Pick fu x1 ([x4.1]) x5).bind fun x7 => (tens_Pick fu x7.1 x1.fDims x6).bind fun x8 => if x7.2 = 0 then (if x8.2 = 0 then ((tens_Same fu x8.1 x1).bind fun x9 => some x9) else some false) else some false
def law05_TensTurns_L1 (fu : Nat) (x1 : T_Tensor) (x4 : Int × Int) (x5 : List Int) (nx1 : (List Int) → Int → Option Bool) (x11 : List Int) (x12 : Int) : Option Bool :=
  if x12 < x4.1 then ((at? x5 x12).bind fun x14 => chk (0 ≤ x14 ∧ x14 < (x11.length : Int)) <| nx1 (x11.set x14.toNat x12) (wk .i64 (x12 + 1))) else law05_TensTurns_k2 fu x1 x4 x5 x11
def law05_TensTurns_W1 (fu : Nat) (x1 : T_Tensor) (x4 : Int × Int) (x5 : List Int) (x11 : List Int) (x12 : Int) : Option Bool :=
  cloop (fun next s => law05_TensTurns_L1 fu x1 x4 x5 (fun x11 x12 => next (x11, x12)) s.1 s.2) fu (x11, x12)
def law05_TensTurns_k1 (fu : Nat) (x1 : T_Tensor) (x4 : Int × Int) (x5 : List Int) : Option Bool :=
  chk (0 ≤ x4.1 ∧ x4.1 * 8 ≤ 140737488355328) <| law05_TensTurns_W1 fu x1 x4 x5 (List.replicate x4.1.toNat (0 : Int)) 0
def law05_TensTurns_L2 (fu : Nat) (x1 : T_Tensor) (x2 : Int) (x4 : Int × Int) (nx2 : (List Int) → Int → Option Bool) (x15 : List Int) (x16 : Int) : Option Bool :=
  if x16 < x4.1 then (chk (x4.1 ≠ 0) <| chk ((x15.length + 1 : Int) * 8 ≤ 140737488355328) <| nx2 (x15 ++ ([wk .i64 ((wk .i64 (x4.1 - 1)) - (Int.tmod (wk .i64 (x16 + (band .i64 x2 4095))) x4.1))])) (wk .i64 (x16 + 1))) else law05_TensTurns_k1 fu x1 x4 x15
def law05_TensTurns_W2 (fu : Nat) (x1 : T_Tensor) (x2 : Int) (x4 : Int × Int) (x15 : List Int) (x16 : Int) : Option Bool :=
  cloop (fun next s => law05_TensTurns_L2 fu x1 x2 x4 (fun x15 x16 => next (x15, x16)) s.1 s.2) fu (x15, x16)
def law05_TensTurns (fu : Nat) (x1 : T_Tensor) (x2 : Int) : Option Bool :=
  (tens_Check fu x1).bind fun x3 => if x3 = 0 then ((ref04_Size fu x1.fDims).bind fun x4 => law05_TensTurns_W2 fu x1 x2 x4 ([] : List Int) 0) else some true

end Go.Av
