/- Plain functions, as the program has them; data of structs. Made by a program of mine. Conditions: none. -/
import Derived.Test.YtnpnomlnajgbcaaGreatAu
set_option linter.unusedVariables false
namespace Go.Av

structure T_Tensor where
  fType : Int
  fDims : List Int
  fF : List Int
  fI : List Int
  fB : List Bool
def c_T_Tensor (x : T_Tensor) : List AV := [.v (.int .i64 x.fType), .arr x.fDims.length (lm (ik .i64) x.fDims), .arr x.fF.length (lm (ik .u32) x.fF), .arr x.fI.length (lm (ik .i64) x.fI), .arr x.fB.length (lm (bk) x.fB)]
theorem c_T_Tensor_len : ∀ x, (c_T_Tensor x).length = 5 := fun _ => rfl
theorem c_T_Tensor_one : ∀ x, (c_T_Tensor x).all AV.one = true := fun _ => rfl

structure T_Setting where
  fAxis : Int
  fAxes : List Int
  fHasAxes : Bool
  fKeep : Bool
  fNoop : Bool
  fLast : Bool
  fZero : Bool
  fPerm : List Int
  fHasPerm : Bool
  fAlpha : Int
  fBeta : Int
  fEpsilon : Int
  fLow : Bool
  fHigh : Bool
  fFmod : Bool
  fTo : Int
  fMode : Int
  fTransA : Bool
  fTransB : Bool
  fGroup : Int
  fKernel : List Int
  fStrides : List Int
  fPads : List Int
  fDilations : List Int
  fAuto : Int
  fCeil : Bool
  fCount : Bool
  fBlock : Int
  fStart : Int
  fEnd : Int
  fHasEnd : Bool
  fValue : T_Tensor
def c_T_Setting (x : T_Setting) : List AV := [.v (.int .i64 x.fAxis), .arr x.fAxes.length (lm (ik .i64) x.fAxes), .v (.bool x.fHasAxes), .v (.bool x.fKeep), .v (.bool x.fNoop), .v (.bool x.fLast), .v (.bool x.fZero), .arr x.fPerm.length (lm (ik .i64) x.fPerm), .v (.bool x.fHasPerm), .v (.int .u32 x.fAlpha), .v (.int .u32 x.fBeta), .v (.int .u32 x.fEpsilon), .v (.bool x.fLow), .v (.bool x.fHigh), .v (.bool x.fFmod), .v (.int .i64 x.fTo), .v (.int .i64 x.fMode), .v (.bool x.fTransA), .v (.bool x.fTransB), .v (.int .i64 x.fGroup), .arr x.fKernel.length (lm (ik .i64) x.fKernel), .arr x.fStrides.length (lm (ik .i64) x.fStrides), .arr x.fPads.length (lm (ik .i64) x.fPads), .arr x.fDilations.length (lm (ik .i64) x.fDilations), .v (.int .i64 x.fAuto), .v (.bool x.fCeil), .v (.bool x.fCount), .v (.int .i64 x.fBlock), .v (.int .i64 x.fStart), .v (.int .i64 x.fEnd), .v (.bool x.fHasEnd), .v (.int .i64 x.fValue.fType), .arr x.fValue.fDims.length (lm (ik .i64) x.fValue.fDims), .arr x.fValue.fF.length (lm (ik .u32) x.fValue.fF), .arr x.fValue.fI.length (lm (ik .i64) x.fValue.fI), .arr x.fValue.fB.length (lm (bk) x.fValue.fB)]
theorem c_T_Setting_len : ∀ x, (c_T_Setting x).length = 36 := fun _ => rfl
theorem c_T_Setting_one : ∀ x, (c_T_Setting x).all AV.one = true := fun _ => rfl

structure T_Val where
  fType : Int
  fDims : List Int
  fConst : Bool
  fT : T_Tensor
def c_T_Val (x : T_Val) : List AV := [.v (.int .i64 x.fType), .arr x.fDims.length (lm (ik .i64) x.fDims), .v (.bool x.fConst), .v (.int .i64 x.fT.fType), .arr x.fT.fDims.length (lm (ik .i64) x.fT.fDims), .arr x.fT.fF.length (lm (ik .u32) x.fT.fF), .arr x.fT.fI.length (lm (ik .i64) x.fT.fI), .arr x.fT.fB.length (lm (bk) x.fT.fB)]
theorem c_T_Val_len : ∀ x, (c_T_Val x).length = 8 := fun _ => rfl
theorem c_T_Val_one : ∀ x, (c_T_Val x).all AV.one = true := fun _ => rfl

structure T_infer_ask where
  fop : Int
  fs : T_Setting
  fin : List T_Val
  fouts : Int
def c_T_infer_ask (x : T_infer_ask) : List AV := [.v (.int .i64 x.fop), .v (.int .i64 x.fs.fAxis), .arr x.fs.fAxes.length (lm (ik .i64) x.fs.fAxes), .v (.bool x.fs.fHasAxes), .v (.bool x.fs.fKeep), .v (.bool x.fs.fNoop), .v (.bool x.fs.fLast), .v (.bool x.fs.fZero), .arr x.fs.fPerm.length (lm (ik .i64) x.fs.fPerm), .v (.bool x.fs.fHasPerm), .v (.int .u32 x.fs.fAlpha), .v (.int .u32 x.fs.fBeta), .v (.int .u32 x.fs.fEpsilon), .v (.bool x.fs.fLow), .v (.bool x.fs.fHigh), .v (.bool x.fs.fFmod), .v (.int .i64 x.fs.fTo), .v (.int .i64 x.fs.fMode), .v (.bool x.fs.fTransA), .v (.bool x.fs.fTransB), .v (.int .i64 x.fs.fGroup), .arr x.fs.fKernel.length (lm (ik .i64) x.fs.fKernel), .arr x.fs.fStrides.length (lm (ik .i64) x.fs.fStrides), .arr x.fs.fPads.length (lm (ik .i64) x.fs.fPads), .arr x.fs.fDilations.length (lm (ik .i64) x.fs.fDilations), .v (.int .i64 x.fs.fAuto), .v (.bool x.fs.fCeil), .v (.bool x.fs.fCount), .v (.int .i64 x.fs.fBlock), .v (.int .i64 x.fs.fStart), .v (.int .i64 x.fs.fEnd), .v (.bool x.fs.fHasEnd), .v (.int .i64 x.fs.fValue.fType), .arr x.fs.fValue.fDims.length (lm (ik .i64) x.fs.fValue.fDims), .arr x.fs.fValue.fF.length (lm (ik .u32) x.fs.fValue.fF), .arr x.fs.fValue.fI.length (lm (ik .i64) x.fs.fValue.fI), .arr x.fs.fValue.fB.length (lm (bk) x.fs.fValue.fB), .arr x.fin.length (fm c_T_Val x.fin), .v (.int .i64 x.fouts)]
theorem c_T_infer_ask_len : ∀ x, (c_T_infer_ask x).length = 39 := fun _ => rfl
theorem c_T_infer_ask_one : ∀ x, (c_T_infer_ask x).all AV.one = true := fun _ => rfl

structure T_moves_move where
  fop : Int
  fs : T_Setting
  fin : List T_Tensor
  fx : T_Tensor
  faxis : Int
def c_T_moves_move (x : T_moves_move) : List AV := [.v (.int .i64 x.fop), .v (.int .i64 x.fs.fAxis), .arr x.fs.fAxes.length (lm (ik .i64) x.fs.fAxes), .v (.bool x.fs.fHasAxes), .v (.bool x.fs.fKeep), .v (.bool x.fs.fNoop), .v (.bool x.fs.fLast), .v (.bool x.fs.fZero), .arr x.fs.fPerm.length (lm (ik .i64) x.fs.fPerm), .v (.bool x.fs.fHasPerm), .v (.int .u32 x.fs.fAlpha), .v (.int .u32 x.fs.fBeta), .v (.int .u32 x.fs.fEpsilon), .v (.bool x.fs.fLow), .v (.bool x.fs.fHigh), .v (.bool x.fs.fFmod), .v (.int .i64 x.fs.fTo), .v (.int .i64 x.fs.fMode), .v (.bool x.fs.fTransA), .v (.bool x.fs.fTransB), .v (.int .i64 x.fs.fGroup), .arr x.fs.fKernel.length (lm (ik .i64) x.fs.fKernel), .arr x.fs.fStrides.length (lm (ik .i64) x.fs.fStrides), .arr x.fs.fPads.length (lm (ik .i64) x.fs.fPads), .arr x.fs.fDilations.length (lm (ik .i64) x.fs.fDilations), .v (.int .i64 x.fs.fAuto), .v (.bool x.fs.fCeil), .v (.bool x.fs.fCount), .v (.int .i64 x.fs.fBlock), .v (.int .i64 x.fs.fStart), .v (.int .i64 x.fs.fEnd), .v (.bool x.fs.fHasEnd), .v (.int .i64 x.fs.fValue.fType), .arr x.fs.fValue.fDims.length (lm (ik .i64) x.fs.fValue.fDims), .arr x.fs.fValue.fF.length (lm (ik .u32) x.fs.fValue.fF), .arr x.fs.fValue.fI.length (lm (ik .i64) x.fs.fValue.fI), .arr x.fs.fValue.fB.length (lm (bk) x.fs.fValue.fB), .arr x.fin.length (fm c_T_Tensor x.fin), .v (.int .i64 x.fx.fType), .arr x.fx.fDims.length (lm (ik .i64) x.fx.fDims), .arr x.fx.fF.length (lm (ik .u32) x.fx.fF), .arr x.fx.fI.length (lm (ik .i64) x.fx.fI), .arr x.fx.fB.length (lm (bk) x.fx.fB), .v (.int .i64 x.faxis)]
theorem c_T_moves_move_len : ∀ x, (c_T_moves_move x).length = 44 := fun _ => rfl
theorem c_T_moves_move_one : ∀ x, (c_T_moves_move x).all AV.one = true := fun _ => rfl

/-! lattice/latticeref04.Axis -/
def ref04_Axis.k1 (fu : Nat) (x1 : Int) (x2 : Int) : Option (Int × Int) :=
  if 0 ≤ x1 then (if x1 < x2 then (some (x1, 0)) else some (0, 2)) else some (0, 2)
def ref04_Axis (fu : Nat) (x1 : Int) (x2 : Int) : Option (Int × Int) :=
  if x2 < 0 then (some (0, 2)) else jn 1 () (fun (t : Unit) => ref04_Axis.k1 fu x1 x2) <| if x1 < 0 then (if (wk .i64 (0 - x2)) ≤ x1 then (some (wk .i64 (x1 + x2), 0)) else ref04_Axis.k1 fu x1 x2) else ref04_Axis.k1 fu x1 x2

/-! lattice/latticeref05.Known -/
def ref05_Known (fu : Nat) (x1 : Int) : Option Bool :=
  if x1 = 1 then (some true) else if x1 = 7 then (some true) else some (decide (x1 = 9))

/-! lattice/latticeref04.Size -/
def ref04_Size.k2 (fu : Nat) (nx1 : Int → Int → Option (Int × Int)) (x1 : List Int) (x6 : Int) (x7 : Int) : Option (Int × Int) :=
  (at? x1 x7).bind fun x10 => nx1 (wk .i64 (x6 * x10)) (wk .i64 (x7 + 1))
def ref04_Size.L1 (fu : Nat) (x1 : List Int) (nx1 : Int → Int → Option (Int × Int)) (x6 : Int) (x7 : Int) : Option (Int × Int) :=
  if x7 < (x1.length : Int) then (jn 2 () (fun (t : Unit) => ref04_Size.k2 fu nx1 x1 x6 x7) <| (at? x1 x7).bind fun x11 => if 4096 < x11 then (some (0, 4)) else if 4096 < (wk .i64 (x6 * x11)) then (some (0, 4)) else ref04_Size.k2 fu nx1 x1 x6 x7) else some (x6, 0)
def ref04_Size.W1 (fu : Nat) (x1 : List Int) (x6 : Int) (x7 : Int) : Option (Int × Int) :=
  cloop (fun next s => ref04_Size.L1 fu x1 (fun x6 x7 => next (x6, x7)) s.1 s.2) fu (x6, x7)
def ref04_Size.k1 (fu : Nat) (x1 : List Int) (x2 : Bool) (x3 : Bool) : Option (Int × Int) :=
  if x3 = true then (some (0, 4)) else if x2 = true then (some (0, 0)) else ref04_Size.W1 fu x1 1 0
def ref04_Size.k3 (fu : Nat) (nx2 : Bool → Bool → Int → Option (Int × Int)) (x14 : Bool) (x15 : Int) (x18 : Int) (x19 : Bool) : Option (Int × Int) :=
  if x14 = true then (nx2 x19 true (wk .i64 (x15 + 1))) else nx2 x19 (decide (4096 < x18)) (wk .i64 (x15 + 1))
def ref04_Size.L2 (fu : Nat) (x1 : List Int) (nx2 : Bool → Bool → Int → Option (Int × Int)) (x13 : Bool) (x14 : Bool) (x15 : Int) : Option (Int × Int) :=
  if x15 < (x1.length : Int) then ((at? x1 x15).bind fun x18 => if x18 < 0 then (some (0, 1)) else jn 3 () (fun (t : Bool) => ref04_Size.k3 fu nx2 x14 x15 x18 t) <| if x13 = true then (ref04_Size.k3 fu nx2 x14 x15 x18 true) else ref04_Size.k3 fu nx2 x14 x15 x18 (decide (x18 = 0))) else ref04_Size.k1 fu x1 x13 x14
def ref04_Size.W2 (fu : Nat) (x1 : List Int) (x13 : Bool) (x14 : Bool) (x15 : Int) : Option (Int × Int) :=
  cloop (fun next s => ref04_Size.L2 fu x1 (fun x13 x14 x15 => next (x13, x14, x15)) s.1 s.2.1 s.2.2) fu (x13, x14, x15)
def ref04_Size (fu : Nat) (x1 : List Int) : Option (Int × Int) :=
  jn 1 () (fun (t : Bool × Bool) => ref04_Size.k1 fu x1 t.1 t.2) <| ref04_Size.W2 fu x1 false (decide (8 < (x1.length : Int))) 0

/-! lattice/latticeref05.Check -/
def ref05_Check.k1 (fu : Nat) (x1 : T_Tensor) (x4 : Int) (x5 : Int) (x6 : Int) : Option Int :=
  if (x1.fF.length : Int) = x4 then (if (x1.fI.length : Int) = x5 then (if (x1.fB.length : Int) = x6 then (some 0) else some 3) else some 3) else some 3
def ref05_Check (fu : Nat) (x1 : T_Tensor) : Option Int :=
  (ref05_Known fu x1.fType).bind fun x2 => if x2 = true then ((ref04_Size fu x1.fDims).bind fun x3 => if x3.2 = 0 then (jn 1 () (fun (t : Int × Int × Int) => ref05_Check.k1 fu x1 t.1 t.2.1 t.2.2) <| if x1.fType = 1 then (ref05_Check.k1 fu x1 x3.1 0 0) else if x1.fType = 7 then (ref05_Check.k1 fu x1 0 x3.1 0) else ref05_Check.k1 fu x1 0 0 x3.1) else some x3.2) else some 5

/-! lattice/latticelaw12.list -/
def law12_list (fu : Nat) (x1 : List Int) : Option T_Tensor :=
  some (T_Tensor.mk 7 ([(x1.length : Int)]) ([]) x1 ([]))

/-! lattice/moves.Has -/
def moves_Has (fu : Nat) (x1 : Int) : Option Bool :=
  chk (x1 = 50) <| some (!(decide ((50 : Int) = 61)))

/-! lattice/tens.Width -/
def tens_Width (fu : Nat) (x1 : Int) : Option Int :=
  if x1 = 1 then (some 4) else if x1 = 7 then (some 8) else if x1 = 9 then (some 1) else some 0

/-! lattice/tens.known -/
def tens_known (fu : Nat) (x1 : Int) : Option Bool :=
  (tens_Width fu x1).bind fun x2 => some (decide (0 < x2))

/-! slices.IndexFunc[[]int,int] -/
def slices_IndexFunc_int.L1 (fu : Nat) (p1 : Int → Option Bool) (x1 : List Int) (nx1 : Int → Option Int) (x4 : Int) : Option Int :=
  if x4 < (x1.length : Int) then ((at? x1 x4).bind fun x7 => (p1 x7).bind fun x8 => if x8 = true then (some x4) else nx1 (wk .i64 (x4 + 1))) else some (-1)
def slices_IndexFunc_int.W1 (fu : Nat) (p1 : Int → Option Bool) (x1 : List Int) (x4 : Int) : Option Int :=
  cloop (fun next s => slices_IndexFunc_int.L1 fu p1 x1 next s) fu x4
def slices_IndexFunc_int (fu : Nat) (x1 : List Int) (p1 : Int → Option Bool) : Option Int :=
  slices_IndexFunc_int.W1 fu p1 x1 0

/-! slices.ContainsFunc[[]int,int] -/
def slices_ContainsFunc_int (fu : Nat) (x1 : List Int) (p1 : Int → Option Bool) : Option Bool :=
  (slices_IndexFunc_int fu x1 p1).bind fun x2 => some (decide (0 ≤ x2))

/-! lattice/shape.Size$1 -/
def shape_Size_1 (fu : Nat) (x1 : Int) : Option Bool :=
  some (decide (x1 < 0))

/-! lattice/shape.Size$2 -/
def shape_Size_2 (fu : Nat) (x1 : Int) : Option Bool :=
  some (decide (4096 < x1))

/-! slices.Index[[]int,int] -/
def slices_Index_int.L1 (fu : Nat) (x1 : List Int) (x2 : Int) (nx1 : Int → Option Int) (x4 : Int) : Option Int :=
  if x4 < (x1.length : Int) then ((at? x1 x4).bind fun x6 => if x2 = x6 then (some x4) else nx1 (wk .i64 (x4 + 1))) else some (-1)
def slices_Index_int.W1 (fu : Nat) (x1 : List Int) (x2 : Int) (x4 : Int) : Option Int :=
  cloop (fun next s => slices_Index_int.L1 fu x1 x2 next s) fu x4
def slices_Index_int (fu : Nat) (x1 : List Int) (x2 : Int) : Option Int :=
  slices_Index_int.W1 fu x1 x2 0

/-! slices.Contains[[]int,int] -/
def slices_Contains_int (fu : Nat) (x1 : List Int) (x2 : Int) : Option Bool :=
  (slices_Index_int fu x1 x2).bind fun x3 => some (decide (0 ≤ x3))

/-! lattice/shape.Size -/
def shape_Size.L1 (fu : Nat) (x1 : List Int) (nx1 : Int → Int → Option (Int × Int)) (x5 : Int) (x6 : Int) : Option (Int × Int) :=
  if x6 < (x1.length : Int) then ((at? x1 x6).bind fun x8 => chk (x5 ≠ 0) <| if (wk .i64 (Int.tdiv 4096 x5)) < x8 then (some (0, 4)) else nx1 (wk .i64 (x5 * x8)) (wk .i64 (x6 + 1))) else some (x5, 0)
def shape_Size.W1 (fu : Nat) (x1 : List Int) (x5 : Int) (x6 : Int) : Option (Int × Int) :=
  cloop (fun next s => shape_Size.L1 fu x1 (fun x5 x6 => next (x5, x6)) s.1 s.2) fu (x5, x6)
def shape_Size.k1 (fu : Nat) (x1 : List Int) : Option (Int × Int) :=
  (slices_Contains_int fu x1 0).bind fun x3 => if x3 = true then (some (0, 0)) else shape_Size.W1 fu x1 1 0
def shape_Size (fu : Nat) (x1 : List Int) : Option (Int × Int) :=
  (slices_ContainsFunc_int fu x1 (fun y0 => shape_Size_1 fu y0)).bind fun x2 => if x2 = true then (some (0, 1)) else jn 1 () (fun (t : Unit) => shape_Size.k1 fu x1) <| if 8 < (x1.length : Int) then (some (0, 4)) else (slices_ContainsFunc_int fu x1 (fun y0 => shape_Size_2 fu y0)).bind fun x9 => if x9 = true then (some (0, 4)) else shape_Size.k1 fu x1

/-! lattice/tens.Check -/
def tens_Check.k1 (fu : Nat) (x1 : T_Tensor) (x3 : Int × Int) (x4 : Int) : Option Int :=
  if x4 = x3.1 then (if (wk .i64 ((wk .i64 ((x1.fF.length : Int) + (x1.fI.length : Int))) + (x1.fB.length : Int))) = x3.1 then (some 0) else some 3) else some 3
def tens_Check (fu : Nat) (x1 : T_Tensor) : Option Int :=
  (tens_known fu x1.fType).bind fun x2 => if x2 = true then ((shape_Size fu x1.fDims).bind fun x3 => if x3.2 = 0 then (jn 1 () (fun (t : Int) => tens_Check.k1 fu x1 x3 t) <| if x1.fType = 7 then (tens_Check.k1 fu x1 x3 (x1.fI.length : Int)) else if x1.fType = 9 then (tens_Check.k1 fu x1 x3 (x1.fB.length : Int)) else tens_Check.k1 fu x1 x3 (x1.fF.length : Int)) else some x3.2) else some 5

/-! lattice/tens.own[int] -/
def tens_own_int (fu : Nat) (x1 : List Int) : Option (List Int) :=
  chk ((x1.length : Int) * 8 ≤ 140737488355328) <| some x1

/-! lattice/tens.own[uint32] -/
def tens_own_uint32 (fu : Nat) (x1 : List Int) : Option (List Int) :=
  chk ((x1.length : Int) * 4 ≤ 140737488355328) <| some x1

/-! lattice/tens.own[int64] -/
def tens_own_int64 (fu : Nat) (x1 : List Int) : Option (List Int) :=
  chk ((x1.length : Int) * 8 ≤ 140737488355328) <| some x1

/-! lattice/tens.own[bool] -/
def tens_own_bool (fu : Nat) (x1 : List Bool) : Option (List Bool) :=
  chk ((x1.length : Int) * 1 ≤ 140737488355328) <| some x1

/-! lattice/tens.Copy -/
def tens_Copy (fu : Nat) (x1 : T_Tensor) : Option T_Tensor :=
  (tens_own_int fu x1.fDims).bind fun x2 => (tens_own_uint32 fu x1.fF).bind fun x3 => (tens_own_int64 fu x1.fI).bind fun x4 => (tens_own_bool fu x1.fB).bind fun x5 => some (T_Tensor.mk x1.fType x2 x3 x4 x5)

/-! lattice/soft.Abs -/
def soft_Abs (fu : Nat) (x1 : Int) : Option Int :=
  some (bandn .u32 x1 2147483648)

/-! lattice/soft.NaN -/
def soft_NaN (fu : Nat) (x1 : Int) : Option Bool :=
  (soft_Abs fu x1).bind fun x2 => some (decide (2139095040 < x2))

/-! lattice/soft.Canon -/
def soft_Canon (fu : Nat) (x1 : Int) : Option Int :=
  (soft_NaN fu x1).bind fun x2 => if x2 = true then (some 2143289344) else some x1

/-! lattice/tens.Canon -/
def tens_Canon.L1 (fu : Nat) (x2 : T_Tensor) (nx1 : (List Int) → Int → Option T_Tensor) (x5 : List Int) (x6 : Int) : Option T_Tensor :=
  if x6 < ((x2.fF.length : Nat) : Int) then ((at? x5 x6).bind fun x9 => (soft_Canon fu x9).bind fun x10 => chk (0 ≤ x6 ∧ x6 < (x5.length : Int)) <| nx1 (x5.set x6.toNat x10) (wk .i64 (x6 + 1))) else some (T_Tensor.mk x2.fType x2.fDims x5 x2.fI x2.fB)
def tens_Canon.W1 (fu : Nat) (x2 : T_Tensor) (x5 : List Int) (x6 : Int) : Option T_Tensor :=
  cloop (fun next s => tens_Canon.L1 fu x2 (fun x5 x6 => next (x5, x6)) s.1 s.2) fu (x5, x6)
def tens_Canon (fu : Nat) (x1 : T_Tensor) : Option T_Tensor :=
  (tens_Copy fu x1).bind fun x2 => tens_Canon.W1 fu x2 x2.fF 0

/-! slices.Clone[[]int,int] -/
def slices_Clone_int (fu : Nat) (x1 : List Int) : Option (List Int) :=
  chk ((x1.length : Int) * 8 ≤ 140737488355328) <| some x1

/-! lattice/ewise.Vals -/
def ewise_Vals.L1 (fu : Nat) (x1 : List T_Tensor) (nx1 : (List T_Val) → Int → Option (List T_Val)) (x5 : List T_Val) (x6 : Int) : Option (List T_Val) :=
  if x6 < (x1.length : Int) then ((at? x1 x6).bind fun x10 => if x10.fType = 0 then (chk ((x5.length + 1 : Int) * 144 ≤ 140737488355328) <| nx1 (x5 ++ ([T_Val.mk 0 ([]) false (T_Tensor.mk 0 ([]) ([]) ([]) ([]))])) (wk .i64 (x6 + 1))) else (slices_Clone_int fu x10.fDims).bind fun x11 => (tens_Copy fu x10).bind fun x12 => chk ((x5.length + 1 : Int) * 144 ≤ 140737488355328) <| nx1 (x5 ++ ([T_Val.mk x10.fType x11 true x12])) (wk .i64 (x6 + 1))) else some x5
def ewise_Vals.W1 (fu : Nat) (x1 : List T_Tensor) (x5 : List T_Val) (x6 : Int) : Option (List T_Val) :=
  cloop (fun next s => ewise_Vals.L1 fu x1 (fun x5 x6 => next (x5, x6)) s.1 s.2) fu (x5, x6)
def ewise_Vals (fu : Nat) (x1 : List T_Tensor) : Option (List T_Val) :=
  ewise_Vals.W1 fu x1 ([] : List T_Val) 0

/-! lattice/ops.Arity -/
def ops_Arity (fu : Nat) (x1 : Int) : Option (Int × Int × Int × Int) :=
  chk (x1 = 50) <| some (2, 2, 1, 1)

/-! (lattice/infer.ask).val -/
def infer_ask_val (fu : Nat) (x1 : T_infer_ask) (x2 : Int) : Option T_Val :=
  chk (x1.fop = 50) <| if x2 < (x1.fin.length : Int) then ((at? x1.fin x2).bind fun x3 => some x3) else some (T_Val.mk 0 ([]) false (T_Tensor.mk 0 ([]) ([]) ([]) ([])))

/-! (lattice/infer.ask).has -/
def infer_ask_has (fu : Nat) (x1 : T_infer_ask) (x2 : Int) : Option Bool :=
  chk (x1.fop = 50) <| (infer_ask_val fu (T_infer_ask.mk 50 x1.fs x1.fin x1.fouts) x2).bind fun x3 => some (!(decide (x3.fType = 0)))

/-! (lattice/infer.ask).complete -/
def infer_ask_complete.L1 (fu : Nat) (x1 : T_infer_ask) (x2 : Int × Int × Int × Int) (nx1 : Int → Option Bool) (x4 : Int) : Option Bool :=
  if x4 < x2.1 then ((infer_ask_has fu (T_infer_ask.mk 50 x1.fs x1.fin x1.fouts) x4).bind fun x6 => if x6 = true then (nx1 (wk .i64 (x4 + 1))) else some false) else some true
def infer_ask_complete.W1 (fu : Nat) (x1 : T_infer_ask) (x2 : Int × Int × Int × Int) (x4 : Int) : Option Bool :=
  cloop (fun next s => infer_ask_complete.L1 fu x1 x2 next s) fu x4
def infer_ask_complete.k1 (fu : Nat) (x1 : T_infer_ask) (x2 : Int × Int × Int × Int) : Option Bool :=
  infer_ask_complete.W1 fu x1 x2 0
def infer_ask_complete (fu : Nat) (x1 : T_infer_ask) : Option Bool :=
  chk (x1.fop = 50) <| (ops_Arity fu 50).bind fun x2 => jn 1 () (fun (t : Unit) => infer_ask_complete.k1 fu x1 x2) <| if x2.2.2.1 = 0 then (some false) else if (x1.fin.length : Int) < x2.1 then (some false) else if x2.2.1 < (x1.fin.length : Int) then (some false) else if x1.fouts < x2.2.2.1 then (some false) else if x2.2.2.2 < x1.fouts then (some false) else infer_ask_complete.k1 fu x1 x2

/-! lattice/infer.sorts -/
def infer_sorts.k5 (fu : Nat) : Option ByteArray :=
  some (⟨#[97, 105]⟩ : ByteArray)
def infer_sorts.k4 (fu : Nat) : Option ByteArray :=
  jn 5 () (fun (t : Unit) => infer_sorts.k5 fu) <| infer_sorts.k5 fu
def infer_sorts.k3 (fu : Nat) : Option ByteArray :=
  jn 4 () (fun (t : Unit) => infer_sorts.k4 fu) <| infer_sorts.k4 fu
def infer_sorts.k2 (fu : Nat) : Option ByteArray :=
  jn 3 () (fun (t : Unit) => infer_sorts.k3 fu) <| infer_sorts.k3 fu
def infer_sorts.k1 (fu : Nat) : Option ByteArray :=
  jn 2 () (fun (t : Unit) => infer_sorts.k2 fu) <| infer_sorts.k2 fu
def infer_sorts (fu : Nat) (x1 : Int) : Option ByteArray :=
  chk (x1 = 50) <| jn 1 () (fun (t : Unit) => infer_sorts.k1 fu) <| infer_sorts.k1 fu

/-! (lattice/infer.ask).fits -/
def infer_ask_fits.k1 (fu : Nat) (x5 : Bool) : Option Bool :=
  some x5
def infer_ask_fits (fu : Nat) (x1 : T_infer_ask) (x2 : Int) (x3 : Int) : Option Bool :=
  chk (x1.fop = 50) <| (infer_ask_val fu (T_infer_ask.mk 50 x1.fs x1.fin x1.fouts) x2).bind fun x4 => if x3 = 110 then (jn 1 () (fun (t : Bool) => infer_ask_fits.k1 fu t) <| if x4.fType = 1 then (infer_ask_fits.k1 fu true) else infer_ask_fits.k1 fu (decide (x4.fType = 7))) else if x3 = 102 then (some (decide (x4.fType = 1))) else if x3 = 98 then (some (decide (x4.fType = 9))) else if x3 = 105 then (some (decide (x4.fType = 7))) else if x3 = 61 then ((infer_ask_val fu (T_infer_ask.mk 50 x1.fs x1.fin x1.fouts) 0).bind fun x6 => some (decide (x4.fType = x6.fType))) else if x3 = 43 then ((infer_ask_val fu (T_infer_ask.mk 50 x1.fs x1.fin x1.fouts) (wk .i64 (x2 - 1))).bind fun x7 => some (decide (x4.fType = x7.fType))) else (tens_Width fu x4.fType).bind fun x8 => some (decide (0 < x8))

/-! (lattice/infer.ask).typed -/
def infer_ask_typed.k1 (fu : Nat) : Option Bool :=
  some true
def infer_ask_typed.L1 (fu : Nat) (x1 : T_infer_ask) (x2 : ByteArray) (nx1 : Int → Option Bool) (x8 : Int) : Option Bool :=
  if x8 < (x1.fin.length : Int) then ((infer_ask_has fu (T_infer_ask.mk 50 x1.fs x1.fin x1.fouts) x8).bind fun x14 => if x14 = true then ((infer_ask_val fu (T_infer_ask.mk 50 x1.fs x1.fin x1.fouts) x8).bind fun x15 => (tens_Width fu x15.fType).bind fun x16 => if x16 = 0 then (some false) else (sat? x2 (imin x8 (wk .i64 ((x2.size : Int) - 1)))).bind fun x17 => (infer_ask_fits fu (T_infer_ask.mk 50 x1.fs x1.fin x1.fouts) x8 x17).bind fun x18 => if x18 = true then (nx1 (wk .i64 (x8 + 1))) else some false) else nx1 (wk .i64 (x8 + 1))) else infer_ask_typed.k1 fu
def infer_ask_typed.W1 (fu : Nat) (x1 : T_infer_ask) (x2 : ByteArray) (x8 : Int) : Option Bool :=
  cloop (fun next s => infer_ask_typed.L1 fu x1 x2 next s) fu x8
def infer_ask_typed (fu : Nat) (x1 : T_infer_ask) : Option Bool :=
  chk (x1.fop = 50) <| (infer_sorts fu 50).bind fun x2 => jn 1 () (fun (t : Unit) => infer_ask_typed.k1 fu) <| infer_ask_typed.W1 fu x1 x2 0

/-! (lattice/infer.ask).dims -/
def infer_ask_dims (fu : Nat) (x1 : T_infer_ask) (x2 : Int) : Option (List Int) :=
  chk (x1.fop = 50) <| (infer_ask_val fu (T_infer_ask.mk 50 x1.fs x1.fin x1.fouts) x2).bind fun x3 => some x3.fDims

/-! (lattice/infer.ask).rank -/
def infer_ask_rank (fu : Nat) (x1 : T_infer_ask) : Option Int :=
  chk (x1.fop = 50) <| (infer_ask_dims fu (T_infer_ask.mk 50 x1.fs x1.fin x1.fouts) 0).bind fun x2 => some (x2.length : Int)

/-! lattice/shape.Axis -/
def shape_Axis (fu : Nat) (x1 : Int) (x2 : Int) : Option (Int × Int) :=
  if x2 < 0 then (some (0, 2)) else if 0 ≤ x1 then (if x1 < x2 then (some (x1, 0)) else some (0, 2)) else if (wk .i64 (0 - x2)) ≤ x1 then (some (wk .i64 (x2 + x1), 0)) else some (0, 2)

/-! (lattice/infer.ask).attributes -/
def infer_ask_attributes.k1 (fu : Nat) (x1 : T_infer_ask) (x2 : Int) : Option Bool :=
  (shape_Axis fu x1.fs.fAxis x2).bind fun x3 => some (decide (x3.2 = 0))
def infer_ask_attributes (fu : Nat) (x1 : T_infer_ask) : Option Bool :=
  chk (x1.fop = 50) <| (infer_ask_rank fu (T_infer_ask.mk 50 x1.fs x1.fin x1.fouts)).bind fun x2 => jn 1 () (fun (t : Unit) => infer_ask_attributes.k1 fu x1 x2) <| infer_ask_attributes.k1 fu x1 x2

/-! (lattice/infer.ask).lists -/
def infer_ask_lists.k1 (fu : Nat) : Option (List T_Val) :=
  some ([])
def infer_ask_lists (fu : Nat) (x1 : T_infer_ask) : Option (List T_Val) :=
  chk (x1.fop = 50) <| jn 1 () (fun (t : Unit) => infer_ask_lists.k1 fu) <| infer_ask_lists.k1 fu

/-! slices.IndexFunc[[]lattice/api.Val,lattice/api.Val] -/
def slices_IndexFunc_api_Val_api_Val.L1 (fu : Nat) (p1 : T_Val → Option Bool) (x1 : List T_Val) (nx1 : Int → Option Int) (x4 : Int) : Option Int :=
  if x4 < (x1.length : Int) then ((at? x1 x4).bind fun x7 => (p1 x7).bind fun x8 => if x8 = true then (some x4) else nx1 (wk .i64 (x4 + 1))) else some (-1)
def slices_IndexFunc_api_Val_api_Val.W1 (fu : Nat) (p1 : T_Val → Option Bool) (x1 : List T_Val) (x4 : Int) : Option Int :=
  cloop (fun next s => slices_IndexFunc_api_Val_api_Val.L1 fu p1 x1 next s) fu x4
def slices_IndexFunc_api_Val_api_Val (fu : Nat) (x1 : List T_Val) (p1 : T_Val → Option Bool) : Option Int :=
  slices_IndexFunc_api_Val_api_Val.W1 fu p1 x1 0

/-! slices.ContainsFunc[[]lattice/api.Val,lattice/api.Val] -/
def slices_ContainsFunc_api_Val_api_Val (fu : Nat) (x1 : List T_Val) (p1 : T_Val → Option Bool) : Option Bool :=
  (slices_IndexFunc_api_Val_api_Val fu x1 p1).bind fun x2 => some (decide (0 ≤ x2))

/-! slices.Equal[[]int,int] -/
def slices_Equal_int.L1 (fu : Nat) (x1 : List Int) (x2 : List Int) (nx1 : Int → Option Bool) (x5 : Int) : Option Bool :=
  if x5 < (x1.length : Int) then ((at? x1 x5).bind fun x8 => (at? x2 x5).bind fun x9 => if x8 = x9 then (nx1 (wk .i64 (x5 + 1))) else some false) else some true
def slices_Equal_int.W1 (fu : Nat) (x1 : List Int) (x2 : List Int) (x5 : Int) : Option Bool :=
  cloop (fun next s => slices_Equal_int.L1 fu x1 x2 next s) fu x5
def slices_Equal_int (fu : Nat) (x1 : List Int) (x2 : List Int) : Option Bool :=
  if (x1.length : Int) = (x2.length : Int) then (slices_Equal_int.W1 fu x1 x2 0) else some false

/-! lattice/infer.held -/
def infer_held (fu : Nat) (x1 : T_Val) : Option Bool :=
  if x1.fConst = true then ((tens_Check fu x1.fT).bind fun x2 => if x2 = 0 then (if x1.fT.fType = x1.fType then ((slices_Equal_int fu x1.fT.fDims x1.fDims).bind fun x3 => some x3) else some false) else some false) else some false

/-! (lattice/infer.ask).told$1 -/
def infer_ask_told_1 (fu : Nat) (x1 : T_Val) : Option Bool :=
  (infer_held fu x1).bind fun x2 => some (!x2)

/-! (lattice/infer.ask).told$2 -/
def infer_ask_told_2 (fu : Nat) (x1 : T_Val) : Option Bool :=
  some (!(decide ((x1.fDims.length : Int) = 1)))

/-! slices.IndexFunc[[]int64,int64] -/
def slices_IndexFunc_int64.L1 (fu : Nat) (p1 : Int → Option Bool) (x1 : List Int) (nx1 : Int → Option Int) (x4 : Int) : Option Int :=
  if x4 < (x1.length : Int) then ((at? x1 x4).bind fun x7 => (p1 x7).bind fun x8 => if x8 = true then (some x4) else nx1 (wk .i64 (x4 + 1))) else some (-1)
def slices_IndexFunc_int64.W1 (fu : Nat) (p1 : Int → Option Bool) (x1 : List Int) (x4 : Int) : Option Int :=
  cloop (fun next s => slices_IndexFunc_int64.L1 fu p1 x1 next s) fu x4
def slices_IndexFunc_int64 (fu : Nat) (x1 : List Int) (p1 : Int → Option Bool) : Option Int :=
  slices_IndexFunc_int64.W1 fu p1 x1 0

/-! slices.ContainsFunc[[]int64,int64] -/
def slices_ContainsFunc_int64 (fu : Nat) (x1 : List Int) (p1 : Int → Option Bool) : Option Bool :=
  (slices_IndexFunc_int64 fu x1 p1).bind fun x2 => some (decide (0 ≤ x2))

/-! (lattice/infer.ask).told$3$1 -/
def infer_ask_told_3_1 (fu : Nat) (x1 : Int) : Option Bool :=
  some (decide (4096 < x1))

/-! (lattice/infer.ask).told$3 -/
def infer_ask_told_3 (fu : Nat) (x1 : T_Val) : Option Bool :=
  (slices_ContainsFunc_int64 fu x1.fT.fI (fun y0 => infer_ask_told_3_1 fu y0)).bind fun x2 => some x2

/-! (lattice/infer.ask).told -/
def infer_ask_told (fu : Nat) (x1 : T_infer_ask) : Option Int :=
  chk (x1.fop = 50) <| (infer_ask_lists fu (T_infer_ask.mk 50 x1.fs x1.fin x1.fouts)).bind fun x2 => (slices_ContainsFunc_api_Val_api_Val fu x2 (fun y0 => infer_ask_told_1 fu y0)).bind fun x3 => if x3 = true then (some 15) else (slices_ContainsFunc_api_Val_api_Val fu x2 (fun y0 => infer_ask_told_2 fu y0)).bind fun x4 => if x4 = true then (some 3) else (slices_ContainsFunc_api_Val_api_Val fu x2 (fun y0 => infer_ask_told_3 fu y0)).bind fun x5 => if x5 = true then (some 4) else some 0

/-! (lattice/infer.ask).wrong -/
def infer_ask_wrong.k1 (fu : Nat) (x1 : T_infer_ask) : Option Int :=
  (infer_ask_typed fu (T_infer_ask.mk 50 x1.fs x1.fin x1.fouts)).bind fun x2 => if x2 = true then ((infer_ask_attributes fu (T_infer_ask.mk 50 x1.fs x1.fin x1.fouts)).bind fun x3 => if x3 = true then ((infer_ask_told fu (T_infer_ask.mk 50 x1.fs x1.fin x1.fouts)).bind fun x4 => some x4) else some 14) else some 5
def infer_ask_wrong.L1 (fu : Nat) (x1 : T_infer_ask) (nx1 : Int → Option Int) (x8 : Int) : Option Int :=
  if x8 < (x1.fin.length : Int) then ((at? x1.fin x8).bind fun x12 => (shape_Size fu x12.fDims).bind fun x13 => (infer_ask_has fu (T_infer_ask.mk 50 x1.fs x1.fin x1.fouts) x8).bind fun x14 => if x14 = true then (if x13.2 = 0 then (nx1 (wk .i64 (x8 + 1))) else some 4) else nx1 (wk .i64 (x8 + 1))) else infer_ask_wrong.k1 fu x1
def infer_ask_wrong.W1 (fu : Nat) (x1 : T_infer_ask) (x8 : Int) : Option Int :=
  cloop (fun next s => infer_ask_wrong.L1 fu x1 next s) fu x8
def infer_ask_wrong (fu : Nat) (x1 : T_infer_ask) : Option Int :=
  chk (x1.fop = 50) <| jn 1 () (fun (t : Unit) => infer_ask_wrong.k1 fu x1) <| infer_ask_wrong.W1 fu x1 0

/-! (lattice/infer.ask).axis -/
def infer_ask_axis (fu : Nat) (x1 : T_infer_ask) : Option Int :=
  chk (x1.fop = 50) <| (infer_ask_rank fu (T_infer_ask.mk 50 x1.fs x1.fin x1.fouts)).bind fun x2 => (shape_Axis fu x1.fs.fAxis x2).bind fun x3 => some x3.1

/-! slices.Concat[[]int,int] -/
def slices_Concat_int.L1 (fu : Nat) (x1 : List (List Int)) (nx1 : (List Int) → Int → Option (List Int)) (x4 : List Int) (x5 : Int) : Option (List Int) :=
  if x5 < (x1.length : Int) then ((at? x1 x5).bind fun x7 => chk ((x4.length + x7.length : Int) * 8 ≤ 140737488355328) <| nx1 (x4 ++ x7) (wk .i64 (x5 + 1))) else some x4
def slices_Concat_int.W1 (fu : Nat) (x1 : List (List Int)) (x4 : List Int) (x5 : Int) : Option (List Int) :=
  cloop (fun next s => slices_Concat_int.L1 fu x1 (fun x4 x5 => next (x4, x5)) s.1 s.2) fu (x4, x5)
def slices_Concat_int.L2 (fu : Nat) (x1 : List (List Int)) (nx2 : (List Int) → Int → Option (List Int)) (x9 : List Int) (x10 : Int) : Option (List Int) :=
  if x10 < (x1.length : Int) then ((at? x1 x10).bind fun x12 => chk ((x9.length + x12.length : Int) * 8 ≤ 140737488355328) <| nx2 (x9 ++ x12) (wk .i64 (x10 + 1))) else some x9
def slices_Concat_int.W2 (fu : Nat) (x1 : List (List Int)) (x9 : List Int) (x10 : Int) : Option (List Int) :=
  cloop (fun next s => slices_Concat_int.L2 fu x1 (fun x9 x10 => next (x9, x10)) s.1 s.2) fu (x9, x10)
def slices_Concat_int.k2 (fu : Nat) (x1 : List (List Int)) (x2 : Int) : Option (List Int) :=
  if 0 < (wk .i64 (x2 - (wk .i64 0))) then (chk (0 ≤ wk .i64 (x2 - (wk .i64 0)) ∧ wk .i64 (x2 - (wk .i64 0)) ≤ 140737488355328 ∧ (wk .i64 (x2 - (wk .i64 0))) * 8 ≤ 140737488355328) <| chk (0 ≤ 0 ∧ 0 ≤ (((wk .i64 (x2 - (wk .i64 0))).toNat : Nat) : Int)) <| slices_Concat_int.W1 fu x1 ([] : List Int) 0) else slices_Concat_int.W2 fu x1 ([] : List Int) 0
def slices_Concat_int.k1 (fu : Nat) (x1 : List (List Int)) (x2 : Int) : Option (List Int) :=
  jn 2 () (fun (t : Unit) => slices_Concat_int.k2 fu x1 x2) <| if x2 < 0 then (none) else slices_Concat_int.k2 fu x1 x2
def slices_Concat_int.L3 (fu : Nat) (x1 : List (List Int)) (nx3 : Int → Int → Option (List Int)) (x14 : Int) (x15 : Int) : Option (List Int) :=
  if x15 < (x1.length : Int) then ((at? x1 x15).bind fun x17 => if (wk .i64 (x14 + (x17.length : Int))) < 0 then (none) else nx3 (wk .i64 (x14 + (x17.length : Int))) (wk .i64 (x15 + 1))) else slices_Concat_int.k1 fu x1 x14
def slices_Concat_int.W3 (fu : Nat) (x1 : List (List Int)) (x14 : Int) (x15 : Int) : Option (List Int) :=
  cloop (fun next s => slices_Concat_int.L3 fu x1 (fun x14 x15 => next (x14, x15)) s.1 s.2) fu (x14, x15)
def slices_Concat_int (fu : Nat) (x1 : List (List Int)) : Option (List Int) :=
  jn 1 () (fun (t : Int) => slices_Concat_int.k1 fu x1 t) <| slices_Concat_int.W3 fu x1 0 0

/-! lattice/infer.one -/
def infer_one (fu : Nat) (x1 : List Int) : Option ((List (List Int)) × Int) :=
  some ([x1], 0)

/-! (lattice/infer.ask).moved -/
def infer_ask_moved (fu : Nat) (x1 : T_infer_ask) : Option ((List (List Int)) × Int) :=
  chk (x1.fop = 50) <| (infer_ask_dims fu (T_infer_ask.mk 50 x1.fs x1.fin x1.fouts) 0).bind fun x2 => (infer_ask_axis fu (T_infer_ask.mk 50 x1.fs x1.fin x1.fouts)).bind fun x3 => chk (0 ≤ x3 ∧ x3 ≤ (x2.length : Int)) <| (infer_ask_dims fu (T_infer_ask.mk 50 x1.fs x1.fin x1.fouts) 1).bind fun x4 => chk (0 ≤ wk .i64 (x3 + 1) ∧ wk .i64 (x3 + 1) ≤ (x2.length : Int)) <| (slices_Concat_int fu ([subN x2 0 x3.toNat, x4, subN x2 (wk .i64 (x3 + 1)).toNat x2.length])).bind fun x5 => (infer_one fu x5).bind fun x6 => some (x6.1, x6.2)

/-! (lattice/infer.ask).shapes -/
def infer_ask_shapes.k2 (fu : Nat) (x1 : T_infer_ask) : Option ((List (List Int)) × Int) :=
  (infer_ask_moved fu (T_infer_ask.mk 50 x1.fs x1.fin x1.fouts)).bind fun x3 => some (x3.1, x3.2)
def infer_ask_shapes.k1 (fu : Nat) (x1 : T_infer_ask) : Option ((List (List Int)) × Int) :=
  jn 2 () (fun (t : Unit) => infer_ask_shapes.k2 fu x1) <| infer_ask_shapes.k2 fu x1
def infer_ask_shapes (fu : Nat) (x1 : T_infer_ask) : Option ((List (List Int)) × Int) :=
  chk (x1.fop = 50) <| (infer_ask_dims fu (T_infer_ask.mk 50 x1.fs x1.fin x1.fouts) 0).bind fun x2 => jn 1 () (fun (t : Unit) => infer_ask_shapes.k1 fu x1) <| infer_ask_shapes.k1 fu x1

/-! (lattice/infer.ask).out -/
def infer_ask_out.k1 (fu : Nat) (x1 : T_infer_ask) : Option Int :=
  (infer_ask_val fu (T_infer_ask.mk 50 x1.fs x1.fin x1.fouts) 0).bind fun x2 => some x2.fType
def infer_ask_out.k3 (fu : Nat) (x1 : T_infer_ask) : Option Int :=
  infer_ask_out.k1 fu x1
def infer_ask_out.k2 (fu : Nat) (x1 : T_infer_ask) : Option Int :=
  jn 3 () (fun (t : Unit) => infer_ask_out.k3 fu x1) <| infer_ask_out.k3 fu x1
def infer_ask_out (fu : Nat) (x1 : T_infer_ask) : Option Int :=
  chk (x1.fop = 50) <| jn 1 () (fun (t : Unit) => infer_ask_out.k1 fu x1) <| jn 2 () (fun (t : Unit) => infer_ask_out.k2 fu x1) <| infer_ask_out.k2 fu x1

/-! lattice/infer.Node -/
def infer_Node.L1 (fu : Nat) (x2 : T_Setting) (x3 : List T_Val) (x4 : Int) (x7 : (List (List Int)) × Int) (nx1 : (List T_Val) → Int → Option ((List T_Val) × Int)) (x12 : List T_Val) (x13 : Int) : Option ((List T_Val) × Int) :=
  if x13 < (x7.1.length : Int) then ((at? x7.1 x13).bind fun x18 => (shape_Size fu x18).bind fun x19 => if x19.2 = 0 then ((infer_ask_out fu (T_infer_ask.mk 50 x2 x3 x4)).bind fun x20 => (slices_Clone_int fu x18).bind fun x21 => chk ((x12.length + 1 : Int) * 144 ≤ 140737488355328) <| nx1 (x12 ++ ([T_Val.mk x20 x21 false (T_Tensor.mk 0 ([]) ([]) ([]) ([]))])) (wk .i64 (x13 + 1))) else some ([], 4)) else some (x12, 0)
def infer_Node.W1 (fu : Nat) (x2 : T_Setting) (x3 : List T_Val) (x4 : Int) (x7 : (List (List Int)) × Int) (x12 : List T_Val) (x13 : Int) : Option ((List T_Val) × Int) :=
  cloop (fun next s => infer_Node.L1 fu x2 x3 x4 x7 (fun x12 x13 => next (x12, x13)) s.1 s.2) fu (x12, x13)
def infer_Node (fu : Nat) (x1 : Int) (x2 : T_Setting) (x3 : List T_Val) (x4 : Int) : Option ((List T_Val) × Int) :=
  chk (x1 = 50) <| (infer_ask_complete fu (T_infer_ask.mk 50 x2 x3 x4)).bind fun x5 => if x5 = true then ((infer_ask_wrong fu (T_infer_ask.mk 50 x2 x3 x4)).bind fun x6 => if x6 = 0 then ((infer_ask_shapes fu (T_infer_ask.mk 50 x2 x3 x4)).bind fun x7 => if x7.2 = 0 then (infer_Node.W1 fu x2 x3 x4 x7 ([] : List T_Val) 0) else some ([], x7.2)) else some ([], x6)) else some ([], 1)

/-! lattice/moves.wrapped -/
def moves_wrapped.k1 (fu : Nat) (x2 : Int) (x3 : Int) : Option Int :=
  if x3 < 0 then (some (-1)) else if x2 ≤ x3 then (some (-1)) else some x3
def moves_wrapped (fu : Nat) (x1 : Int) (x2 : Int) : Option Int :=
  jn 1 () (fun (t : Int) => moves_wrapped.k1 fu x2 t) <| if x1 < 0 then (moves_wrapped.k1 fu x2 (wk .i64 (x1 + x2))) else moves_wrapped.k1 fu x2 x1

/-! (*lattice/moves.move).named -/
def moves_move_named.L1 (fu : Nat) (x1 : T_moves_move) (x2 : T_Tensor) (nx1 : (List Int) → Int → Option ((List Int) × Bool)) (x6 : List Int) (x7 : Int) : Option ((List Int) × Bool) :=
  if x7 < (x2.fI.length : Int) then ((at? x2.fI x7).bind fun x11 => (at? x1.fx.fDims x1.faxis).bind fun x12 => (moves_wrapped fu x11 x12).bind fun x13 => if x13 < 0 then (some ([], false)) else chk ((x6.length + 1 : Int) * 8 ≤ 140737488355328) <| nx1 (x6 ++ ([x13])) (wk .i64 (x7 + 1))) else some (x6, true)
def moves_move_named.W1 (fu : Nat) (x1 : T_moves_move) (x2 : T_Tensor) (x6 : List Int) (x7 : Int) : Option ((List Int) × Bool) :=
  cloop (fun next s => moves_move_named.L1 fu x1 x2 (fun x6 x7 => next (x6, x7)) s.1 s.2) fu (x6, x7)
def moves_move_named (fu : Nat) (x1 : T_moves_move) : Option ((List Int) × Bool) :=
  chk (x1.fop = 50) <| (at? x1.fin 1).bind fun x2 => moves_move_named.W1 fu x1 x2 ([] : List Int) 0

/-! lattice/shape.strides -/
def shape_strides.L1 (fu : Nat) (x1 : List Int) (nx1 : (List Int) → Int → Int → Option (List Int)) (x3 : List Int) (x4 : Int) (x5 : Int) : Option (List Int) :=
  if 0 ≤ x5 then (chk (0 ≤ x5 ∧ x5 < (x3.length : Int)) <| (at? x1 x5).bind fun x7 => nx1 (x3.set x5.toNat x4) (wk .i64 (x4 * x7)) (wk .i64 (x5 - 1))) else some x3
def shape_strides.W1 (fu : Nat) (x1 : List Int) (x3 : List Int) (x4 : Int) (x5 : Int) : Option (List Int) :=
  cloop (fun next s => shape_strides.L1 fu x1 (fun x3 x4 x5 => next (x3, x4, x5)) s.1 s.2.1 s.2.2) fu (x3, x4, x5)
def shape_strides (fu : Nat) (x1 : List Int) : Option (List Int) :=
  chk (0 ≤ (x1.length : Int) ∧ (x1.length : Int) * 8 ≤ 140737488355328) <| shape_strides.W1 fu x1 (List.replicate (x1.length : Int).toNat (0 : Int)) 1 (wk .i64 ((x1.length : Int) - 1))

/-! lattice/shape.Strides -/
def shape_Strides (fu : Nat) (x1 : List Int) : Option ((List Int) × Int) :=
  (shape_Size fu x1).bind fun x2 => if x2.2 = 0 then ((shape_strides fu x1).bind fun x3 => some (x3, 0)) else some ([], x2.2)

/-! lattice/moves.strides -/
def moves_strides (fu : Nat) (x1 : List Int) : Option (List Int) :=
  (shape_Strides fu x1).bind fun x2 => some x2.1

/-! lattice/tens.New -/
def tens_New (fu : Nat) (x1 : Int) (x2 : List Int) : Option (T_Tensor × Int) :=
  (tens_known fu x1).bind fun x3 => if x3 = true then ((shape_Size fu x2).bind fun x4 => if x4.2 = 0 then ((slices_Clone_int fu x2).bind fun x5 => if x1 = 1 then (chk (0 ≤ x4.1 ∧ x4.1 * 4 ≤ 140737488355328) <| some (T_Tensor.mk x1 x5 (List.replicate x4.1.toNat (0 : Int)) ([]) ([]), 0)) else if x1 = 7 then (chk (0 ≤ x4.1 ∧ x4.1 * 8 ≤ 140737488355328) <| some (T_Tensor.mk x1 x5 ([]) (List.replicate x4.1.toNat (0 : Int)) ([]), 0)) else chk (0 ≤ x4.1 ∧ x4.1 * 1 ≤ 140737488355328) <| some (T_Tensor.mk x1 x5 ([]) ([]) (List.replicate x4.1.toNat (false : Bool)), 0)) else some (T_Tensor.mk 0 ([]) ([]) ([]) ([]), x4.2)) else some (T_Tensor.mk 0 ([]) ([]) ([]) ([]), 5)

/-! lattice/tens.Pick$1 -/
def tens_Pick_1 (fu : Nat) (x1 : Int) (x2 : Int) : Option Bool :=
  if x1 < (-1) then (some true) else some (decide (x2 ≤ x1))

/-! lattice/tens.Pick -/
def tens_Pick.c3 (fu : Nat) (x5 : T_Tensor × Int) (x7 : List Int) (x8 : List Int) (x9 : List Bool) : Option (T_Tensor × Int) :=
  chk (x5.1.fB.length = x9.length) <| some (T_Tensor.mk x5.1.fType x5.1.fDims x7 x8 x9, 0)
def tens_Pick.L1 (fu : Nat) (x1 : T_Tensor) (x3 : List Int) (x5 : T_Tensor × Int) (x7 : List Int) (x8 : List Int) (nx1 : (List Bool) → Int → Option (T_Tensor × Int)) (x12 : List Bool) (x13 : Int) : Option (T_Tensor × Int) :=
  if x13 < (x3.length : Int) then ((at? x3 x13).bind fun x16 => if 0 ≤ x16 then ((at? x1.fB x16).bind fun x17 => chk (0 ≤ x13 ∧ x13 < ((x5.1.fB.length : Nat) : Int)) <| chk (0 ≤ x13 ∧ x13 < (x12.length : Int)) <| nx1 (x12.set x13.toNat x17) (wk .i64 (x13 + 1))) else nx1 x12 (wk .i64 (x13 + 1))) else tens_Pick.c3 fu x5 x7 x8 x12
def tens_Pick.W1 (fu : Nat) (x1 : T_Tensor) (x3 : List Int) (x5 : T_Tensor × Int) (x7 : List Int) (x8 : List Int) (x12 : List Bool) (x13 : Int) : Option (T_Tensor × Int) :=
  cloop (fun next s => tens_Pick.L1 fu x1 x3 x5 x7 x8 (fun x12 x13 => next (x12, x13)) s.1 s.2) fu (x12, x13)
def tens_Pick.c2 (fu : Nat) (x1 : T_Tensor) (x3 : List Int) (x5 : T_Tensor × Int) (x7 : List Int) (x8 : List Int) : Option (T_Tensor × Int) :=
  chk (x5.1.fI.length = x8.length) <| jc 3 () (fun (t : List Bool) => tens_Pick.c3 fu x5 x7 x8 t) <| if ((x5.1.fB.length : Nat) : Int) = 0 then (tens_Pick.c3 fu x5 x7 x8 x5.1.fB) else tens_Pick.W1 fu x1 x3 x5 x7 x8 x5.1.fB 0
def tens_Pick.L2 (fu : Nat) (x1 : T_Tensor) (x3 : List Int) (x5 : T_Tensor × Int) (x7 : List Int) (nx2 : (List Int) → Int → Option (T_Tensor × Int)) (x20 : List Int) (x21 : Int) : Option (T_Tensor × Int) :=
  if x21 < (x3.length : Int) then ((at? x3 x21).bind fun x24 => if 0 ≤ x24 then ((at? x1.fI x24).bind fun x25 => chk (0 ≤ x21 ∧ x21 < ((x5.1.fI.length : Nat) : Int)) <| chk (0 ≤ x21 ∧ x21 < (x20.length : Int)) <| nx2 (x20.set x21.toNat x25) (wk .i64 (x21 + 1))) else nx2 x20 (wk .i64 (x21 + 1))) else tens_Pick.c2 fu x1 x3 x5 x7 x20
def tens_Pick.W2 (fu : Nat) (x1 : T_Tensor) (x3 : List Int) (x5 : T_Tensor × Int) (x7 : List Int) (x20 : List Int) (x21 : Int) : Option (T_Tensor × Int) :=
  cloop (fun next s => tens_Pick.L2 fu x1 x3 x5 x7 (fun x20 x21 => next (x20, x21)) s.1 s.2) fu (x20, x21)
def tens_Pick.c1 (fu : Nat) (x1 : T_Tensor) (x3 : List Int) (x5 : T_Tensor × Int) (x7 : List Int) : Option (T_Tensor × Int) :=
  chk (x5.1.fF.length = x7.length) <| jc 2 () (fun (t : List Int) => tens_Pick.c2 fu x1 x3 x5 x7 t) <| if ((x5.1.fI.length : Nat) : Int) = 0 then (tens_Pick.c2 fu x1 x3 x5 x7 x5.1.fI) else tens_Pick.W2 fu x1 x3 x5 x7 x5.1.fI 0
def tens_Pick.L3 (fu : Nat) (x1 : T_Tensor) (x3 : List Int) (x5 : T_Tensor × Int) (nx3 : (List Int) → Int → Option (T_Tensor × Int)) (x28 : List Int) (x29 : Int) : Option (T_Tensor × Int) :=
  if x29 < (x3.length : Int) then ((at? x3 x29).bind fun x32 => if 0 ≤ x32 then ((at? x1.fF x32).bind fun x33 => chk (0 ≤ x29 ∧ x29 < ((x5.1.fF.length : Nat) : Int)) <| chk (0 ≤ x29 ∧ x29 < (x28.length : Int)) <| nx3 (x28.set x29.toNat x33) (wk .i64 (x29 + 1))) else nx3 x28 (wk .i64 (x29 + 1))) else tens_Pick.c1 fu x1 x3 x5 x28
def tens_Pick.W3 (fu : Nat) (x1 : T_Tensor) (x3 : List Int) (x5 : T_Tensor × Int) (x28 : List Int) (x29 : Int) : Option (T_Tensor × Int) :=
  cloop (fun next s => tens_Pick.L3 fu x1 x3 x5 (fun x28 x29 => next (x28, x29)) s.1 s.2) fu (x28, x29)
def tens_Pick (fu : Nat) (x1 : T_Tensor) (x2 : List Int) (x3 : List Int) : Option (T_Tensor × Int) :=
  (tens_Check fu x1).bind fun x4 => if x4 = 0 then ((tens_New fu x1.fType x2).bind fun x5 => if x5.2 = 0 then (if (x3.length : Int) = (wk .i64 ((wk .i64 (((x5.1.fF.length : Nat) : Int) + ((x5.1.fI.length : Nat) : Int))) + ((x5.1.fB.length : Nat) : Int))) then ((slices_ContainsFunc_int fu x3 (fun y0 => tens_Pick_1 fu y0 (wk .i64 ((wk .i64 ((x1.fF.length : Int) + (x1.fI.length : Int))) + (x1.fB.length : Int))))).bind fun x6 => if x6 = true then (some (T_Tensor.mk 0 ([]) ([]) ([]) ([]), 2)) else jc 1 () (fun (t : List Int) => tens_Pick.c1 fu x1 x3 x5 t) <| if ((x5.1.fF.length : Nat) : Int) = 0 then (tens_Pick.c1 fu x1 x3 x5 x5.1.fF) else tens_Pick.W3 fu x1 x3 x5 x5.1.fF 0) else some (T_Tensor.mk 0 ([]) ([]) ([]) ([]), 3)) else some (T_Tensor.mk 0 ([]) ([]) ([]) ([]), x5.2)) else some (T_Tensor.mk 0 ([]) ([]) ([]) ([]), x4)

/-! lattice/moves.picked -/
def moves_picked.L2 (fu : Nat) (nx1 : (List Int) → (List Int) → Option T_Tensor) (x1 : T_Tensor) (x2 : List Int) (x17 : List Int) (x31 : Int) (nx2 : (List Int) → Int → Option T_Tensor) (x35 : List Int) (x36 : Int) : Option T_Tensor :=
  if 0 ≤ x36 then ((at? x35 x36).bind fun x40 => chk (0 ≤ x36 ∧ x36 < (x35.length : Int)) <| (at? (x35.set x36.toNat (wk .i64 (x40 + 1))) x36).bind fun x41 => (at? x2 x36).bind fun x42 => if x41 < x42 then (nx1 (x17 ++ ([x31])) (x35.set x36.toNat (wk .i64 (x40 + 1)))) else chk (0 ≤ x36 ∧ x36 < ((x35.set x36.toNat (wk .i64 (x40 + 1))).length : Int)) <| nx2 ((x35.set x36.toNat (wk .i64 (x40 + 1))).set x36.toNat 0) (wk .i64 (x36 - 1))) else (tens_Pick fu x1 x2 (x17 ++ ([x31]))).bind fun x43 => some x43.1
def moves_picked.W2 (fu : Nat) (nx1 : (List Int) → (List Int) → Option T_Tensor) (x1 : T_Tensor) (x2 : List Int) (x17 : List Int) (x31 : Int) (x35 : List Int) (x36 : Int) : Option T_Tensor :=
  cloop (fun next s => moves_picked.L2 fu nx1 x1 x2 x17 x31 (fun x35 x36 => next (x35, x36)) s.1 s.2) fu (x35, x36)
def moves_picked.L1 (fu : Nat) (p2 : (List Int) → Option Int) (x1 : T_Tensor) (x2 : List Int) (nx1 : (List Int) → (List Int) → Option T_Tensor) (x17 : List Int) (x18 : List Int) : Option T_Tensor :=
  (p2 x18).bind fun x31 => chk ((x17.length + 1 : Int) * 8 ≤ 140737488355328) <| moves_picked.W2 fu nx1 x1 x2 x17 x31 x18 (wk .i64 ((x2.length : Int) - 1))
def moves_picked.W1 (fu : Nat) (p2 : (List Int) → Option Int) (x1 : T_Tensor) (x2 : List Int) (x17 : List Int) (x18 : List Int) : Option T_Tensor :=
  cloop (fun next s => moves_picked.L1 fu p2 x1 x2 (fun x17 x18 => next (x17, x18)) s.1 s.2) fu (x17, x18)
def moves_picked (fu : Nat) (x1 : T_Tensor) (x2 : List Int) (p2 : (List Int) → Option Int) : Option T_Tensor :=
  (slices_Contains_int fu x2 0).bind fun x3 => if x3 = true then ((tens_Pick fu x1 x2 ([] : List Int)).bind fun x4 => some x4.1) else chk (0 ≤ (x2.length : Int) ∧ (x2.length : Int) * 8 ≤ 140737488355328) <| moves_picked.W1 fu p2 x1 x2 ([] : List Int) (List.replicate (x2.length : Int).toNat (0 : Int))

/-! lattice/moves.dot -/
def moves_dot.L1 (fu : Nat) (x1 : List Int) (x2 : List Int) (nx1 : Int → Int → Option Int) (x5 : Int) (x6 : Int) : Option Int :=
  if x6 < (x2.length : Int) then ((at? x2 x6).bind fun x9 => (at? x1 x6).bind fun x10 => nx1 (wk .i64 (x5 + (wk .i64 (x10 * x9)))) (wk .i64 (x6 + 1))) else some x5
def moves_dot.W1 (fu : Nat) (x1 : List Int) (x2 : List Int) (x5 : Int) (x6 : Int) : Option Int :=
  cloop (fun next s => moves_dot.L1 fu x1 x2 (fun x5 x6 => next (x5, x6)) s.1 s.2) fu (x5, x6)
def moves_dot (fu : Nat) (x1 : List Int) (x2 : List Int) : Option Int :=
  moves_dot.W1 fu x1 x2 0 0

/-! (*lattice/moves.move).gather$1 -/
def moves_move_gather_1 (fu : Nat) (x1 : List Int) (x2 : T_moves_move) (x3 : List Int) (x4 : List Int) (x5 : List Int) (x6 : Int) : Option Int :=
  chk (0 ≤ x2.faxis ∧ x2.faxis ≤ (x3.length : Int)) <| (moves_dot fu x1 (subN x3 0 x2.faxis.toNat)).bind fun x7 => chk (0 ≤ x2.faxis ∧ x2.faxis ≤ (x1.length : Int)) <| (moves_dot fu (subN x1 x2.faxis.toNat x1.length) x5).bind fun x8 => (at? x4 x8).bind fun x9 => (at? x3 x2.faxis).bind fun x10 => chk (0 ≤ wk .i64 (x2.faxis + x6) ∧ wk .i64 (x2.faxis + x6) ≤ (x1.length : Int)) <| chk (0 ≤ wk .i64 (x2.faxis + 1) ∧ wk .i64 (x2.faxis + 1) ≤ (x3.length : Int)) <| (moves_dot fu (subN x1 (wk .i64 (x2.faxis + x6)).toNat x1.length) (subN x3 (wk .i64 (x2.faxis + 1)).toNat x3.length)).bind fun x11 => some (wk .i64 ((wk .i64 (x7 + (wk .i64 (x9 * x10)))) + x11))

/-! (*lattice/moves.move).gather -/
def moves_move_gather (fu : Nat) (x1 : T_moves_move) (x2 : List Int) (x3 : List Int) : Option T_Tensor :=
  chk (x1.fop = 50) <| (at? x1.fin 1).bind fun x4 => (moves_strides fu x1.fx.fDims).bind fun x5 => (moves_strides fu x4.fDims).bind fun x6 => (moves_picked fu x1.fx x2 (fun y0 => moves_move_gather_1 fu y0 (T_moves_move.mk 50 x1.fs x1.fin x1.fx x1.faxis) x5 x3 x6 (x4.fDims.length : Int))).bind fun x7 => some x7

/-! (*lattice/moves.move).one -/
def moves_move_one (fu : Nat) (x1 : T_moves_move) (x2 : List Int) (x3 : List Int) : Option T_Tensor :=
  chk (x1.fop = 50) <| (moves_move_gather fu (T_moves_move.mk 50 x1.fs x1.fin x1.fx x1.faxis) x2 x3).bind fun x4 => some x4

/-! lattice/moves.Do -/
def moves_Do.k2 (fu : Nat) (x2 : T_Setting) (x6 : List T_Tensor) (x8 : (List T_Val) × Int) (x9 : T_Tensor) (x10 : Int × Int) (x11 : List Int) : Option ((List T_Tensor) × Int) :=
  (at? x8.1 0).bind fun x12 => (moves_move_one fu (T_moves_move.mk 50 x2 x6 x9 x10.1) x12.fDims x11).bind fun x13 => some ([x13], 0)
def moves_Do.k1 (fu : Nat) (x2 : T_Setting) (x3 : List T_Tensor) (x4 : Int) (x6 : List T_Tensor) : Option ((List T_Tensor) × Int) :=
  (ewise_Vals fu x3).bind fun x7 => (infer_Node fu 50 x2 x7 x4).bind fun x8 => if x8.2 = 0 then ((at? x6 0).bind fun x9 => (shape_Axis fu x2.fAxis (x9.fDims.length : Int)).bind fun x10 => jn 2 () (fun (t : List Int) => moves_Do.k2 fu x2 x6 x8 x9 x10 t) <| (moves_move_named fu (T_moves_move.mk 50 x2 x6 x9 x10.1)).bind fun x14 => if x14.2 = true then (moves_Do.k2 fu x2 x6 x8 x9 x10 x14.1) else some ([], 11)) else some ([], x8.2)
def moves_Do.L1 (fu : Nat) (x2 : T_Setting) (x3 : List T_Tensor) (x4 : Int) (nx1 : (List T_Tensor) → Int → Option ((List T_Tensor) × Int)) (x19 : List T_Tensor) (x20 : Int) : Option ((List T_Tensor) × Int) :=
  if x20 < (x3.length : Int) then ((at? x3 x20).bind fun x25 => if x25.fType = 0 then ((tens_Canon fu x25).bind fun x26 => chk ((x19.length + 1 : Int) * 104 ≤ 140737488355328) <| nx1 (x19 ++ ([x26])) (wk .i64 (x20 + 1))) else (tens_Check fu x25).bind fun x27 => if x27 = 0 then ((tens_Canon fu x25).bind fun x28 => chk ((x19.length + 1 : Int) * 104 ≤ 140737488355328) <| nx1 (x19 ++ ([x28])) (wk .i64 (x20 + 1))) else some ([], x27)) else moves_Do.k1 fu x2 x3 x4 x19
def moves_Do.W1 (fu : Nat) (x2 : T_Setting) (x3 : List T_Tensor) (x4 : Int) (x19 : List T_Tensor) (x20 : Int) : Option ((List T_Tensor) × Int) :=
  cloop (fun next s => moves_Do.L1 fu x2 x3 x4 (fun x19 x20 => next (x19, x20)) s.1 s.2) fu (x19, x20)
def moves_Do (fu : Nat) (x1 : Int) (x2 : T_Setting) (x3 : List T_Tensor) (x4 : Int) : Option ((List T_Tensor) × Int) :=
  chk (x1 = 50) <| (moves_Has fu 50).bind fun x5 => if x5 = true then (jn 1 () (fun (t : List T_Tensor) => moves_Do.k1 fu x2 x3 x4 t) <| moves_Do.W1 fu x2 x3 x4 ([] : List T_Tensor) 0) else some ([], 1)

/-! lattice/latticeref05.Copy -/
def ref05_Copy (fu : Nat) (x1 : T_Tensor) : Option T_Tensor :=
  chk ((x1.fDims.length : Int) * 8 ≤ 140737488355328) <| chk ((x1.fF.length : Int) * 4 ≤ 140737488355328) <| chk ((x1.fI.length : Int) * 8 ≤ 140737488355328) <| chk ((x1.fB.length : Int) * 1 ≤ 140737488355328) <| some x1

/-! lattice/latticeref01.Abs -/
def ref01_Abs (fu : Nat) (x1 : Int) : Option Int :=
  some (Int.tmod x1 2147483648)

/-! lattice/latticeref01.IsNone -/
def ref01_IsNone (fu : Nat) (x1 : Int) : Option Bool :=
  (ref01_Abs fu x1).bind fun x2 => some (decide (2139095040 < x2))

/-! lattice/latticeref01.Canon -/
def ref01_Canon (fu : Nat) (x1 : Int) : Option Int :=
  (ref01_IsNone fu x1).bind fun x2 => if x2 = true then (some 2143289344) else some x1

/-! lattice/latticeref05.Canon -/
def ref05_Canon.L1 (fu : Nat) (x2 : T_Tensor) (nx1 : (List Int) → Int → Option T_Tensor) (x5 : List Int) (x6 : Int) : Option T_Tensor :=
  if x6 < (x5.length : Int) then ((at? x5 x6).bind fun x9 => (ref01_Canon fu x9).bind fun x10 => chk (0 ≤ x6 ∧ x6 < (x5.length : Int)) <| nx1 (x5.set x6.toNat x10) (wk .i64 (x6 + 1))) else some (T_Tensor.mk x2.fType x2.fDims x5 x2.fI x2.fB)
def ref05_Canon.W1 (fu : Nat) (x2 : T_Tensor) (x5 : List Int) (x6 : Int) : Option T_Tensor :=
  cloop (fun next s => ref05_Canon.L1 fu x2 (fun x5 x6 => next (x5, x6)) s.1 s.2) fu (x5, x6)
def ref05_Canon (fu : Nat) (x1 : T_Tensor) : Option T_Tensor :=
  (ref05_Copy fu x1).bind fun x2 => ref05_Canon.W1 fu x2 x2.fF 0

/-! lattice/latticeref04.SameInts -/
def ref04_SameInts.L1 (fu : Nat) (x1 : List Int) (x2 : List Int) (nx1 : Int → Option Bool) (x5 : Int) : Option Bool :=
  if x5 < (x1.length : Int) then ((at? x1 x5).bind fun x8 => (at? x2 x5).bind fun x9 => if x8 = x9 then (nx1 (wk .i64 (x5 + 1))) else some false) else some true
def ref04_SameInts.W1 (fu : Nat) (x1 : List Int) (x2 : List Int) (x5 : Int) : Option Bool :=
  cloop (fun next s => ref04_SameInts.L1 fu x1 x2 next s) fu x5
def ref04_SameInts (fu : Nat) (x1 : List Int) (x2 : List Int) : Option Bool :=
  if (x1.length : Int) = (x2.length : Int) then (ref04_SameInts.W1 fu x1 x2 0) else some false

/-! lattice/latticeref05.Same -/
def ref05_Same.L1 (fu : Nat) (x1 : T_Tensor) (x2 : T_Tensor) (nx1 : Int → Option Bool) (x5 : Int) : Option Bool :=
  if x5 < (x1.fB.length : Int) then ((at? x1.fB x5).bind fun x8 => (at? x2.fB x5).bind fun x9 => if (x8 == x9) = true then (nx1 (wk .i64 (x5 + 1))) else some false) else some true
def ref05_Same.W1 (fu : Nat) (x1 : T_Tensor) (x2 : T_Tensor) (x5 : Int) : Option Bool :=
  cloop (fun next s => ref05_Same.L1 fu x1 x2 next s) fu x5
def ref05_Same.k3 (fu : Nat) (x1 : T_Tensor) (x2 : T_Tensor) : Option Bool :=
  ref05_Same.W1 fu x1 x2 0
def ref05_Same.L2 (fu : Nat) (x1 : T_Tensor) (x2 : T_Tensor) (nx2 : Int → Option Bool) (x12 : Int) : Option Bool :=
  if x12 < (x1.fI.length : Int) then ((at? x1.fI x12).bind fun x15 => (at? x2.fI x12).bind fun x16 => if x15 = x16 then (nx2 (wk .i64 (x12 + 1))) else some false) else ref05_Same.k3 fu x1 x2
def ref05_Same.W2 (fu : Nat) (x1 : T_Tensor) (x2 : T_Tensor) (x12 : Int) : Option Bool :=
  cloop (fun next s => ref05_Same.L2 fu x1 x2 next s) fu x12
def ref05_Same.k2 (fu : Nat) (x1 : T_Tensor) (x2 : T_Tensor) : Option Bool :=
  jn 3 () (fun (t : Unit) => ref05_Same.k3 fu x1 x2) <| ref05_Same.W2 fu x1 x2 0
def ref05_Same.L3 (fu : Nat) (x1 : T_Tensor) (x2 : T_Tensor) (nx3 : Int → Option Bool) (x19 : Int) : Option Bool :=
  if x19 < (x1.fF.length : Int) then ((at? x1.fF x19).bind fun x22 => (at? x2.fF x19).bind fun x23 => if x22 = x23 then (nx3 (wk .i64 (x19 + 1))) else some false) else ref05_Same.k2 fu x1 x2
def ref05_Same.W3 (fu : Nat) (x1 : T_Tensor) (x2 : T_Tensor) (x19 : Int) : Option Bool :=
  cloop (fun next s => ref05_Same.L3 fu x1 x2 next s) fu x19
def ref05_Same.k1 (fu : Nat) (x1 : T_Tensor) (x2 : T_Tensor) : Option Bool :=
  jn 2 () (fun (t : Unit) => ref05_Same.k2 fu x1 x2) <| ref05_Same.W3 fu x1 x2 0
def ref05_Same (fu : Nat) (x1 : T_Tensor) (x2 : T_Tensor) : Option Bool :=
  jn 1 () (fun (t : Unit) => ref05_Same.k1 fu x1 x2) <| if x1.fType = x2.fType then ((ref04_SameInts fu x1.fDims x2.fDims).bind fun x24 => if x24 = true then (if (x1.fF.length : Int) = (x2.fF.length : Int) then (if (x1.fI.length : Int) = (x2.fI.length : Int) then (if (x1.fB.length : Int) = (x2.fB.length : Int) then (ref05_Same.k1 fu x1 x2) else some false) else some false) else some false) else some false) else some false

/-! lattice/latticelaw12.MovesAll -/
def law12_MovesAll.k2 (fu : Nat) (x1 : T_Tensor) (x2 : Int) (x4 : List Int) (x5 : List Int) : Option Bool :=
  (law12_list fu x5).bind fun x6 => (moves_Do fu 50 (T_Setting.mk x2 ([]) false false false false false ([]) false 0 0 0 false false false 0 0 false false 0 ([]) ([]) ([]) ([]) 0 false false 0 0 0 false (T_Tensor.mk 0 ([]) ([]) ([]) ([]))) ([x1, x6]) 1).bind fun x7 => if x7.2 = 0 then (if (x7.1.length : Int) = 1 then ((at? x7.1 0).bind fun x8 => (ref05_Canon fu x1).bind fun x9 => (ref05_Same fu x8 x9).bind fun x10 => some x10) else some false) else some false
def law12_MovesAll.L1 (fu : Nat) (x1 : T_Tensor) (x2 : Int) (x3 : Int × Int) (nx1 : (List Int) → Int → Option Bool) (x12 : List Int) (x13 : Int) : Option Bool :=
  (at? x1.fDims x3.1).bind fun x15 => if x13 < x15 then (chk ((x12.length + 1 : Int) * 8 ≤ 140737488355328) <| nx1 (x12 ++ ([x13])) (wk .i64 (x13 + 1))) else law12_MovesAll.k2 fu x1 x2 x12 x12
def law12_MovesAll.W1 (fu : Nat) (x1 : T_Tensor) (x2 : Int) (x3 : Int × Int) (x12 : List Int) (x13 : Int) : Option Bool :=
  cloop (fun next s => law12_MovesAll.L1 fu x1 x2 x3 (fun x12 x13 => next (x12, x13)) s.1 s.2) fu (x12, x13)
def law12_MovesAll.k1 (fu : Nat) (x1 : T_Tensor) (x2 : Int) (x3 : Int × Int) : Option Bool :=
  jn 2 () (fun (t : (List Int) × (List Int)) => law12_MovesAll.k2 fu x1 x2 t.1 t.2) <| law12_MovesAll.W1 fu x1 x2 x3 ([] : List Int) 0
def law12_MovesAll (fu : Nat) (x1 : T_Tensor) (x2 : Int) : Option Bool :=
  (ref04_Axis fu x2 (x1.fDims.length : Int)).bind fun x3 => jn 1 () (fun (t : Unit) => law12_MovesAll.k1 fu x1 x2 x3) <| if x3.2 = 0 then ((ref05_Check fu x1).bind fun x16 => if x16 = 0 then (law12_MovesAll.k1 fu x1 x2 x3) else some true) else some true

end Go.Av
