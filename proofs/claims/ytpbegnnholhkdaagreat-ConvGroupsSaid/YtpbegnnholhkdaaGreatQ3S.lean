/- Plain functions, as the program has them; data of structs. Made by a program of mine. Conditions: none. -/
import Derived.Test.YtpbegnnholhkdaaGreatAu
set_option linter.unusedVariables false
namespace Go.Av

structure T_Tensor where
  fType : Int
  fDims : List Int
  fF : List Int
  fI : List Int
  fB : List Bool
def c_T_Tensor (x : T_Tensor) : List AV := [.v (.int .i64 x.fType), .arr x.fDims.length (lm (ik .i64) x.fDims), .arr x.fF.length (lm (ik .u32) x.fF), .arr x.fI.length (lm (ik .i64) x.fI), .arr x.fB.length (lm (bk) x.fB)]
theorem c_T_Tensor_len : ∀ x, (c_T_Tensor x).length = 5 := fun _ => rfl
theorem c_T_Tensor_one : ∀ x, (c_T_Tensor x).all AV.one = true := fun _ => rfl

structure T_Setting where
  fAxis : Int
  fAxes : List Int
  fHasAxes : Bool
  fKeep : Bool
  fNoop : Bool
  fLast : Bool
  fZero : Bool
  fPerm : List Int
  fHasPerm : Bool
  fAlpha : Int
  fBeta : Int
  fEpsilon : Int
  fLow : Bool
  fHigh : Bool
  fFmod : Bool
  fTo : Int
  fMode : Int
  fTransA : Bool
  fTransB : Bool
  fGroup : Int
  fKernel : List Int
  fStrides : List Int
  fPads : List Int
  fDilations : List Int
  fAuto : Int
  fCeil : Bool
  fCount : Bool
  fBlock : Int
  fStart : Int
  fEnd : Int
  fHasEnd : Bool
  fValue : T_Tensor
def c_T_Setting (x : T_Setting) : List AV := [.v (.int .i64 x.fAxis), .arr x.fAxes.length (lm (ik .i64) x.fAxes), .v (.bool x.fHasAxes), .v (.bool x.fKeep), .v (.bool x.fNoop), .v (.bool x.fLast), .v (.bool x.fZero), .arr x.fPerm.length (lm (ik .i64) x.fPerm), .v (.bool x.fHasPerm), .v (.int .u32 x.fAlpha), .v (.int .u32 x.fBeta), .v (.int .u32 x.fEpsilon), .v (.bool x.fLow), .v (.bool x.fHigh), .v (.bool x.fFmod), .v (.int .i64 x.fTo), .v (.int .i64 x.fMode), .v (.bool x.fTransA), .v (.bool x.fTransB), .v (.int .i64 x.fGroup), .arr x.fKernel.length (lm (ik .i64) x.fKernel), .arr x.fStrides.length (lm (ik .i64) x.fStrides), .arr x.fPads.length (lm (ik .i64) x.fPads), .arr x.fDilations.length (lm (ik .i64) x.fDilations), .v (.int .i64 x.fAuto), .v (.bool x.fCeil), .v (.bool x.fCount), .v (.int .i64 x.fBlock), .v (.int .i64 x.fStart), .v (.int .i64 x.fEnd), .v (.bool x.fHasEnd), .v (.int .i64 x.fValue.fType), .arr x.fValue.fDims.length (lm (ik .i64) x.fValue.fDims), .arr x.fValue.fF.length (lm (ik .u32) x.fValue.fF), .arr x.fValue.fI.length (lm (ik .i64) x.fValue.fI), .arr x.fValue.fB.length (lm (bk) x.fValue.fB)]
theorem c_T_Setting_len : ∀ x, (c_T_Setting x).length = 36 := fun _ => rfl
theorem c_T_Setting_one : ∀ x, (c_T_Setting x).all AV.one = true := fun _ => rfl

structure T_Val where
  fType : Int
  fDims : List Int
  fConst : Bool
  fT : T_Tensor
def c_T_Val (x : T_Val) : List AV := [.v (.int .i64 x.fType), .arr x.fDims.length (lm (ik .i64) x.fDims), .v (.bool x.fConst), .v (.int .i64 x.fT.fType), .arr x.fT.fDims.length (lm (ik .i64) x.fT.fDims), .arr x.fT.fF.length (lm (ik .u32) x.fT.fF), .arr x.fT.fI.length (lm (ik .i64) x.fT.fI), .arr x.fT.fB.length (lm (bk) x.fT.fB)]
theorem c_T_Val_len : ∀ x, (c_T_Val x).length = 8 := fun _ => rfl
theorem c_T_Val_one : ∀ x, (c_T_Val x).all AV.one = true := fun _ => rfl

structure T_infer_ask where
  fop : Int
  fs : T_Setting
  fin : List T_Val
  fouts : Int
def c_T_infer_ask (x : T_infer_ask) : List AV := [.v (.int .i64 x.fop), .v (.int .i64 x.fs.fAxis), .arr x.fs.fAxes.length (lm (ik .i64) x.fs.fAxes), .v (.bool x.fs.fHasAxes), .v (.bool x.fs.fKeep), .v (.bool x.fs.fNoop), .v (.bool x.fs.fLast), .v (.bool x.fs.fZero), .arr x.fs.fPerm.length (lm (ik .i64) x.fs.fPerm), .v (.bool x.fs.fHasPerm), .v (.int .u32 x.fs.fAlpha), .v (.int .u32 x.fs.fBeta), .v (.int .u32 x.fs.fEpsilon), .v (.bool x.fs.fLow), .v (.bool x.fs.fHigh), .v (.bool x.fs.fFmod), .v (.int .i64 x.fs.fTo), .v (.int .i64 x.fs.fMode), .v (.bool x.fs.fTransA), .v (.bool x.fs.fTransB), .v (.int .i64 x.fs.fGroup), .arr x.fs.fKernel.length (lm (ik .i64) x.fs.fKernel), .arr x.fs.fStrides.length (lm (ik .i64) x.fs.fStrides), .arr x.fs.fPads.length (lm (ik .i64) x.fs.fPads), .arr x.fs.fDilations.length (lm (ik .i64) x.fs.fDilations), .v (.int .i64 x.fs.fAuto), .v (.bool x.fs.fCeil), .v (.bool x.fs.fCount), .v (.int .i64 x.fs.fBlock), .v (.int .i64 x.fs.fStart), .v (.int .i64 x.fs.fEnd), .v (.bool x.fs.fHasEnd), .v (.int .i64 x.fs.fValue.fType), .arr x.fs.fValue.fDims.length (lm (ik .i64) x.fs.fValue.fDims), .arr x.fs.fValue.fF.length (lm (ik .u32) x.fs.fValue.fF), .arr x.fs.fValue.fI.length (lm (ik .i64) x.fs.fValue.fI), .arr x.fs.fValue.fB.length (lm (bk) x.fs.fValue.fB), .arr x.fin.length (fm c_T_Val x.fin), .v (.int .i64 x.fouts)]
theorem c_T_infer_ask_len : ∀ x, (c_T_infer_ask x).length = 39 := fun _ => rfl
theorem c_T_infer_ask_one : ∀ x, (c_T_infer_ask x).all AV.one = true := fun _ => rfl

structure T_conv_axis where
  fsize : Int
  fkernel : Int
  fstride : Int
  fdilation : Int
  fahead : Int
  fwindows : Int
def c_T_conv_axis (x : T_conv_axis) : List AV := [.v (.int .i64 x.fsize), .v (.int .i64 x.fkernel), .v (.int .i64 x.fstride), .v (.int .i64 x.fdilation), .v (.int .i64 x.fahead), .v (.int .i64 x.fwindows)]
theorem c_T_conv_axis_len : ∀ x, (c_T_conv_axis x).length = 6 := fun _ => rfl
theorem c_T_conv_axis_one : ∀ x, (c_T_conv_axis x).all AV.one = true := fun _ => rfl

structure T_conv_work where
  fs : T_Setting
  fin : List T_Tensor
  fdims : List Int
  fh : T_conv_axis
  fw : T_conv_axis
def c_T_conv_work (x : T_conv_work) : List AV := [.v (.int .i64 x.fs.fAxis), .arr x.fs.fAxes.length (lm (ik .i64) x.fs.fAxes), .v (.bool x.fs.fHasAxes), .v (.bool x.fs.fKeep), .v (.bool x.fs.fNoop), .v (.bool x.fs.fLast), .v (.bool x.fs.fZero), .arr x.fs.fPerm.length (lm (ik .i64) x.fs.fPerm), .v (.bool x.fs.fHasPerm), .v (.int .u32 x.fs.fAlpha), .v (.int .u32 x.fs.fBeta), .v (.int .u32 x.fs.fEpsilon), .v (.bool x.fs.fLow), .v (.bool x.fs.fHigh), .v (.bool x.fs.fFmod), .v (.int .i64 x.fs.fTo), .v (.int .i64 x.fs.fMode), .v (.bool x.fs.fTransA), .v (.bool x.fs.fTransB), .v (.int .i64 x.fs.fGroup), .arr x.fs.fKernel.length (lm (ik .i64) x.fs.fKernel), .arr x.fs.fStrides.length (lm (ik .i64) x.fs.fStrides), .arr x.fs.fPads.length (lm (ik .i64) x.fs.fPads), .arr x.fs.fDilations.length (lm (ik .i64) x.fs.fDilations), .v (.int .i64 x.fs.fAuto), .v (.bool x.fs.fCeil), .v (.bool x.fs.fCount), .v (.int .i64 x.fs.fBlock), .v (.int .i64 x.fs.fStart), .v (.int .i64 x.fs.fEnd), .v (.bool x.fs.fHasEnd), .v (.int .i64 x.fs.fValue.fType), .arr x.fs.fValue.fDims.length (lm (ik .i64) x.fs.fValue.fDims), .arr x.fs.fValue.fF.length (lm (ik .u32) x.fs.fValue.fF), .arr x.fs.fValue.fI.length (lm (ik .i64) x.fs.fValue.fI), .arr x.fs.fValue.fB.length (lm (bk) x.fs.fValue.fB), .arr x.fin.length (fm c_T_Tensor x.fin), .arr x.fdims.length (lm (ik .i64) x.fdims), .v (.int .i64 x.fh.fsize), .v (.int .i64 x.fh.fkernel), .v (.int .i64 x.fh.fstride), .v (.int .i64 x.fh.fdilation), .v (.int .i64 x.fh.fahead), .v (.int .i64 x.fh.fwindows), .v (.int .i64 x.fw.fsize), .v (.int .i64 x.fw.fkernel), .v (.int .i64 x.fw.fstride), .v (.int .i64 x.fw.fdilation), .v (.int .i64 x.fw.fahead), .v (.int .i64 x.fw.fwindows)]
theorem c_T_conv_work_len : ∀ x, (c_T_conv_work x).length = 50 := fun _ => rfl
theorem c_T_conv_work_one : ∀ x, (c_T_conv_work x).all AV.one = true := fun _ => rfl

structure T_soft_number where
  fneg : Bool
  fnan : Bool
  finf : Bool
  fexp : Int
  fsig : Int
def c_T_soft_number (x : T_soft_number) : List AV := [.v (.bool x.fneg), .v (.bool x.fnan), .v (.bool x.finf), .v (.int .i64 x.fexp), .v (.int .u64 x.fsig)]
theorem c_T_soft_number_len : ∀ x, (c_T_soft_number x).length = 5 := fun _ => rfl
theorem c_T_soft_number_one : ∀ x, (c_T_soft_number x).all AV.one = true := fun _ => rfl

/-! lattice/conv.Has -/
def conv_Has (fu : Nat) (x1 : Int) : Option Bool :=
  chk (x1 = 75) <| some (decide ((75 : Int) = 75))

/-! lattice/tens.Width -/
def tens_Width (fu : Nat) (x1 : Int) : Option Int :=
  if x1 = 1 then (some 4) else if x1 = 7 then (some 8) else if x1 = 9 then (some 1) else some 0

/-! lattice/tens.known -/
def tens_known (fu : Nat) (x1 : Int) : Option Bool :=
  (tens_Width fu x1).bind fun x2 => some (decide (0 < x2))

/-! slices.IndexFunc[[]int,int] -/
def slices_IndexFunc_int.L1 (fu : Nat) (p1 : Int → Option Bool) (x1 : List Int) (nx1 : Int → Option Int) (x4 : Int) : Option Int :=
  if x4 < (x1.length : Int) then ((at? x1 x4).bind fun x7 => (p1 x7).bind fun x8 => if x8 = true then (some x4) else nx1 (wk .i64 (x4 + 1))) else some (-1)
def slices_IndexFunc_int.W1 (fu : Nat) (p1 : Int → Option Bool) (x1 : List Int) (x4 : Int) : Option Int :=
  cloop (fun next s => slices_IndexFunc_int.L1 fu p1 x1 next s) fu x4
def slices_IndexFunc_int (fu : Nat) (x1 : List Int) (p1 : Int → Option Bool) : Option Int :=
  slices_IndexFunc_int.W1 fu p1 x1 0

/-! slices.ContainsFunc[[]int,int] -/
def slices_ContainsFunc_int (fu : Nat) (x1 : List Int) (p1 : Int → Option Bool) : Option Bool :=
  (slices_IndexFunc_int fu x1 p1).bind fun x2 => some (decide (0 ≤ x2))

/-! lattice/shape.Size$1 -/
def shape_Size_1 (fu : Nat) (x1 : Int) : Option Bool :=
  some (decide (x1 < 0))

/-! lattice/shape.Size$2 -/
def shape_Size_2 (fu : Nat) (x1 : Int) : Option Bool :=
  some (decide (4096 < x1))

/-! slices.Index[[]int,int] -/
def slices_Index_int.L1 (fu : Nat) (x1 : List Int) (x2 : Int) (nx1 : Int → Option Int) (x4 : Int) : Option Int :=
  if x4 < (x1.length : Int) then ((at? x1 x4).bind fun x6 => if x2 = x6 then (some x4) else nx1 (wk .i64 (x4 + 1))) else some (-1)
def slices_Index_int.W1 (fu : Nat) (x1 : List Int) (x2 : Int) (x4 : Int) : Option Int :=
  cloop (fun next s => slices_Index_int.L1 fu x1 x2 next s) fu x4
def slices_Index_int (fu : Nat) (x1 : List Int) (x2 : Int) : Option Int :=
  slices_Index_int.W1 fu x1 x2 0

/-! slices.Contains[[]int,int] -/
def slices_Contains_int (fu : Nat) (x1 : List Int) (x2 : Int) : Option Bool :=
  (slices_Index_int fu x1 x2).bind fun x3 => some (decide (0 ≤ x3))

/-! lattice/shape.Size -/
def shape_Size.L1 (fu : Nat) (x1 : List Int) (nx1 : Int → Int → Option (Int × Int)) (x5 : Int) (x6 : Int) : Option (Int × Int) :=
  if x6 < (x1.length : Int) then ((at? x1 x6).bind fun x8 => chk (x5 ≠ 0) <| if (wk .i64 (Int.tdiv 4096 x5)) < x8 then (some (0, 4)) else nx1 (wk .i64 (x5 * x8)) (wk .i64 (x6 + 1))) else some (x5, 0)
def shape_Size.W1 (fu : Nat) (x1 : List Int) (x5 : Int) (x6 : Int) : Option (Int × Int) :=
  cloop (fun next s => shape_Size.L1 fu x1 (fun x5 x6 => next (x5, x6)) s.1 s.2) fu (x5, x6)
def shape_Size.k1 (fu : Nat) (x1 : List Int) : Option (Int × Int) :=
  (slices_Contains_int fu x1 0).bind fun x3 => if x3 = true then (some (0, 0)) else shape_Size.W1 fu x1 1 0
def shape_Size (fu : Nat) (x1 : List Int) : Option (Int × Int) :=
  (slices_ContainsFunc_int fu x1 (fun y0 => shape_Size_1 fu y0)).bind fun x2 => if x2 = true then (some (0, 1)) else jn 1 () (fun (t : Unit) => shape_Size.k1 fu x1) <| if 8 < (x1.length : Int) then (some (0, 4)) else (slices_ContainsFunc_int fu x1 (fun y0 => shape_Size_2 fu y0)).bind fun x9 => if x9 = true then (some (0, 4)) else shape_Size.k1 fu x1

/-! lattice/tens.Check -/
def tens_Check.k1 (fu : Nat) (x1 : T_Tensor) (x3 : Int × Int) (x4 : Int) : Option Int :=
  if x4 = x3.1 then (if (wk .i64 ((wk .i64 ((x1.fF.length : Int) + (x1.fI.length : Int))) + (x1.fB.length : Int))) = x3.1 then (some 0) else some 3) else some 3
def tens_Check (fu : Nat) (x1 : T_Tensor) : Option Int :=
  (tens_known fu x1.fType).bind fun x2 => if x2 = true then ((shape_Size fu x1.fDims).bind fun x3 => if x3.2 = 0 then (jn 1 () (fun (t : Int) => tens_Check.k1 fu x1 x3 t) <| if x1.fType = 7 then (tens_Check.k1 fu x1 x3 (x1.fI.length : Int)) else if x1.fType = 9 then (tens_Check.k1 fu x1 x3 (x1.fB.length : Int)) else tens_Check.k1 fu x1 x3 (x1.fF.length : Int)) else some x3.2) else some 5

/-! lattice/tens.own[int] -/
def tens_own_int (fu : Nat) (x1 : List Int) : Option (List Int) :=
  chk ((x1.length : Int) * 8 ≤ 140737488355328) <| some x1

/-! lattice/tens.own[uint32] -/
def tens_own_uint32 (fu : Nat) (x1 : List Int) : Option (List Int) :=
  chk ((x1.length : Int) * 4 ≤ 140737488355328) <| some x1

/-! lattice/tens.own[int64] -/
def tens_own_int64 (fu : Nat) (x1 : List Int) : Option (List Int) :=
  chk ((x1.length : Int) * 8 ≤ 140737488355328) <| some x1

/-! lattice/tens.own[bool] -/
def tens_own_bool (fu : Nat) (x1 : List Bool) : Option (List Bool) :=
  chk ((x1.length : Int) * 1 ≤ 140737488355328) <| some x1

/-! lattice/tens.Copy -/
def tens_Copy (fu : Nat) (x1 : T_Tensor) : Option T_Tensor :=
  (tens_own_int fu x1.fDims).bind fun x2 => (tens_own_uint32 fu x1.fF).bind fun x3 => (tens_own_int64 fu x1.fI).bind fun x4 => (tens_own_bool fu x1.fB).bind fun x5 => some (T_Tensor.mk x1.fType x2 x3 x4 x5)

/-! lattice/soft.Abs -/
def soft_Abs (fu : Nat) (x1 : Int) : Option Int :=
  some (bandn .u32 x1 2147483648)

/-! lattice/soft.NaN -/
def soft_NaN (fu : Nat) (x1 : Int) : Option Bool :=
  (soft_Abs fu x1).bind fun x2 => some (decide (2139095040 < x2))

/-! lattice/soft.Canon -/
def soft_Canon (fu : Nat) (x1 : Int) : Option Int :=
  (soft_NaN fu x1).bind fun x2 => if x2 = true then (some 2143289344) else some x1

/-! lattice/tens.Canon -/
def tens_Canon.L1 (fu : Nat) (x2 : T_Tensor) (nx1 : (List Int) → Int → Option T_Tensor) (x5 : List Int) (x6 : Int) : Option T_Tensor :=
  if x6 < ((x2.fF.length : Nat) : Int) then ((at? x5 x6).bind fun x9 => (soft_Canon fu x9).bind fun x10 => chk (0 ≤ x6 ∧ x6 < (x5.length : Int)) <| nx1 (x5.set x6.toNat x10) (wk .i64 (x6 + 1))) else some (T_Tensor.mk x2.fType x2.fDims x5 x2.fI x2.fB)
def tens_Canon.W1 (fu : Nat) (x2 : T_Tensor) (x5 : List Int) (x6 : Int) : Option T_Tensor :=
  cloop (fun next s => tens_Canon.L1 fu x2 (fun x5 x6 => next (x5, x6)) s.1 s.2) fu (x5, x6)
def tens_Canon (fu : Nat) (x1 : T_Tensor) : Option T_Tensor :=
  (tens_Copy fu x1).bind fun x2 => tens_Canon.W1 fu x2 x2.fF 0

/-! slices.Clone[[]int,int] -/
def slices_Clone_int (fu : Nat) (x1 : List Int) : Option (List Int) :=
  chk ((x1.length : Int) * 8 ≤ 140737488355328) <| some x1

/-! lattice/ewise.Vals -/
def ewise_Vals.L1 (fu : Nat) (x1 : List T_Tensor) (nx1 : (List T_Val) → Int → Option (List T_Val)) (x5 : List T_Val) (x6 : Int) : Option (List T_Val) :=
  if x6 < (x1.length : Int) then ((at? x1 x6).bind fun x10 => if x10.fType = 0 then (chk ((x5.length + 1 : Int) * 144 ≤ 140737488355328) <| nx1 (x5 ++ ([T_Val.mk 0 ([]) false (T_Tensor.mk 0 ([]) ([]) ([]) ([]))])) (wk .i64 (x6 + 1))) else (slices_Clone_int fu x10.fDims).bind fun x11 => (tens_Copy fu x10).bind fun x12 => chk ((x5.length + 1 : Int) * 144 ≤ 140737488355328) <| nx1 (x5 ++ ([T_Val.mk x10.fType x11 true x12])) (wk .i64 (x6 + 1))) else some x5
def ewise_Vals.W1 (fu : Nat) (x1 : List T_Tensor) (x5 : List T_Val) (x6 : Int) : Option (List T_Val) :=
  cloop (fun next s => ewise_Vals.L1 fu x1 (fun x5 x6 => next (x5, x6)) s.1 s.2) fu (x5, x6)
def ewise_Vals (fu : Nat) (x1 : List T_Tensor) : Option (List T_Val) :=
  ewise_Vals.W1 fu x1 ([] : List T_Val) 0

/-! lattice/ops.Arity -/
def ops_Arity (fu : Nat) (x1 : Int) : Option (Int × Int × Int × Int) :=
  chk (x1 = 75) <| some (2, 3, 1, 1)

/-! (lattice/infer.ask).val -/
def infer_ask_val (fu : Nat) (x1 : T_infer_ask) (x2 : Int) : Option T_Val :=
  chk (x1.fop = 75) <| if x2 < (x1.fin.length : Int) then ((at? x1.fin x2).bind fun x3 => some x3) else some (T_Val.mk 0 ([]) false (T_Tensor.mk 0 ([]) ([]) ([]) ([])))

/-! (lattice/infer.ask).has -/
def infer_ask_has (fu : Nat) (x1 : T_infer_ask) (x2 : Int) : Option Bool :=
  chk (x1.fop = 75) <| (infer_ask_val fu (T_infer_ask.mk 75 x1.fs x1.fin x1.fouts) x2).bind fun x3 => some (!(decide (x3.fType = 0)))

/-! (lattice/infer.ask).complete -/
def infer_ask_complete.L1 (fu : Nat) (x1 : T_infer_ask) (x2 : Int × Int × Int × Int) (nx1 : Int → Option Bool) (x4 : Int) : Option Bool :=
  if x4 < x2.1 then ((infer_ask_has fu (T_infer_ask.mk 75 x1.fs x1.fin x1.fouts) x4).bind fun x6 => if x6 = true then (nx1 (wk .i64 (x4 + 1))) else some false) else some true
def infer_ask_complete.W1 (fu : Nat) (x1 : T_infer_ask) (x2 : Int × Int × Int × Int) (x4 : Int) : Option Bool :=
  cloop (fun next s => infer_ask_complete.L1 fu x1 x2 next s) fu x4
def infer_ask_complete.k1 (fu : Nat) (x1 : T_infer_ask) (x2 : Int × Int × Int × Int) : Option Bool :=
  infer_ask_complete.W1 fu x1 x2 0
def infer_ask_complete (fu : Nat) (x1 : T_infer_ask) : Option Bool :=
  chk (x1.fop = 75) <| (ops_Arity fu 75).bind fun x2 => jn 1 () (fun (t : Unit) => infer_ask_complete.k1 fu x1 x2) <| if x2.2.2.1 = 0 then (some false) else if (x1.fin.length : Int) < x2.1 then (some false) else if x2.2.1 < (x1.fin.length : Int) then (some false) else if x1.fouts < x2.2.2.1 then (some false) else if x2.2.2.2 < x1.fouts then (some false) else infer_ask_complete.k1 fu x1 x2

/-! lattice/infer.sorts -/
def infer_sorts.k5 (fu : Nat) : Option ByteArray :=
  some (⟨#[102]⟩ : ByteArray)
def infer_sorts.k4 (fu : Nat) : Option ByteArray :=
  jn 5 () (fun (t : Unit) => infer_sorts.k5 fu) <| infer_sorts.k5 fu
def infer_sorts.k3 (fu : Nat) : Option ByteArray :=
  jn 4 () (fun (t : Unit) => infer_sorts.k4 fu) <| infer_sorts.k4 fu
def infer_sorts.k2 (fu : Nat) : Option ByteArray :=
  jn 3 () (fun (t : Unit) => infer_sorts.k3 fu) <| infer_sorts.k3 fu
def infer_sorts.k1 (fu : Nat) : Option ByteArray :=
  jn 2 () (fun (t : Unit) => infer_sorts.k2 fu) <| infer_sorts.k2 fu
def infer_sorts (fu : Nat) (x1 : Int) : Option ByteArray :=
  chk (x1 = 75) <| jn 1 () (fun (t : Unit) => infer_sorts.k1 fu) <| infer_sorts.k1 fu

/-! (lattice/infer.ask).fits -/
def infer_ask_fits.k1 (fu : Nat) (x5 : Bool) : Option Bool :=
  some x5
def infer_ask_fits (fu : Nat) (x1 : T_infer_ask) (x2 : Int) (x3 : Int) : Option Bool :=
  chk (x1.fop = 75) <| (infer_ask_val fu (T_infer_ask.mk 75 x1.fs x1.fin x1.fouts) x2).bind fun x4 => if x3 = 110 then (jn 1 () (fun (t : Bool) => infer_ask_fits.k1 fu t) <| if x4.fType = 1 then (infer_ask_fits.k1 fu true) else infer_ask_fits.k1 fu (decide (x4.fType = 7))) else if x3 = 102 then (some (decide (x4.fType = 1))) else if x3 = 98 then (some (decide (x4.fType = 9))) else if x3 = 105 then (some (decide (x4.fType = 7))) else if x3 = 61 then ((infer_ask_val fu (T_infer_ask.mk 75 x1.fs x1.fin x1.fouts) 0).bind fun x6 => some (decide (x4.fType = x6.fType))) else if x3 = 43 then ((infer_ask_val fu (T_infer_ask.mk 75 x1.fs x1.fin x1.fouts) (wk .i64 (x2 - 1))).bind fun x7 => some (decide (x4.fType = x7.fType))) else (tens_Width fu x4.fType).bind fun x8 => some (decide (0 < x8))

/-! (lattice/infer.ask).typed -/
def infer_ask_typed.k1 (fu : Nat) : Option Bool :=
  some true
def infer_ask_typed.L1 (fu : Nat) (x1 : T_infer_ask) (x2 : ByteArray) (nx1 : Int → Option Bool) (x8 : Int) : Option Bool :=
  if x8 < (x1.fin.length : Int) then ((infer_ask_has fu (T_infer_ask.mk 75 x1.fs x1.fin x1.fouts) x8).bind fun x14 => if x14 = true then ((infer_ask_val fu (T_infer_ask.mk 75 x1.fs x1.fin x1.fouts) x8).bind fun x15 => (tens_Width fu x15.fType).bind fun x16 => if x16 = 0 then (some false) else (sat? x2 (imin x8 (wk .i64 ((x2.size : Int) - 1)))).bind fun x17 => (infer_ask_fits fu (T_infer_ask.mk 75 x1.fs x1.fin x1.fouts) x8 x17).bind fun x18 => if x18 = true then (nx1 (wk .i64 (x8 + 1))) else some false) else nx1 (wk .i64 (x8 + 1))) else infer_ask_typed.k1 fu
def infer_ask_typed.W1 (fu : Nat) (x1 : T_infer_ask) (x2 : ByteArray) (x8 : Int) : Option Bool :=
  cloop (fun next s => infer_ask_typed.L1 fu x1 x2 next s) fu x8
def infer_ask_typed (fu : Nat) (x1 : T_infer_ask) : Option Bool :=
  chk (x1.fop = 75) <| (infer_sorts fu 75).bind fun x2 => jn 1 () (fun (t : Unit) => infer_ask_typed.k1 fu) <| infer_ask_typed.W1 fu x1 x2 0

/-! (lattice/infer.ask).dims -/
def infer_ask_dims (fu : Nat) (x1 : T_infer_ask) (x2 : Int) : Option (List Int) :=
  chk (x1.fop = 75) <| (infer_ask_val fu (T_infer_ask.mk 75 x1.fs x1.fin x1.fouts) x2).bind fun x3 => some x3.fDims

/-! (lattice/infer.ask).rank -/
def infer_ask_rank (fu : Nat) (x1 : T_infer_ask) : Option Int :=
  chk (x1.fop = 75) <| (infer_ask_dims fu (T_infer_ask.mk 75 x1.fs x1.fin x1.fouts) 0).bind fun x2 => some (x2.length : Int)

/-! lattice/infer.many -/
def infer_many (fu : Nat) (x1 : List Int) (x2 : Int) : Option Bool :=
  if (x1.length : Int) = 0 then (some true) else some (decide ((x1.length : Int) = x2))

/-! (lattice/infer.ask).frames -/
def infer_ask_frames (fu : Nat) (x1 : T_infer_ask) : Option Bool :=
  chk (x1.fop = 75) <| (infer_many fu x1.fs.fStrides 2).bind fun x2 => if x2 = true then ((infer_many fu x1.fs.fDilations 2).bind fun x3 => if x3 = true then ((infer_many fu x1.fs.fPads 4).bind fun x4 => some x4) else some false) else some false

/-! (lattice/infer.ask).attributes -/
def infer_ask_attributes.k2 (fu : Nat) (x1 : T_infer_ask) : Option Bool :=
  if 1 ≤ x1.fs.fGroup then (if x1.fs.fGroup ≤ 4096 then ((infer_many fu x1.fs.fKernel 2).bind fun x3 => if x3 = true then ((infer_ask_frames fu (T_infer_ask.mk 75 x1.fs x1.fin x1.fouts)).bind fun x4 => some x4) else some false) else some false) else some false
def infer_ask_attributes.k1 (fu : Nat) (x1 : T_infer_ask) : Option Bool :=
  jn 2 () (fun (t : Unit) => infer_ask_attributes.k2 fu x1) <| infer_ask_attributes.k2 fu x1
def infer_ask_attributes (fu : Nat) (x1 : T_infer_ask) : Option Bool :=
  chk (x1.fop = 75) <| (infer_ask_rank fu (T_infer_ask.mk 75 x1.fs x1.fin x1.fouts)).bind fun x2 => jn 1 () (fun (t : Unit) => infer_ask_attributes.k1 fu x1) <| infer_ask_attributes.k1 fu x1

/-! (lattice/infer.ask).lists -/
def infer_ask_lists.k1 (fu : Nat) : Option (List T_Val) :=
  some ([])
def infer_ask_lists (fu : Nat) (x1 : T_infer_ask) : Option (List T_Val) :=
  chk (x1.fop = 75) <| jn 1 () (fun (t : Unit) => infer_ask_lists.k1 fu) <| infer_ask_lists.k1 fu

/-! slices.IndexFunc[[]lattice/api.Val,lattice/api.Val] -/
def slices_IndexFunc_api_Val_api_Val.L1 (fu : Nat) (p1 : T_Val → Option Bool) (x1 : List T_Val) (nx1 : Int → Option Int) (x4 : Int) : Option Int :=
  if x4 < (x1.length : Int) then ((at? x1 x4).bind fun x7 => (p1 x7).bind fun x8 => if x8 = true then (some x4) else nx1 (wk .i64 (x4 + 1))) else some (-1)
def slices_IndexFunc_api_Val_api_Val.W1 (fu : Nat) (p1 : T_Val → Option Bool) (x1 : List T_Val) (x4 : Int) : Option Int :=
  cloop (fun next s => slices_IndexFunc_api_Val_api_Val.L1 fu p1 x1 next s) fu x4
def slices_IndexFunc_api_Val_api_Val (fu : Nat) (x1 : List T_Val) (p1 : T_Val → Option Bool) : Option Int :=
  slices_IndexFunc_api_Val_api_Val.W1 fu p1 x1 0

/-! slices.ContainsFunc[[]lattice/api.Val,lattice/api.Val] -/
def slices_ContainsFunc_api_Val_api_Val (fu : Nat) (x1 : List T_Val) (p1 : T_Val → Option Bool) : Option Bool :=
  (slices_IndexFunc_api_Val_api_Val fu x1 p1).bind fun x2 => some (decide (0 ≤ x2))

/-! slices.Equal[[]int,int] -/
def slices_Equal_int.L1 (fu : Nat) (x1 : List Int) (x2 : List Int) (nx1 : Int → Option Bool) (x5 : Int) : Option Bool :=
  if x5 < (x1.length : Int) then ((at? x1 x5).bind fun x8 => (at? x2 x5).bind fun x9 => if x8 = x9 then (nx1 (wk .i64 (x5 + 1))) else some false) else some true
def slices_Equal_int.W1 (fu : Nat) (x1 : List Int) (x2 : List Int) (x5 : Int) : Option Bool :=
  cloop (fun next s => slices_Equal_int.L1 fu x1 x2 next s) fu x5
def slices_Equal_int (fu : Nat) (x1 : List Int) (x2 : List Int) : Option Bool :=
  if (x1.length : Int) = (x2.length : Int) then (slices_Equal_int.W1 fu x1 x2 0) else some false

/-! lattice/infer.held -/
def infer_held (fu : Nat) (x1 : T_Val) : Option Bool :=
  if x1.fConst = true then ((tens_Check fu x1.fT).bind fun x2 => if x2 = 0 then (if x1.fT.fType = x1.fType then ((slices_Equal_int fu x1.fT.fDims x1.fDims).bind fun x3 => some x3) else some false) else some false) else some false

/-! (lattice/infer.ask).told$1 -/
def infer_ask_told_1 (fu : Nat) (x1 : T_Val) : Option Bool :=
  (infer_held fu x1).bind fun x2 => some (!x2)

/-! (lattice/infer.ask).told$2 -/
def infer_ask_told_2 (fu : Nat) (x1 : T_Val) : Option Bool :=
  some (!(decide ((x1.fDims.length : Int) = 1)))

/-! slices.IndexFunc[[]int64,int64] -/
def slices_IndexFunc_int64.L1 (fu : Nat) (p1 : Int → Option Bool) (x1 : List Int) (nx1 : Int → Option Int) (x4 : Int) : Option Int :=
  if x4 < (x1.length : Int) then ((at? x1 x4).bind fun x7 => (p1 x7).bind fun x8 => if x8 = true then (some x4) else nx1 (wk .i64 (x4 + 1))) else some (-1)
def slices_IndexFunc_int64.W1 (fu : Nat) (p1 : Int → Option Bool) (x1 : List Int) (x4 : Int) : Option Int :=
  cloop (fun next s => slices_IndexFunc_int64.L1 fu p1 x1 next s) fu x4
def slices_IndexFunc_int64 (fu : Nat) (x1 : List Int) (p1 : Int → Option Bool) : Option Int :=
  slices_IndexFunc_int64.W1 fu p1 x1 0

/-! slices.ContainsFunc[[]int64,int64] -/
def slices_ContainsFunc_int64 (fu : Nat) (x1 : List Int) (p1 : Int → Option Bool) : Option Bool :=
  (slices_IndexFunc_int64 fu x1 p1).bind fun x2 => some (decide (0 ≤ x2))

/-! (lattice/infer.ask).told$3$1 -/
def infer_ask_told_3_1 (fu : Nat) (x1 : Int) : Option Bool :=
  some (decide (4096 < x1))

/-! (lattice/infer.ask).told$3 -/
def infer_ask_told_3 (fu : Nat) (x1 : T_Val) : Option Bool :=
  (slices_ContainsFunc_int64 fu x1.fT.fI (fun y0 => infer_ask_told_3_1 fu y0)).bind fun x2 => some x2

/-! (lattice/infer.ask).told -/
def infer_ask_told (fu : Nat) (x1 : T_infer_ask) : Option Int :=
  chk (x1.fop = 75) <| (infer_ask_lists fu (T_infer_ask.mk 75 x1.fs x1.fin x1.fouts)).bind fun x2 => (slices_ContainsFunc_api_Val_api_Val fu x2 (fun y0 => infer_ask_told_1 fu y0)).bind fun x3 => if x3 = true then (some 15) else (slices_ContainsFunc_api_Val_api_Val fu x2 (fun y0 => infer_ask_told_2 fu y0)).bind fun x4 => if x4 = true then (some 3) else (slices_ContainsFunc_api_Val_api_Val fu x2 (fun y0 => infer_ask_told_3 fu y0)).bind fun x5 => if x5 = true then (some 4) else some 0

/-! (lattice/infer.ask).wrong -/
def infer_ask_wrong.k1 (fu : Nat) (x1 : T_infer_ask) : Option Int :=
  (infer_ask_typed fu (T_infer_ask.mk 75 x1.fs x1.fin x1.fouts)).bind fun x2 => if x2 = true then ((infer_ask_attributes fu (T_infer_ask.mk 75 x1.fs x1.fin x1.fouts)).bind fun x3 => if x3 = true then ((infer_ask_told fu (T_infer_ask.mk 75 x1.fs x1.fin x1.fouts)).bind fun x4 => some x4) else some 14) else some 5
def infer_ask_wrong.L1 (fu : Nat) (x1 : T_infer_ask) (nx1 : Int → Option Int) (x8 : Int) : Option Int :=
  if x8 < (x1.fin.length : Int) then ((at? x1.fin x8).bind fun x12 => (shape_Size fu x12.fDims).bind fun x13 => (infer_ask_has fu (T_infer_ask.mk 75 x1.fs x1.fin x1.fouts) x8).bind fun x14 => if x14 = true then (if x13.2 = 0 then (nx1 (wk .i64 (x8 + 1))) else some 4) else nx1 (wk .i64 (x8 + 1))) else infer_ask_wrong.k1 fu x1
def infer_ask_wrong.W1 (fu : Nat) (x1 : T_infer_ask) (x8 : Int) : Option Int :=
  cloop (fun next s => infer_ask_wrong.L1 fu x1 next s) fu x8
def infer_ask_wrong (fu : Nat) (x1 : T_infer_ask) : Option Int :=
  chk (x1.fop = 75) <| jn 1 () (fun (t : Unit) => infer_ask_wrong.k1 fu x1) <| infer_ask_wrong.W1 fu x1 0

/-! lattice/infer.misfit -/
def infer_misfit (fu : Nat) : Option ((List (List Int)) × Int) :=
  some ([], 3)

/-! lattice/infer.number -/
def infer_number (fu : Nat) (x1 : List Int) (x2 : Int) (x3 : Int) : Option Int :=
  if (x1.length : Int) = 0 then (some x3) else (at? x1 x2).bind fun x4 => some x4

/-! lattice/infer.ranged$1 -/
def infer_ranged_1 (fu : Nat) (x1 : Int) (x2 : Int) : Option Bool :=
  if x1 < x2 then (some true) else some (decide (4096 < x1))

/-! lattice/infer.ranged -/
def infer_ranged (fu : Nat) (x1 : Int) (x2 : List Int) : Option Bool :=
  (slices_ContainsFunc_int fu x2 (fun y0 => infer_ranged_1 fu y0 x1)).bind fun x3 => some (!x3)

/-! lattice/infer.Window -/
def infer_Window.k2 (fu : Nat) (x1 : Int) (x2 : Int) (x3 : Int) (x4 : Int) (x8 : Bool) (x9 : Int) (x10 : Int) : Option (Int × Int × Int) :=
  if (wk .i64 ((wk .i64 ((wk .i64 (x1 + x9)) + x10)) - (wk .i64 ((wk .i64 ((wk .i64 (x2 - 1)) * x4)) + 1)))) < 0 then (some (0, 0, 3)) else chk (x3 ≠ 0) <| if x8 = true then (if 0 < (Int.tmod (wk .i64 ((wk .i64 ((wk .i64 (x1 + x9)) + x10)) - (wk .i64 ((wk .i64 ((wk .i64 (x2 - 1)) * x4)) + 1)))) x3) then (if (wk .i64 ((wk .i64 ((wk .i64 (Int.tdiv (wk .i64 ((wk .i64 ((wk .i64 (x1 + x9)) + x10)) - (wk .i64 ((wk .i64 ((wk .i64 (x2 - 1)) * x4)) + 1)))) x3)) + 1)) * x3)) < (wk .i64 (x1 + x9)) then (some (wk .i64 ((wk .i64 ((wk .i64 (Int.tdiv (wk .i64 ((wk .i64 ((wk .i64 (x1 + x9)) + x10)) - (wk .i64 ((wk .i64 ((wk .i64 (x2 - 1)) * x4)) + 1)))) x3)) + 1)) + 1), x9, 0)) else some (wk .i64 ((wk .i64 (Int.tdiv (wk .i64 ((wk .i64 ((wk .i64 (x1 + x9)) + x10)) - (wk .i64 ((wk .i64 ((wk .i64 (x2 - 1)) * x4)) + 1)))) x3)) + 1), x9, 0)) else some (wk .i64 ((wk .i64 (Int.tdiv (wk .i64 ((wk .i64 ((wk .i64 (x1 + x9)) + x10)) - (wk .i64 ((wk .i64 ((wk .i64 (x2 - 1)) * x4)) + 1)))) x3)) + 1), x9, 0)) else some (wk .i64 ((wk .i64 (Int.tdiv (wk .i64 ((wk .i64 ((wk .i64 (x1 + x9)) + x10)) - (wk .i64 ((wk .i64 ((wk .i64 (x2 - 1)) * x4)) + 1)))) x3)) + 1), x9, 0)
def infer_Window.k1 (fu : Nat) (x1 : Int) (x2 : Int) (x3 : Int) (x4 : Int) (x5 : Int) (x6 : Int) (x7 : Int) (x8 : Bool) : Option (Int × Int × Int) :=
  jn 2 () (fun (t : Int × Int) => infer_Window.k2 fu x1 x2 x3 x4 x8 t.1 t.2) <| if x7 = 9 then (chk (x3 ≠ 0) <| if (wk .i64 (Int.tdiv (wk .i64 ((wk .i64 (x1 + x3)) - 1)) x3)) = 0 then (some (0, 0, 0)) else if x7 = 10 then (none) else some (wk .i64 (Int.tdiv (wk .i64 ((wk .i64 (x1 + x3)) - 1)) x3), wk .i64 (Int.tdiv (imax 0 (wk .i64 ((wk .i64 ((wk .i64 ((wk .i64 ((wk .i64 (Int.tdiv (wk .i64 ((wk .i64 (x1 + x3)) - 1)) x3)) - 1)) * x3)) + (wk .i64 ((wk .i64 ((wk .i64 (x2 - 1)) * x4)) + 1)))) - x1))) 2), 0)) else if x7 = 10 then (chk (x3 ≠ 0) <| if (wk .i64 (Int.tdiv (wk .i64 ((wk .i64 (x1 + x3)) - 1)) x3)) = 0 then (some (0, 0, 0)) else some (wk .i64 (Int.tdiv (wk .i64 ((wk .i64 (x1 + x3)) - 1)) x3), wk .i64 (Int.tdiv (wk .i64 ((imax 0 (wk .i64 ((wk .i64 ((wk .i64 ((wk .i64 ((wk .i64 (Int.tdiv (wk .i64 ((wk .i64 (x1 + x3)) - 1)) x3)) - 1)) * x3)) + (wk .i64 ((wk .i64 ((wk .i64 (x2 - 1)) * x4)) + 1)))) - x1))) + 1)) 2), 0)) else if x7 = 8 then (infer_Window.k2 fu x1 x2 x3 x4 x8 0 0) else infer_Window.k2 fu x1 x2 x3 x4 x8 x5 x6
def infer_Window (fu : Nat) (x1 : Int) (x2 : Int) (x3 : Int) (x4 : Int) (x5 : Int) (x6 : Int) (x7 : Int) (x8 : Bool) : Option (Int × Int × Int) :=
  jn 1 () (fun (t : Unit) => infer_Window.k1 fu x1 x2 x3 x4 x5 x6 x7 x8) <| (infer_ranged fu 0 ([x1, x5, x6])).bind fun x11 => if x11 = true then ((infer_ranged fu 1 ([x2, x3, x4])).bind fun x12 => if x12 = true then (infer_Window.k1 fu x1 x2 x3 x4 x5 x6 x7 x8) else some (0, 0, 1)) else some (0, 0, 1)

/-! (lattice/infer.ask).windows -/
def infer_ask_windows.L1 (fu : Nat) (x1 : T_infer_ask) (x2 : List Int) (nx1 : (List Int) → Int → Option ((List Int) × Bool)) (x11 : List Int) (x12 : Int) : Option ((List Int) × Bool) :=
  if x12 < 2 then ((infer_ask_dims fu (T_infer_ask.mk 75 x1.fs x1.fin x1.fouts) 0).bind fun x21 => (at? x21 (wk .i64 (2 + x12))).bind fun x22 => (at? x2 x12).bind fun x23 => (infer_number fu x1.fs.fStrides x12 1).bind fun x24 => (infer_number fu x1.fs.fDilations x12 1).bind fun x25 => (infer_number fu x1.fs.fPads x12 0).bind fun x26 => (infer_number fu x1.fs.fPads (wk .i64 (2 + x12)) 0).bind fun x27 => (infer_Window fu x22 x23 x24 x25 x26 x27 x1.fs.fAuto x1.fs.fCeil).bind fun x28 => if x28.2.2 = 0 then (chk ((x11.length + 1 : Int) * 8 ≤ 140737488355328) <| nx1 (x11 ++ ([x28.1])) (wk .i64 (x12 + 1))) else some ([], false)) else some (x11, true)
def infer_ask_windows.W1 (fu : Nat) (x1 : T_infer_ask) (x2 : List Int) (x11 : List Int) (x12 : Int) : Option ((List Int) × Bool) :=
  cloop (fun next s => infer_ask_windows.L1 fu x1 x2 (fun x11 x12 => next (x11, x12)) s.1 s.2) fu (x11, x12)
def infer_ask_windows (fu : Nat) (x1 : T_infer_ask) (x2 : List Int) : Option ((List Int) × Bool) :=
  chk (x1.fop = 75) <| infer_ask_windows.W1 fu x1 x2 ([] : List Int) 0

/-! lattice/infer.one -/
def infer_one (fu : Nat) (x1 : List Int) : Option ((List (List Int)) × Int) :=
  some ([x1], 0)

/-! (lattice/infer.ask).conv -/
def infer_ask_conv.k2 (fu : Nat) (x1 : T_infer_ask) (x2 : List Int) (x3 : List Int) : Option ((List (List Int)) × Int) :=
  chk (0 ≤ 2 ∧ 2 ≤ (x3.length : Int)) <| (infer_ask_windows fu (T_infer_ask.mk 75 x1.fs x1.fin x1.fouts) (subN x3 (2 : Int).toNat x3.length)).bind fun x4 => if x4.2 = true then ((at? x2 0).bind fun x5 => (at? x3 0).bind fun x6 => (at? x4.1 0).bind fun x7 => (at? x4.1 1).bind fun x8 => (infer_one fu ([x5, x6, x7, x8])).bind fun x9 => some (x9.1, x9.2)) else (infer_misfit fu).bind fun x10 => some (x10.1, x10.2)
def infer_ask_conv.k1 (fu : Nat) (x1 : T_infer_ask) (x2 : List Int) (x3 : List Int) : Option ((List (List Int)) × Int) :=
  jn 2 () (fun (t : Unit) => infer_ask_conv.k2 fu x1 x2 x3) <| (infer_ask_has fu (T_infer_ask.mk 75 x1.fs x1.fin x1.fouts) 2).bind fun x11 => if x11 = true then ((infer_ask_dims fu (T_infer_ask.mk 75 x1.fs x1.fin x1.fouts) 2).bind fun x12 => chk (0 ≤ 1 ∧ 1 ≤ (x3.length : Int)) <| (slices_Equal_int fu x12 (subN x3 0 (1 : Int).toNat)).bind fun x13 => if x13 = true then (if 0 < (x1.fs.fKernel.length : Int) then (chk (0 ≤ 2 ∧ 2 ≤ (x3.length : Int)) <| (slices_Equal_int fu x1.fs.fKernel (subN x3 (2 : Int).toNat x3.length)).bind fun x14 => if x14 = true then (infer_ask_conv.k2 fu x1 x2 x3) else (infer_misfit fu).bind fun x15 => some (x15.1, x15.2)) else infer_ask_conv.k2 fu x1 x2 x3) else (infer_misfit fu).bind fun x16 => some (x16.1, x16.2)) else if 0 < (x1.fs.fKernel.length : Int) then (chk (0 ≤ 2 ∧ 2 ≤ (x3.length : Int)) <| (slices_Equal_int fu x1.fs.fKernel (subN x3 (2 : Int).toNat x3.length)).bind fun x17 => if x17 = true then (infer_ask_conv.k2 fu x1 x2 x3) else (infer_misfit fu).bind fun x18 => some (x18.1, x18.2)) else infer_ask_conv.k2 fu x1 x2 x3
def infer_ask_conv (fu : Nat) (x1 : T_infer_ask) : Option ((List (List Int)) × Int) :=
  chk (x1.fop = 75) <| (infer_ask_dims fu (T_infer_ask.mk 75 x1.fs x1.fin x1.fouts) 0).bind fun x2 => (infer_ask_dims fu (T_infer_ask.mk 75 x1.fs x1.fin x1.fouts) 1).bind fun x3 => jn 1 () (fun (t : Unit) => infer_ask_conv.k1 fu x1 x2 x3) <| if (x2.length : Int) = 4 then (if (x3.length : Int) = 4 then ((at? x2 1).bind fun x19 => if x19 = 0 then ((infer_misfit fu).bind fun x20 => some (x20.1, x20.2)) else (at? x3 0).bind fun x21 => if x21 = 0 then ((infer_misfit fu).bind fun x22 => some (x22.1, x22.2)) else chk (x1.fs.fGroup ≠ 0) <| if (Int.tmod x19 x1.fs.fGroup) = 0 then (if (Int.tmod x21 x1.fs.fGroup) = 0 then ((at? x3 1).bind fun x23 => if x23 = (wk .i64 (Int.tdiv x19 x1.fs.fGroup)) then (infer_ask_conv.k1 fu x1 x2 x3) else (infer_misfit fu).bind fun x24 => some (x24.1, x24.2)) else (infer_misfit fu).bind fun x25 => some (x25.1, x25.2)) else (infer_misfit fu).bind fun x26 => some (x26.1, x26.2)) else (infer_misfit fu).bind fun x27 => some (x27.1, x27.2)) else (infer_misfit fu).bind fun x28 => some (x28.1, x28.2)

/-! (lattice/infer.ask).shapes -/
def infer_ask_shapes.k3 (fu : Nat) (x1 : T_infer_ask) : Option ((List (List Int)) × Int) :=
  (infer_ask_conv fu (T_infer_ask.mk 75 x1.fs x1.fin x1.fouts)).bind fun x3 => some (x3.1, x3.2)
def infer_ask_shapes.k2 (fu : Nat) (x1 : T_infer_ask) : Option ((List (List Int)) × Int) :=
  jn 3 () (fun (t : Unit) => infer_ask_shapes.k3 fu x1) <| infer_ask_shapes.k3 fu x1
def infer_ask_shapes.k1 (fu : Nat) (x1 : T_infer_ask) : Option ((List (List Int)) × Int) :=
  jn 2 () (fun (t : Unit) => infer_ask_shapes.k2 fu x1) <| infer_ask_shapes.k2 fu x1
def infer_ask_shapes (fu : Nat) (x1 : T_infer_ask) : Option ((List (List Int)) × Int) :=
  chk (x1.fop = 75) <| (infer_ask_dims fu (T_infer_ask.mk 75 x1.fs x1.fin x1.fouts) 0).bind fun x2 => jn 1 () (fun (t : Unit) => infer_ask_shapes.k1 fu x1) <| infer_ask_shapes.k1 fu x1

/-! (lattice/infer.ask).out -/
def infer_ask_out.k1 (fu : Nat) (x1 : T_infer_ask) : Option Int :=
  (infer_ask_val fu (T_infer_ask.mk 75 x1.fs x1.fin x1.fouts) 0).bind fun x2 => some x2.fType
def infer_ask_out.k3 (fu : Nat) (x1 : T_infer_ask) : Option Int :=
  infer_ask_out.k1 fu x1
def infer_ask_out.k2 (fu : Nat) (x1 : T_infer_ask) : Option Int :=
  jn 3 () (fun (t : Unit) => infer_ask_out.k3 fu x1) <| infer_ask_out.k3 fu x1
def infer_ask_out (fu : Nat) (x1 : T_infer_ask) : Option Int :=
  chk (x1.fop = 75) <| jn 1 () (fun (t : Unit) => infer_ask_out.k1 fu x1) <| jn 2 () (fun (t : Unit) => infer_ask_out.k2 fu x1) <| infer_ask_out.k2 fu x1

/-! lattice/infer.Node -/
def infer_Node.L1 (fu : Nat) (x2 : T_Setting) (x3 : List T_Val) (x4 : Int) (x7 : (List (List Int)) × Int) (nx1 : (List T_Val) → Int → Option ((List T_Val) × Int)) (x12 : List T_Val) (x13 : Int) : Option ((List T_Val) × Int) :=
  if x13 < (x7.1.length : Int) then ((at? x7.1 x13).bind fun x18 => (shape_Size fu x18).bind fun x19 => if x19.2 = 0 then ((infer_ask_out fu (T_infer_ask.mk 75 x2 x3 x4)).bind fun x20 => (slices_Clone_int fu x18).bind fun x21 => chk ((x12.length + 1 : Int) * 144 ≤ 140737488355328) <| nx1 (x12 ++ ([T_Val.mk x20 x21 false (T_Tensor.mk 0 ([]) ([]) ([]) ([]))])) (wk .i64 (x13 + 1))) else some ([], 4)) else some (x12, 0)
def infer_Node.W1 (fu : Nat) (x2 : T_Setting) (x3 : List T_Val) (x4 : Int) (x7 : (List (List Int)) × Int) (x12 : List T_Val) (x13 : Int) : Option ((List T_Val) × Int) :=
  cloop (fun next s => infer_Node.L1 fu x2 x3 x4 x7 (fun x12 x13 => next (x12, x13)) s.1 s.2) fu (x12, x13)
def infer_Node (fu : Nat) (x1 : Int) (x2 : T_Setting) (x3 : List T_Val) (x4 : Int) : Option ((List T_Val) × Int) :=
  chk (x1 = 75) <| (infer_ask_complete fu (T_infer_ask.mk 75 x2 x3 x4)).bind fun x5 => if x5 = true then ((infer_ask_wrong fu (T_infer_ask.mk 75 x2 x3 x4)).bind fun x6 => if x6 = 0 then ((infer_ask_shapes fu (T_infer_ask.mk 75 x2 x3 x4)).bind fun x7 => if x7.2 = 0 then (infer_Node.W1 fu x2 x3 x4 x7 ([] : List T_Val) 0) else some ([], x7.2)) else some ([], x6)) else some ([], 1)

/-! lattice/conv.number -/
def conv_number (fu : Nat) (x1 : List Int) (x2 : Int) (x3 : Int) : Option Int :=
  if (x1.length : Int) = 0 then (some x3) else (at? x1 x2).bind fun x4 => some x4

/-! lattice/conv.axisOf -/
def conv_axisOf (fu : Nat) (x1 : T_Setting) (x2 : Int) (x3 : Int) (x4 : Int) : Option (T_conv_axis × Int) :=
  (conv_number fu x1.fStrides x2 1).bind fun x5 => (conv_number fu x1.fDilations x2 1).bind fun x6 => (conv_number fu x1.fPads x2 0).bind fun x7 => (conv_number fu x1.fPads (wk .i64 (2 + x2)) 0).bind fun x8 => (infer_Window fu x3 x4 x5 x6 x7 x8 x1.fAuto x1.fCeil).bind fun x9 => some (T_conv_axis.mk x3 x4 x5 x6 x9.2.1 x9.1, x9.2.2)

/-! lattice/tens.New -/
def tens_New (fu : Nat) (x1 : Int) (x2 : List Int) : Option (T_Tensor × Int) :=
  (tens_known fu x1).bind fun x3 => if x3 = true then ((shape_Size fu x2).bind fun x4 => if x4.2 = 0 then ((slices_Clone_int fu x2).bind fun x5 => if x1 = 1 then (chk (0 ≤ x4.1 ∧ x4.1 * 4 ≤ 140737488355328) <| some (T_Tensor.mk x1 x5 (List.replicate x4.1.toNat (0 : Int)) ([]) ([]), 0)) else if x1 = 7 then (chk (0 ≤ x4.1 ∧ x4.1 * 8 ≤ 140737488355328) <| some (T_Tensor.mk x1 x5 ([]) (List.replicate x4.1.toNat (0 : Int)) ([]), 0)) else chk (0 ≤ x4.1 ∧ x4.1 * 1 ≤ 140737488355328) <| some (T_Tensor.mk x1 x5 ([]) ([]) (List.replicate x4.1.toNat (false : Bool)), 0)) else some (T_Tensor.mk 0 ([]) ([]) ([]) ([]), x4.2)) else some (T_Tensor.mk 0 ([]) ([]) ([]) ([]), 5)

/-! lattice/shape.strides -/
def shape_strides.L1 (fu : Nat) (x1 : List Int) (nx1 : (List Int) → Int → Int → Option (List Int)) (x3 : List Int) (x4 : Int) (x5 : Int) : Option (List Int) :=
  if 0 ≤ x5 then (chk (0 ≤ x5 ∧ x5 < (x3.length : Int)) <| (at? x1 x5).bind fun x7 => nx1 (x3.set x5.toNat x4) (wk .i64 (x4 * x7)) (wk .i64 (x5 - 1))) else some x3
def shape_strides.W1 (fu : Nat) (x1 : List Int) (x3 : List Int) (x4 : Int) (x5 : Int) : Option (List Int) :=
  cloop (fun next s => shape_strides.L1 fu x1 (fun x3 x4 x5 => next (x3, x4, x5)) s.1 s.2.1 s.2.2) fu (x3, x4, x5)
def shape_strides (fu : Nat) (x1 : List Int) : Option (List Int) :=
  chk (0 ≤ (x1.length : Int) ∧ (x1.length : Int) * 8 ≤ 140737488355328) <| shape_strides.W1 fu x1 (List.replicate (x1.length : Int).toNat (0 : Int)) 1 (wk .i64 ((x1.length : Int) - 1))

/-! lattice/shape.Index -/
def shape_Index.L1 (fu : Nat) (x4 : List Int) (nx1 : (List Int) → Int → Int → Option ((List Int) × Int)) (x6 : List Int) (x7 : Int) (x8 : Int) : Option ((List Int) × Int) :=
  if x8 < (x4.length : Int) then ((at? x4 x8).bind fun x10 => chk (x10 ≠ 0) <| chk (0 ≤ x8 ∧ x8 < (x6.length : Int)) <| nx1 (x6.set x8.toNat (wk .i64 (Int.tdiv x7 x10))) (Int.tmod x7 x10) (wk .i64 (x8 + 1))) else some (x6, 0)
def shape_Index.W1 (fu : Nat) (x4 : List Int) (x6 : List Int) (x7 : Int) (x8 : Int) : Option ((List Int) × Int) :=
  cloop (fun next s => shape_Index.L1 fu x4 (fun x6 x7 x8 => next (x6, x7, x8)) s.1 s.2.1 s.2.2) fu (x6, x7, x8)
def shape_Index.k1 (fu : Nat) (x1 : List Int) (x2 : Int) : Option ((List Int) × Int) :=
  chk (0 ≤ (x1.length : Int) ∧ (x1.length : Int) * 8 ≤ 140737488355328) <| (shape_strides fu x1).bind fun x4 => shape_Index.W1 fu x4 (List.replicate (x1.length : Int).toNat (0 : Int)) x2 0
def shape_Index (fu : Nat) (x1 : List Int) (x2 : Int) : Option ((List Int) × Int) :=
  (shape_Size fu x1).bind fun x3 => if x3.2 = 0 then (jn 1 () (fun (t : Unit) => shape_Index.k1 fu x1 x2) <| if x2 < 0 then (some ([], 2)) else if x3.1 ≤ x2 then (some ([], 2)) else shape_Index.k1 fu x1 x2) else some ([], x3.2)

/-! (lattice/conv.axis).at -/
def conv_axis_at (fu : Nat) (x1 : T_conv_axis) (x2 : Int) (x3 : Int) : Option (Int × Bool) :=
  if 0 ≤ (wk .i64 ((wk .i64 ((wk .i64 (x2 * x1.fstride)) + (wk .i64 (x3 * x1.fdilation)))) - x1.fahead)) then (some (wk .i64 ((wk .i64 ((wk .i64 (x2 * x1.fstride)) + (wk .i64 (x3 * x1.fdilation)))) - x1.fahead), decide ((wk .i64 ((wk .i64 ((wk .i64 (x2 * x1.fstride)) + (wk .i64 (x3 * x1.fdilation)))) - x1.fahead)) < x1.fsize))) else some (wk .i64 ((wk .i64 ((wk .i64 (x2 * x1.fstride)) + (wk .i64 (x3 * x1.fdilation)))) - x1.fahead), false)

/-! lattice/soft.open -/
def soft_open (fu : Nat) (x1 : Int) : Option T_soft_number :=
  if (wk .i64 (band .u32 (shrk .u32 x1 23) 255)) = 255 then (some (T_soft_number.mk (decide ((shrk .u32 x1 31) = 1)) (!(decide ((wk .u64 (band .u32 x1 8388607)) = 0))) (decide ((wk .u64 (band .u32 x1 8388607)) = 0)) 0 0)) else if (wk .i64 (band .u32 (shrk .u32 x1 23) 255)) = 0 then (some (T_soft_number.mk (decide ((shrk .u32 x1 31) = 1)) false false (-149) (wk .u64 (band .u32 x1 8388607)))) else some (T_soft_number.mk (decide ((shrk .u32 x1 31) = 1)) false false (wk .i64 ((wk .i64 (band .u32 (shrk .u32 x1 23) 255)) - 150)) (bor .u64 (wk .u64 (band .u32 x1 8388607)) 8388608))

/-! lattice/soft.sign -/
def soft_sign (fu : Nat) (x1 : Bool) : Option Int :=
  if x1 = true then (some 2147483648) else some 0

/-! math/bits.Len64 -/
def math_bits_Len64.k2 (fu : Nat) (x4 : Int) (x5 : Int) : Option Int :=
  if 256 ≤ x4 then ((sat? (⟨((([0, 1, 2, 2, 3, 3, 3, 3, 4, 4, 4, 4, 4, 4, 4, 4, 5, 5, 5, 5, 5, 5, 5, 5, 5, 5, 5, 5, 5, 5, 5, 5, 6, 6, 6, 6, 6, 6, 6, 6, 6, 6, 6, 6, 6, 6, 6, 6, 6, 6, 6, 6, 6, 6, 6, 6, 6, 6, 6, 6, 6, 6, 6, 6]).append ([7, 7, 7, 7, 7, 7, 7, 7, 7, 7, 7, 7, 7, 7, 7, 7, 7, 7, 7, 7, 7, 7, 7, 7, 7, 7, 7, 7, 7, 7, 7, 7, 7, 7, 7, 7, 7, 7, 7, 7, 7, 7, 7, 7, 7, 7, 7, 7, 7, 7, 7, 7, 7, 7, 7, 7, 7, 7, 7, 7, 7, 7, 7, 7])).append (([8, 8, 8, 8, 8, 8, 8, 8, 8, 8, 8, 8, 8, 8, 8, 8, 8, 8, 8, 8, 8, 8, 8, 8, 8, 8, 8, 8, 8, 8, 8, 8, 8, 8, 8, 8, 8, 8, 8, 8, 8, 8, 8, 8, 8, 8, 8, 8, 8, 8, 8, 8, 8, 8, 8, 8, 8, 8, 8, 8, 8, 8, 8, 8]).append ([8, 8, 8, 8, 8, 8, 8, 8, 8, 8, 8, 8, 8, 8, 8, 8, 8, 8, 8, 8, 8, 8, 8, 8, 8, 8, 8, 8, 8, 8, 8, 8, 8, 8, 8, 8, 8, 8, 8, 8, 8, 8, 8, 8, 8, 8, 8, 8, 8, 8, 8, 8, 8, 8, 8, 8, 8, 8, 8, 8, 8, 8, 8, 8]))).toArray⟩ : ByteArray) (wk .u8 (shrk .u64 x4 8))).bind fun x6 => some (wk .i64 ((wk .i64 (x5 + 8)) + (wk .i64 x6)))) else (sat? (⟨((([0, 1, 2, 2, 3, 3, 3, 3, 4, 4, 4, 4, 4, 4, 4, 4, 5, 5, 5, 5, 5, 5, 5, 5, 5, 5, 5, 5, 5, 5, 5, 5, 6, 6, 6, 6, 6, 6, 6, 6, 6, 6, 6, 6, 6, 6, 6, 6, 6, 6, 6, 6, 6, 6, 6, 6, 6, 6, 6, 6, 6, 6, 6, 6]).append ([7, 7, 7, 7, 7, 7, 7, 7, 7, 7, 7, 7, 7, 7, 7, 7, 7, 7, 7, 7, 7, 7, 7, 7, 7, 7, 7, 7, 7, 7, 7, 7, 7, 7, 7, 7, 7, 7, 7, 7, 7, 7, 7, 7, 7, 7, 7, 7, 7, 7, 7, 7, 7, 7, 7, 7, 7, 7, 7, 7, 7, 7, 7, 7])).append (([8, 8, 8, 8, 8, 8, 8, 8, 8, 8, 8, 8, 8, 8, 8, 8, 8, 8, 8, 8, 8, 8, 8, 8, 8, 8, 8, 8, 8, 8, 8, 8, 8, 8, 8, 8, 8, 8, 8, 8, 8, 8, 8, 8, 8, 8, 8, 8, 8, 8, 8, 8, 8, 8, 8, 8, 8, 8, 8, 8, 8, 8, 8, 8]).append ([8, 8, 8, 8, 8, 8, 8, 8, 8, 8, 8, 8, 8, 8, 8, 8, 8, 8, 8, 8, 8, 8, 8, 8, 8, 8, 8, 8, 8, 8, 8, 8, 8, 8, 8, 8, 8, 8, 8, 8, 8, 8, 8, 8, 8, 8, 8, 8, 8, 8, 8, 8, 8, 8, 8, 8, 8, 8, 8, 8, 8, 8, 8, 8]))).toArray⟩ : ByteArray) (wk .u8 x4)).bind fun x7 => some (wk .i64 (x5 + (wk .i64 x7)))
def math_bits_Len64.k1 (fu : Nat) (x2 : Int) (x3 : Int) : Option Int :=
  jn 2 () (fun (t : Int × Int) => math_bits_Len64.k2 fu t.1 t.2) <| if 65536 ≤ x2 then (math_bits_Len64.k2 fu (shrk .u64 x2 16) (wk .i64 (x3 + 16))) else math_bits_Len64.k2 fu x2 x3
def math_bits_Len64 (fu : Nat) (x1 : Int) : Option Int :=
  jn 1 () (fun (t : Int × Int) => math_bits_Len64.k1 fu t.1 t.2) <| if 4294967296 ≤ x1 then (math_bits_Len64.k1 fu (shrk .u64 x1 32) 32) else math_bits_Len64.k1 fu x1 0

/-! lattice/soft.outwards -/
def soft_outwards (fu : Nat) (x1 : Int) (x2 : Bool) : Option Bool :=
  chk (x1 = 0) <| some false

/-! lattice/soft.tiny -/
def soft_tiny (fu : Nat) (x1 : Int) (x2 : Bool) : Option Int :=
  chk (x1 = 0) <| (soft_outwards fu 0 x2).bind fun x3 => if x3 = true then ((soft_sign fu x2).bind fun x4 => some (bor .u32 x4 1)) else (soft_sign fu x2).bind fun x5 => some x5

/-! lattice/soft.huge -/
def soft_huge.k1 (fu : Nat) (x2 : Bool) : Option Int :=
  (soft_sign fu x2).bind fun x3 => some (bor .u32 x3 2139095040)
def soft_huge (fu : Nat) (x1 : Int) (x2 : Bool) : Option Int :=
  chk (x1 = 0) <| jn 1 () (fun (t : Unit) => soft_huge.k1 fu x2) <| soft_huge.k1 fu x2

/-! lattice/soft.Round -/
def soft_Round.k3 (fu : Nat) (x2 : Bool) (x3 : Int) (x6 : Int) (x11 : Int) : Option Int :=
  if x11 = 0 then ((soft_sign fu x2).bind fun x12 => some x12) else if 104 < (wk .i64 (x3 + (imax (wk .i64 (x6 - 24)) (wk .i64 ((-149) - x3))))) then ((soft_huge fu 0 x2).bind fun x13 => some x13) else if 2139095040 ≤ (wk .u64 ((shlk .u64 (wk .u64 (wk .i64 ((wk .i64 (x3 + (imax (wk .i64 (x6 - 24)) (wk .i64 ((-149) - x3))))) + 149))) 23) + x11)) then ((soft_huge fu 0 x2).bind fun x14 => some x14) else (soft_sign fu x2).bind fun x15 => some (bor .u32 x15 (wk .u32 (wk .u64 ((shlk .u64 (wk .u64 (wk .i64 ((wk .i64 (x3 + (imax (wk .i64 (x6 - 24)) (wk .i64 ((-149) - x3))))) + 149))) 23) + x11))))
def soft_Round.k2 (fu : Nat) (x2 : Bool) (x3 : Int) (x6 : Int) (x7 : Int) (x8 : Bool) (x9 : Bool) (x10 : Bool) : Option Int :=
  jn 3 () (fun (t : Int) => soft_Round.k3 fu x2 x3 x6 t) <| if x8 = true then (soft_Round.k3 fu x2 x3 x6 (wk .u64 (x7 + 1))) else if x9 = true then (if (band .u64 x7 1) = 1 then (soft_Round.k3 fu x2 x3 x6 (wk .u64 (x7 + 1))) else soft_Round.k3 fu x2 x3 x6 x7) else soft_Round.k3 fu x2 x3 x6 x7
def soft_Round.k4 (fu : Nat) (x2 : Bool) (x3 : Int) (x4 : Int) (x5 : Bool) (x6 : Int) (x16 : Bool) : Option Int :=
  if (band .u64 x4 (wk .u64 ((shlk .u64 1 (imax (wk .i64 (x6 - 24)) (wk .i64 ((-149) - x3)))) - 1))) = (shlk .u64 1 (wk .i64 ((imax (wk .i64 (x6 - 24)) (wk .i64 ((-149) - x3))) - 1))) then (if (band .u64 x4 (wk .u64 ((shlk .u64 1 (imax (wk .i64 (x6 - 24)) (wk .i64 ((-149) - x3)))) - 1))) = 0 then (soft_Round.k2 fu x2 x3 x6 (shrk .u64 x4 (imax (wk .i64 (x6 - 24)) (wk .i64 ((-149) - x3)))) x16 (!x5) x5) else soft_Round.k2 fu x2 x3 x6 (shrk .u64 x4 (imax (wk .i64 (x6 - 24)) (wk .i64 ((-149) - x3)))) x16 (!x5) true) else if (band .u64 x4 (wk .u64 ((shlk .u64 1 (imax (wk .i64 (x6 - 24)) (wk .i64 ((-149) - x3)))) - 1))) = 0 then (soft_Round.k2 fu x2 x3 x6 (shrk .u64 x4 (imax (wk .i64 (x6 - 24)) (wk .i64 ((-149) - x3)))) x16 false x5) else soft_Round.k2 fu x2 x3 x6 (shrk .u64 x4 (imax (wk .i64 (x6 - 24)) (wk .i64 ((-149) - x3)))) x16 false true
def soft_Round.k1 (fu : Nat) (x2 : Bool) (x3 : Int) (x4 : Int) (x5 : Bool) (x6 : Int) : Option Int :=
  jn 2 () (fun (t : Int × Bool × Bool × Bool) => soft_Round.k2 fu x2 x3 x6 t.1 t.2.1 t.2.2.1 t.2.2.2) <| if (imax (wk .i64 (x6 - 24)) (wk .i64 ((-149) - x3))) ≤ 0 then (chk (0 ≤ (wk .i64 (0 - (imax (wk .i64 (x6 - 24)) (wk .i64 ((-149) - x3)))))) <| soft_Round.k2 fu x2 x3 x6 (shlk .u64 x4 (wk .i64 (0 - (imax (wk .i64 (x6 - 24)) (wk .i64 ((-149) - x3)))))) false false x5) else if x6 < (imax (wk .i64 (x6 - 24)) (wk .i64 ((-149) - x3))) then (soft_Round.k2 fu x2 x3 x6 0 false false true) else chk (0 ≤ (imax (wk .i64 (x6 - 24)) (wk .i64 ((-149) - x3)))) <| chk (0 ≤ (wk .i64 ((imax (wk .i64 (x6 - 24)) (wk .i64 ((-149) - x3))) - 1))) <| jn 4 () (fun (t : Bool) => soft_Round.k4 fu x2 x3 x4 x5 x6 t) <| if (shlk .u64 1 (wk .i64 ((imax (wk .i64 (x6 - 24)) (wk .i64 ((-149) - x3))) - 1))) < (band .u64 x4 (wk .u64 ((shlk .u64 1 (imax (wk .i64 (x6 - 24)) (wk .i64 ((-149) - x3)))) - 1))) then (soft_Round.k4 fu x2 x3 x4 x5 x6 true) else if (band .u64 x4 (wk .u64 ((shlk .u64 1 (imax (wk .i64 (x6 - 24)) (wk .i64 ((-149) - x3)))) - 1))) = (shlk .u64 1 (wk .i64 ((imax (wk .i64 (x6 - 24)) (wk .i64 ((-149) - x3))) - 1))) then (soft_Round.k4 fu x2 x3 x4 x5 x6 x5) else soft_Round.k4 fu x2 x3 x4 x5 x6 false
def soft_Round (fu : Nat) (x1 : Int) (x2 : Bool) (x3 : Int) (x4 : Int) (x5 : Bool) : Option Int :=
  chk (x1 = 0) <| (math_bits_Len64 fu x4).bind fun x6 => jn 1 () (fun (t : Unit) => soft_Round.k1 fu x2 x3 x4 x5 x6) <| if x6 = 0 then (if x5 = true then ((soft_tiny fu 0 x2).bind fun x17 => some x17) else (soft_sign fu x2).bind fun x18 => some x18) else if x3 < (-300) then ((soft_tiny fu 0 x2).bind fun x19 => some x19) else if 200 < x3 then ((soft_huge fu 0 x2).bind fun x20 => some x20) else soft_Round.k1 fu x2 x3 x4 x5 x6

/-! lattice/soft.MulBy -/
def soft_MulBy.k1 (fu : Nat) (x4 : T_soft_number) (x5 : T_soft_number) : Option Int :=
  (soft_Round fu 0 (!(x4.fneg == x5.fneg)) (wk .i64 (x4.fexp + x5.fexp)) (wk .u64 (x4.fsig * x5.fsig)) false).bind fun x6 => some x6
def soft_MulBy (fu : Nat) (x1 : Int) (x2 : Int) (x3 : Int) : Option Int :=
  chk (x1 = 0) <| (soft_open fu x2).bind fun x4 => (soft_open fu x3).bind fun x5 => jn 1 () (fun (t : Unit) => soft_MulBy.k1 fu x4 x5) <| if x4.fnan = true then (some 2143289344) else if x5.fnan = true then (some 2143289344) else if x4.finf = true then (if x5.finf = true then ((soft_sign fu (!(x4.fneg == x5.fneg))).bind fun x7 => some (bor .u32 x7 2139095040)) else if x5.fsig = 0 then (some 2143289344) else (soft_sign fu (!(x4.fneg == x5.fneg))).bind fun x8 => some (bor .u32 x8 2139095040)) else if x5.finf = true then (if x4.fsig = 0 then (some 2143289344) else (soft_sign fu (!(x4.fneg == x5.fneg))).bind fun x9 => some (bor .u32 x9 2139095040)) else soft_MulBy.k1 fu x4 x5

/-! lattice/soft.Mul -/
def soft_Mul (fu : Nat) (x1 : Int) (x2 : Int) : Option Int :=
  (soft_MulBy fu 0 x1 x2).bind fun x3 => some x3

/-! lattice/soft.nought -/
def soft_nought (fu : Nat) (x1 : Int) : Option Int :=
  chk (x1 = 0) <| (soft_sign fu (decide ((0 : Int) = 2))).bind fun x2 => some x2

/-! lattice/soft.AddBy -/
def soft_AddBy.k3 (fu : Nat) (x6 : Bool) (x9 : Bool) (x12 : Int) (x13 : Int) (x14 : Int) (x15 : Bool) : Option Int :=
  if (x6 == x9) = true then ((soft_Round fu 0 x6 x12 (wk .u64 (x13 + x14)) x15).bind fun x16 => some x16) else if x15 = true then ((soft_Round fu 0 x6 x12 (wk .u64 ((wk .u64 (x13 - x14)) - 1)) true).bind fun x17 => some x17) else if x13 = x14 then ((soft_nought fu 0).bind fun x18 => some x18) else if x14 < x13 then ((soft_Round fu 0 x6 x12 (wk .u64 (x13 - x14)) false).bind fun x19 => some x19) else (soft_Round fu 0 x9 x12 (wk .u64 (x14 - x13)) false).bind fun x20 => some x20
def soft_AddBy.k2 (fu : Nat) (x6 : Bool) (x7 : Int) (x8 : Int) (x9 : Bool) (x10 : Int) (x11 : Int) : Option Int :=
  jn 3 () (fun (t : Int × Int × Int × Bool) => soft_AddBy.k3 fu x6 x9 t.1 t.2.1 t.2.2.1 t.2.2.2) <| if (wk .i64 (x7 - x10)) ≤ 38 then (chk (0 ≤ (wk .i64 (x7 - x10))) <| soft_AddBy.k3 fu x6 x9 x10 (shlk .u64 x8 (wk .i64 (x7 - x10))) x11 false) else chk (0 ≤ (wk .i64 ((wk .i64 (x7 - x10)) - 38))) <| soft_AddBy.k3 fu x6 x9 (wk .i64 (x7 - 38)) (shlk .u64 x8 38) (shrk .u64 x11 (wk .i64 ((wk .i64 (x7 - x10)) - 38))) (!(decide ((shlk .u64 (shrk .u64 x11 (wk .i64 ((wk .i64 (x7 - x10)) - 38))) (wk .i64 ((wk .i64 (x7 - x10)) - 38))) = x11)))
def soft_AddBy.k1 (fu : Nat) (x4 : T_soft_number) (x5 : T_soft_number) : Option Int :=
  jn 2 () (fun (t : Bool × Int × Int × Bool × Int × Int) => soft_AddBy.k2 fu t.1 t.2.1 t.2.2.1 t.2.2.2.1 t.2.2.2.2.1 t.2.2.2.2.2) <| if x4.fexp < x5.fexp then (soft_AddBy.k2 fu x5.fneg x5.fexp x5.fsig x4.fneg x4.fexp x4.fsig) else soft_AddBy.k2 fu x4.fneg x4.fexp x4.fsig x5.fneg x5.fexp x5.fsig
def soft_AddBy (fu : Nat) (x1 : Int) (x2 : Int) (x3 : Int) : Option Int :=
  chk (x1 = 0) <| (soft_open fu x2).bind fun x4 => (soft_open fu x3).bind fun x5 => jn 1 () (fun (t : Unit) => soft_AddBy.k1 fu x4 x5) <| if x4.fnan = true then (some 2143289344) else if x5.fnan = true then (some 2143289344) else if x4.finf = true then (if x5.finf = true then (if (x4.fneg == x5.fneg) = true then (some x2) else some 2143289344) else some x2) else if x5.finf = true then (some x3) else if x4.fsig = 0 then (if x5.fsig = 0 then (if x2 = x3 then (some x2) else (soft_nought fu 0).bind fun x21 => some x21) else soft_AddBy.k1 fu x4 x5) else soft_AddBy.k1 fu x4 x5

/-! lattice/soft.Add -/
def soft_Add (fu : Nat) (x1 : Int) (x2 : Int) : Option Int :=
  (soft_AddBy fu 0 x1 x2).bind fun x3 => some x3

/-! (*lattice/conv.work).sum -/
def conv_work_sum.L3 (fu : Nat) (nx2 : Int → Int → Option Int) (x1 : T_conv_work) (x2 : Int) (x3 : Int) (x5 : Int) (x6 : T_Tensor) (x7 : T_Tensor) (x8 : Int) (x9 : Int) (x10 : Int) (x68 : Int) (x144 : Int) (x163 : Int × Bool) (nx3 : Int → Int → Option Int) (x169 : Int) (x170 : Int) : Option Int :=
  if x170 < x1.fw.fkernel then ((conv_axis_at fu x1.fw x5 x170).bind fun x176 => if x176.2 = true then ((at? x6.fF (wk .i64 ((wk .i64 ((wk .i64 ((wk .i64 ((wk .i64 ((wk .i64 ((wk .i64 (x2 * x9)) + (wk .i64 ((wk .i64 (Int.tdiv x3 (wk .i64 (Int.tdiv x10 x1.fs.fGroup)))) * x8)))) + x68)) * x1.fh.fsize)) + x163.1)) * x1.fw.fsize)) + x176.1))).bind fun x177 => (at? x7.fF (wk .i64 ((wk .i64 ((wk .i64 ((wk .i64 ((wk .i64 ((wk .i64 (x3 * x8)) + x68)) * x1.fh.fkernel)) + x144)) * x1.fw.fkernel)) + x170))).bind fun x178 => (soft_Mul fu x177 x178).bind fun x179 => (soft_Add fu x169 x179).bind fun x180 => nx3 x180 (wk .i64 (x170 + 1))) else nx3 x169 (wk .i64 (x170 + 1))) else nx2 x169 (wk .i64 (x144 + 1))
def conv_work_sum.W3 (fu : Nat) (nx2 : Int → Int → Option Int) (x1 : T_conv_work) (x2 : Int) (x3 : Int) (x5 : Int) (x6 : T_Tensor) (x7 : T_Tensor) (x8 : Int) (x9 : Int) (x10 : Int) (x68 : Int) (x144 : Int) (x163 : Int × Bool) (x169 : Int) (x170 : Int) : Option Int :=
  cloop (fun next s => conv_work_sum.L3 fu nx2 x1 x2 x3 x5 x6 x7 x8 x9 x10 x68 x144 x163 (fun x169 x170 => next (x169, x170)) s.1 s.2) fu (x169, x170)
def conv_work_sum.L2 (fu : Nat) (nx1 : Int → Int → Option Int) (x1 : T_conv_work) (x2 : Int) (x3 : Int) (x4 : Int) (x5 : Int) (x6 : T_Tensor) (x7 : T_Tensor) (x8 : Int) (x9 : Int) (x10 : Int) (x68 : Int) (nx2 : Int → Int → Option Int) (x143 : Int) (x144 : Int) : Option Int :=
  if x144 < x1.fh.fkernel then ((conv_axis_at fu x1.fh x4 x144).bind fun x163 => if x163.2 = true then (conv_work_sum.W3 fu nx2 x1 x2 x3 x5 x6 x7 x8 x9 x10 x68 x144 x163 x143 0) else nx2 x143 (wk .i64 (x144 + 1))) else nx1 x143 (wk .i64 (x68 + 1))
def conv_work_sum.W2 (fu : Nat) (nx1 : Int → Int → Option Int) (x1 : T_conv_work) (x2 : Int) (x3 : Int) (x4 : Int) (x5 : Int) (x6 : T_Tensor) (x7 : T_Tensor) (x8 : Int) (x9 : Int) (x10 : Int) (x68 : Int) (x143 : Int) (x144 : Int) : Option Int :=
  cloop (fun next s => conv_work_sum.L2 fu nx1 x1 x2 x3 x4 x5 x6 x7 x8 x9 x10 x68 (fun x143 x144 => next (x143, x144)) s.1 s.2) fu (x143, x144)
def conv_work_sum.L1 (fu : Nat) (x1 : T_conv_work) (x2 : Int) (x3 : Int) (x4 : Int) (x5 : Int) (x6 : T_Tensor) (x7 : T_Tensor) (x8 : Int) (x9 : Int) (x10 : Int) (nx1 : Int → Int → Option Int) (x67 : Int) (x68 : Int) : Option Int :=
  if x68 < x8 then (conv_work_sum.W2 fu nx1 x1 x2 x3 x4 x5 x6 x7 x8 x9 x10 x68 x67 0) else some x67
def conv_work_sum.W1 (fu : Nat) (x1 : T_conv_work) (x2 : Int) (x3 : Int) (x4 : Int) (x5 : Int) (x6 : T_Tensor) (x7 : T_Tensor) (x8 : Int) (x9 : Int) (x10 : Int) (x67 : Int) (x68 : Int) : Option Int :=
  cloop (fun next s => conv_work_sum.L1 fu x1 x2 x3 x4 x5 x6 x7 x8 x9 x10 (fun x67 x68 => next (x67, x68)) s.1 s.2) fu (x67, x68)
def conv_work_sum (fu : Nat) (x1 : T_conv_work) (x2 : Int) (x3 : Int) (x4 : Int) (x5 : Int) : Option Int :=
  (at? x1.fin 0).bind fun x6 => (at? x1.fin 1).bind fun x7 => (at? x7.fDims 1).bind fun x8 => (at? x6.fDims 1).bind fun x9 => (at? x7.fDims 0).bind fun x10 => chk (x1.fs.fGroup ≠ 0) <| chk ((wk .i64 (Int.tdiv x10 x1.fs.fGroup)) ≠ 0) <| conv_work_sum.W1 fu x1 x2 x3 x4 x5 x6 x7 x8 x9 x10 0 0

/-! lattice/conv.Do -/
def conv_Do.L1 (fu : Nat) (x2 : T_Setting) (x5 : List T_Tensor) (x8 : T_Val) (x13 : T_conv_axis × Int) (x16 : T_conv_axis × Int) (x17 : T_Tensor × Int) (nx1 : (List Int) → Int → Option (T_Tensor × Int)) (x28 : List Int) (x29 : Int) : Option (T_Tensor × Int) :=
  if x29 < ((x17.1.fF.length : Nat) : Int) then ((shape_Index fu x8.fDims x29).bind fun x40 => (at? x40.1 0).bind fun x41 => (at? x40.1 1).bind fun x42 => (at? x40.1 2).bind fun x43 => (at? x40.1 3).bind fun x44 => (conv_work_sum fu (T_conv_work.mk x2 x5 x8.fDims x13.1 x16.1) x41 x42 x43 x44).bind fun x45 => chk (0 ≤ x29 ∧ x29 < (x28.length : Int)) <| if 2 < (x5.length : Int) then ((at? x5 2).bind fun x46 => if x46.fType = 0 then (nx1 (x28.set x29.toNat x45) (wk .i64 (x29 + 1))) else (at? (x28.set x29.toNat x45) x29).bind fun x47 => (at? x46.fF x42).bind fun x48 => (soft_Add fu x47 x48).bind fun x49 => chk (0 ≤ x29 ∧ x29 < ((x28.set x29.toNat x45).length : Int)) <| nx1 ((x28.set x29.toNat x45).set x29.toNat x49) (wk .i64 (x29 + 1))) else nx1 (x28.set x29.toNat x45) (wk .i64 (x29 + 1))) else some (T_Tensor.mk x17.1.fType x17.1.fDims x28 x17.1.fI x17.1.fB, 0)
def conv_Do.W1 (fu : Nat) (x2 : T_Setting) (x5 : List T_Tensor) (x8 : T_Val) (x13 : T_conv_axis × Int) (x16 : T_conv_axis × Int) (x17 : T_Tensor × Int) (x28 : List Int) (x29 : Int) : Option (T_Tensor × Int) :=
  cloop (fun next s => conv_Do.L1 fu x2 x5 x8 x13 x16 x17 (fun x28 x29 => next (x28, x29)) s.1 s.2) fu (x28, x29)
def conv_Do.k1 (fu : Nat) (x2 : T_Setting) (x3 : List T_Tensor) (x5 : List T_Tensor) : Option (T_Tensor × Int) :=
  (ewise_Vals fu x3).bind fun x6 => (infer_Node fu 75 x2 x6 1).bind fun x7 => if x7.2 = 0 then ((at? x7.1 0).bind fun x8 => (at? x5 0).bind fun x9 => (at? x5 1).bind fun x10 => (at? x9.fDims 2).bind fun x11 => (at? x10.fDims 2).bind fun x12 => (conv_axisOf fu x2 0 x11 x12).bind fun x13 => (at? x9.fDims 3).bind fun x14 => (at? x10.fDims 3).bind fun x15 => (conv_axisOf fu x2 1 x14 x15).bind fun x16 => (tens_New fu 1 x8.fDims).bind fun x17 => conv_Do.W1 fu x2 x5 x8 x13 x16 x17 x17.1.fF 0) else some (T_Tensor.mk 0 ([]) ([]) ([]) ([]), x7.2)
def conv_Do.L2 (fu : Nat) (x2 : T_Setting) (x3 : List T_Tensor) (nx2 : (List T_Tensor) → Int → Option (T_Tensor × Int)) (x54 : List T_Tensor) (x55 : Int) : Option (T_Tensor × Int) :=
  if x55 < (x3.length : Int) then ((at? x3 x55).bind fun x60 => if x60.fType = 0 then ((tens_Canon fu x60).bind fun x61 => chk ((x54.length + 1 : Int) * 104 ≤ 140737488355328) <| nx2 (x54 ++ ([x61])) (wk .i64 (x55 + 1))) else (tens_Check fu x60).bind fun x62 => if x62 = 0 then ((tens_Canon fu x60).bind fun x63 => chk ((x54.length + 1 : Int) * 104 ≤ 140737488355328) <| nx2 (x54 ++ ([x63])) (wk .i64 (x55 + 1))) else some (T_Tensor.mk 0 ([]) ([]) ([]) ([]), x62)) else conv_Do.k1 fu x2 x3 x54
def conv_Do.W2 (fu : Nat) (x2 : T_Setting) (x3 : List T_Tensor) (x54 : List T_Tensor) (x55 : Int) : Option (T_Tensor × Int) :=
  cloop (fun next s => conv_Do.L2 fu x2 x3 (fun x54 x55 => next (x54, x55)) s.1 s.2) fu (x54, x55)
def conv_Do (fu : Nat) (x1 : Int) (x2 : T_Setting) (x3 : List T_Tensor) : Option (T_Tensor × Int) :=
  chk (x1 = 75) <| (conv_Has fu 75).bind fun x4 => if x4 = true then (jn 1 () (fun (t : List T_Tensor) => conv_Do.k1 fu x2 x3 t) <| conv_Do.W2 fu x2 x3 ([] : List T_Tensor) 0) else some (T_Tensor.mk 0 ([]) ([]) ([]) ([]), 1)

/-! lattice/latticelaw15.floats -/
def law15_floats (fu : Nat) (x1 : List Int) (x2 : List Int) : Option T_Tensor :=
  some (T_Tensor.mk 1 x1 x2 ([]) ([]))

/-! lattice/latticeref04.Size -/
def ref04_Size.k2 (fu : Nat) (nx1 : Int → Int → Option (Int × Int)) (x1 : List Int) (x6 : Int) (x7 : Int) : Option (Int × Int) :=
  (at? x1 x7).bind fun x10 => nx1 (wk .i64 (x6 * x10)) (wk .i64 (x7 + 1))
def ref04_Size.L1 (fu : Nat) (x1 : List Int) (nx1 : Int → Int → Option (Int × Int)) (x6 : Int) (x7 : Int) : Option (Int × Int) :=
  if x7 < (x1.length : Int) then (jn 2 () (fun (t : Unit) => ref04_Size.k2 fu nx1 x1 x6 x7) <| (at? x1 x7).bind fun x11 => if 4096 < x11 then (some (0, 4)) else if 4096 < (wk .i64 (x6 * x11)) then (some (0, 4)) else ref04_Size.k2 fu nx1 x1 x6 x7) else some (x6, 0)
def ref04_Size.W1 (fu : Nat) (x1 : List Int) (x6 : Int) (x7 : Int) : Option (Int × Int) :=
  cloop (fun next s => ref04_Size.L1 fu x1 (fun x6 x7 => next (x6, x7)) s.1 s.2) fu (x6, x7)
def ref04_Size.k1 (fu : Nat) (x1 : List Int) (x2 : Bool) (x3 : Bool) : Option (Int × Int) :=
  if x3 = true then (some (0, 4)) else if x2 = true then (some (0, 0)) else ref04_Size.W1 fu x1 1 0
def ref04_Size.k3 (fu : Nat) (nx2 : Bool → Bool → Int → Option (Int × Int)) (x14 : Bool) (x15 : Int) (x18 : Int) (x19 : Bool) : Option (Int × Int) :=
  if x14 = true then (nx2 x19 true (wk .i64 (x15 + 1))) else nx2 x19 (decide (4096 < x18)) (wk .i64 (x15 + 1))
def ref04_Size.L2 (fu : Nat) (x1 : List Int) (nx2 : Bool → Bool → Int → Option (Int × Int)) (x13 : Bool) (x14 : Bool) (x15 : Int) : Option (Int × Int) :=
  if x15 < (x1.length : Int) then ((at? x1 x15).bind fun x18 => if x18 < 0 then (some (0, 1)) else jn 3 () (fun (t : Bool) => ref04_Size.k3 fu nx2 x14 x15 x18 t) <| if x13 = true then (ref04_Size.k3 fu nx2 x14 x15 x18 true) else ref04_Size.k3 fu nx2 x14 x15 x18 (decide (x18 = 0))) else ref04_Size.k1 fu x1 x13 x14
def ref04_Size.W2 (fu : Nat) (x1 : List Int) (x13 : Bool) (x14 : Bool) (x15 : Int) : Option (Int × Int) :=
  cloop (fun next s => ref04_Size.L2 fu x1 (fun x13 x14 x15 => next (x13, x14, x15)) s.1 s.2.1 s.2.2) fu (x13, x14, x15)
def ref04_Size (fu : Nat) (x1 : List Int) : Option (Int × Int) :=
  jn 1 () (fun (t : Bool × Bool) => ref04_Size.k1 fu x1 t.1 t.2) <| ref04_Size.W2 fu x1 false (decide (8 < (x1.length : Int))) 0

/-! lattice/latticeref04.Index -/
def ref04_Index.L1 (fu : Nat) (x1 : List Int) (nx1 : (List Int) → Int → Int → Option ((List Int) × Int)) (x5 : List Int) (x6 : Int) (x7 : Int) : Option ((List Int) × Int) :=
  if 0 ≤ x7 then ((at? x1 x7).bind fun x9 => chk (x9 ≠ 0) <| chk (0 ≤ x7 ∧ x7 < (x5.length : Int)) <| nx1 (x5.set x7.toNat (Int.tmod x6 x9)) (wk .i64 (Int.tdiv x6 x9)) (wk .i64 (x7 - 1))) else some (x5, 0)
def ref04_Index.W1 (fu : Nat) (x1 : List Int) (x5 : List Int) (x6 : Int) (x7 : Int) : Option ((List Int) × Int) :=
  cloop (fun next s => ref04_Index.L1 fu x1 (fun x5 x6 x7 => next (x5, x6, x7)) s.1 s.2.1 s.2.2) fu (x5, x6, x7)
def ref04_Index.k1 (fu : Nat) (x1 : List Int) (x2 : Int) : Option ((List Int) × Int) :=
  chk (0 ≤ (x1.length : Int) ∧ (x1.length : Int) * 8 ≤ 140737488355328) <| ref04_Index.W1 fu x1 (List.replicate (x1.length : Int).toNat (0 : Int)) x2 (wk .i64 ((x1.length : Int) - 1))
def ref04_Index (fu : Nat) (x1 : List Int) (x2 : Int) : Option ((List Int) × Int) :=
  (ref04_Size fu x1).bind fun x3 => if x3.2 = 0 then (jn 1 () (fun (t : Unit) => ref04_Index.k1 fu x1 x2) <| if x2 < 0 then (some ([], 2)) else if x3.1 ≤ x2 then (some ([], 2)) else ref04_Index.k1 fu x1 x2) else some ([], x3.2)

/-! lattice/latticeref04.Offset -/
def ref04_Offset.k1 (fu : Nat) (nx1 : Int → Int → Option (Int × Int)) (x1 : List Int) (x2 : List Int) (x8 : Int) (x9 : Int) : Option (Int × Int) :=
  (at? x1 x9).bind fun x14 => (at? x2 x9).bind fun x15 => nx1 (wk .i64 ((wk .i64 (x8 * x14)) + x15)) (wk .i64 (x9 + 1))
def ref04_Offset.L1 (fu : Nat) (x1 : List Int) (x2 : List Int) (nx1 : Int → Int → Option (Int × Int)) (x8 : Int) (x9 : Int) : Option (Int × Int) :=
  if x9 < (x1.length : Int) then (jn 1 () (fun (t : Unit) => ref04_Offset.k1 fu nx1 x1 x2 x8 x9) <| (at? x2 x9).bind fun x16 => if x16 < 0 then (some (0, 2)) else (at? x1 x9).bind fun x17 => if x17 ≤ x16 then (some (0, 2)) else ref04_Offset.k1 fu nx1 x1 x2 x8 x9) else some (x8, 0)
def ref04_Offset.W1 (fu : Nat) (x1 : List Int) (x2 : List Int) (x8 : Int) (x9 : Int) : Option (Int × Int) :=
  cloop (fun next s => ref04_Offset.L1 fu x1 x2 (fun x8 x9 => next (x8, x9)) s.1 s.2) fu (x8, x9)
def ref04_Offset (fu : Nat) (x1 : List Int) (x2 : List Int) : Option (Int × Int) :=
  (ref04_Size fu x1).bind fun x3 => if x3.2 = 0 then (if (x2.length : Int) = (x1.length : Int) then (ref04_Offset.W1 fu x1 x2 0 0) else some (0, 2)) else some (0, x3.2)

/-! lattice/latticeref05.Known -/
def ref05_Known (fu : Nat) (x1 : Int) : Option Bool :=
  if x1 = 1 then (some true) else if x1 = 7 then (some true) else some (decide (x1 = 9))

/-! lattice/latticeref05.Check -/
def ref05_Check.k1 (fu : Nat) (x1 : T_Tensor) (x4 : Int) (x5 : Int) (x6 : Int) : Option Int :=
  if (x1.fF.length : Int) = x4 then (if (x1.fI.length : Int) = x5 then (if (x1.fB.length : Int) = x6 then (some 0) else some 3) else some 3) else some 3
def ref05_Check (fu : Nat) (x1 : T_Tensor) : Option Int :=
  (ref05_Known fu x1.fType).bind fun x2 => if x2 = true then ((ref04_Size fu x1.fDims).bind fun x3 => if x3.2 = 0 then (jn 1 () (fun (t : Int × Int × Int) => ref05_Check.k1 fu x1 t.1 t.2.1 t.2.2) <| if x1.fType = 1 then (ref05_Check.k1 fu x1 x3.1 0 0) else if x1.fType = 7 then (ref05_Check.k1 fu x1 0 x3.1 0) else ref05_Check.k1 fu x1 0 0 x3.1) else some x3.2) else some 5

/-! lattice/latticeref05.New -/
def ref05_New (fu : Nat) (x1 : Int) (x2 : List Int) : Option (T_Tensor × Int) :=
  (ref05_Known fu x1).bind fun x3 => if x3 = true then ((ref04_Size fu x2).bind fun x4 => if x4.2 = 0 then (chk ((x2.length : Int) * 8 ≤ 140737488355328) <| if x1 = 1 then (chk (0 ≤ x4.1 ∧ x4.1 * 4 ≤ 140737488355328) <| some (T_Tensor.mk x1 x2 (List.replicate x4.1.toNat (0 : Int)) ([]) ([]), 0)) else if x1 = 7 then (chk (0 ≤ x4.1 ∧ x4.1 * 8 ≤ 140737488355328) <| some (T_Tensor.mk x1 x2 ([]) (List.replicate x4.1.toNat (0 : Int)) ([]), 0)) else chk (0 ≤ x4.1 ∧ x4.1 * 1 ≤ 140737488355328) <| some (T_Tensor.mk x1 x2 ([]) ([]) (List.replicate x4.1.toNat (false : Bool)), 0)) else some (T_Tensor.mk 0 ([]) ([]) ([]) ([]), x4.2)) else some (T_Tensor.mk 0 ([]) ([]) ([]) ([]), 5)

/-! lattice/latticeref05.Pick -/
def ref05_Pick.c2 (fu : Nat) (nx1 : (List Int) → (List Int) → (List Bool) → Int → Option (T_Tensor × Int)) (x15 : List Int) (x16 : List Int) (x17 : List Bool) (x18 : Int) (x28 : List Int) (x29 : List Int) (x30 : List Bool) : Option (T_Tensor × Int) :=
  chk (x15.length = x28.length) <| chk (x16.length = x29.length) <| chk (x17.length = x30.length) <| nx1 x28 x29 x30 (wk .i64 (x18 + 1))
def ref05_Pick.k1 (fu : Nat) (nx1 : (List Int) → (List Int) → (List Bool) → Int → Option (T_Tensor × Int)) (x1 : T_Tensor) (x3 : List Int) (x5 : T_Tensor × Int) (x15 : List Int) (x16 : List Int) (x17 : List Bool) (x18 : Int) : Option (T_Tensor × Int) :=
  (at? x3 x18).bind fun x27 => if 0 ≤ x27 then (jc 2 () (fun (t : (List Int) × (List Int) × (List Bool)) => ref05_Pick.c2 fu nx1 x15 x16 x17 x18 t.1 t.2.1 t.2.2) <| if x5.1.fType = 1 then ((at? x1.fF x27).bind fun x31 => chk (0 ≤ x18 ∧ x18 < (x15.length : Int)) <| ref05_Pick.c2 fu nx1 x15 x16 x17 x18 (x15.set x18.toNat x31) x16 x17) else if x5.1.fType = 7 then ((at? x1.fI x27).bind fun x32 => chk (0 ≤ x18 ∧ x18 < (x16.length : Int)) <| ref05_Pick.c2 fu nx1 x15 x16 x17 x18 x15 (x16.set x18.toNat x32) x17) else (at? x1.fB x27).bind fun x33 => chk (0 ≤ x18 ∧ x18 < (x17.length : Int)) <| ref05_Pick.c2 fu nx1 x15 x16 x17 x18 x15 x16 (x17.set x18.toNat x33)) else nx1 x15 x16 x17 (wk .i64 (x18 + 1))
def ref05_Pick.L1 (fu : Nat) (x1 : T_Tensor) (x3 : List Int) (x5 : T_Tensor × Int) (x6 : Int × Int) (nx1 : (List Int) → (List Int) → (List Bool) → Int → Option (T_Tensor × Int)) (x15 : List Int) (x16 : List Int) (x17 : List Bool) (x18 : Int) : Option (T_Tensor × Int) :=
  if x18 < x6.1 then (jn 1 () (fun (t : Unit) => ref05_Pick.k1 fu nx1 x1 x3 x5 x15 x16 x17 x18) <| (at? x3 x18).bind fun x34 => if x34 < (-1) then (some (T_Tensor.mk 0 ([]) ([]) ([]) ([]), 2)) else if (wk .i64 ((wk .i64 ((x1.fF.length : Int) + (x1.fI.length : Int))) + (x1.fB.length : Int))) ≤ x34 then (some (T_Tensor.mk 0 ([]) ([]) ([]) ([]), 2)) else ref05_Pick.k1 fu nx1 x1 x3 x5 x15 x16 x17 x18) else some (T_Tensor.mk x5.1.fType x5.1.fDims x15 x16 x17, 0)
def ref05_Pick.W1 (fu : Nat) (x1 : T_Tensor) (x3 : List Int) (x5 : T_Tensor × Int) (x6 : Int × Int) (x15 : List Int) (x16 : List Int) (x17 : List Bool) (x18 : Int) : Option (T_Tensor × Int) :=
  cloop (fun next s => ref05_Pick.L1 fu x1 x3 x5 x6 (fun x15 x16 x17 x18 => next (x15, x16, x17, x18)) s.1 s.2.1 s.2.2.1 s.2.2.2) fu (x15, x16, x17, x18)
def ref05_Pick (fu : Nat) (x1 : T_Tensor) (x2 : List Int) (x3 : List Int) : Option (T_Tensor × Int) :=
  (ref05_Check fu x1).bind fun x4 => if x4 = 0 then ((ref05_New fu x1.fType x2).bind fun x5 => if x5.2 = 0 then ((ref04_Size fu x2).bind fun x6 => if (x3.length : Int) = x6.1 then (ref05_Pick.W1 fu x1 x3 x5 x6 x5.1.fF x5.1.fI x5.1.fB 0) else some (T_Tensor.mk 0 ([]) ([]) ([]) ([]), 3)) else some (T_Tensor.mk 0 ([]) ([]) ([]) ([]), x5.2)) else some (T_Tensor.mk 0 ([]) ([]) ([]) ([]), x4)

/-! lattice/latticelaw15.half -/
def law15_half.k1 (fu : Nat) (x1 : T_Tensor) (x8 : List Int) (x9 : List Int) : Option T_Tensor :=
  (ref05_Pick fu x1 x8 x9).bind fun x10 => some x10.1
def law15_half.k2 (fu : Nat) (nx1 : (List Int) → (List Int) → Bool → Int → Option T_Tensor) (x1 : T_Tensor) (x17 : List Int) (x18 : List Int) (x20 : Int) (x28 : List Int) (x29 : Bool) : Option T_Tensor :=
  (ref04_Offset fu x1.fDims x28).bind fun x30 => chk ((x18.length + 1 : Int) * 8 ≤ 140737488355328) <| nx1 x17 (x18 ++ ([x30.1])) x29 (wk .i64 (x20 + 1))
def law15_half.L1 (fu : Nat) (x1 : T_Tensor) (x7 : Int × Int) (nx1 : (List Int) → (List Int) → Bool → Int → Option T_Tensor) (x17 : List Int) (x18 : List Int) (x19 : Bool) (x20 : Int) : Option T_Tensor :=
  if x20 < x7.1 then ((ref04_Index fu x17 x20).bind fun x27 => jn 2 () (fun (t : (List Int) × Bool) => law15_half.k2 fu nx1 x1 x17 x18 x20 t.1 t.2) <| if x19 = true then ((at? x27.1 1).bind fun x31 => (at? x17 1).bind fun x32 => chk (0 ≤ 1 ∧ 1 < (x27.1.length : Int)) <| law15_half.k2 fu nx1 x1 x17 x18 x20 (x27.1.set (1 : Int).toNat (wk .i64 (x31 + x32))) true) else law15_half.k2 fu nx1 x1 x17 x18 x20 x27.1 false) else law15_half.k1 fu x1 x17 x18
def law15_half.W1 (fu : Nat) (x1 : T_Tensor) (x7 : Int × Int) (x17 : List Int) (x18 : List Int) (x19 : Bool) (x20 : Int) : Option T_Tensor :=
  cloop (fun next s => law15_half.L1 fu x1 x7 (fun x17 x18 x19 x20 => next (x17, x18, x19, x20)) s.1 s.2.1 s.2.2.1 s.2.2.2) fu (x17, x18, x19, x20)
def law15_half (fu : Nat) (x1 : T_Tensor) (x2 : Bool) : Option T_Tensor :=
  (at? x1.fDims 0).bind fun x3 => (at? x1.fDims 1).bind fun x4 => (at? x1.fDims 2).bind fun x5 => (at? x1.fDims 3).bind fun x6 => (ref04_Size fu ([x3, wk .i64 (Int.tdiv x4 2), x5, x6])).bind fun x7 => jn 1 () (fun (t : (List Int) × (List Int)) => law15_half.k1 fu x1 t.1 t.2) <| law15_half.W1 fu x1 x7 ([x3, wk .i64 (Int.tdiv x4 2), x5, x6]) ([] : List Int) x2 0

/-! lattice/latticeref04.SameInts -/
def ref04_SameInts.L1 (fu : Nat) (x1 : List Int) (x2 : List Int) (nx1 : Int → Option Bool) (x5 : Int) : Option Bool :=
  if x5 < (x1.length : Int) then ((at? x1 x5).bind fun x8 => (at? x2 x5).bind fun x9 => if x8 = x9 then (nx1 (wk .i64 (x5 + 1))) else some false) else some true
def ref04_SameInts.W1 (fu : Nat) (x1 : List Int) (x2 : List Int) (x5 : Int) : Option Bool :=
  cloop (fun next s => ref04_SameInts.L1 fu x1 x2 next s) fu x5
def ref04_SameInts (fu : Nat) (x1 : List Int) (x2 : List Int) : Option Bool :=
  if (x1.length : Int) = (x2.length : Int) then (ref04_SameInts.W1 fu x1 x2 0) else some false

/-! lattice/latticeref05.Same -/
def ref05_Same.L1 (fu : Nat) (x1 : T_Tensor) (x2 : T_Tensor) (nx1 : Int → Option Bool) (x5 : Int) : Option Bool :=
  if x5 < (x1.fB.length : Int) then ((at? x1.fB x5).bind fun x8 => (at? x2.fB x5).bind fun x9 => if (x8 == x9) = true then (nx1 (wk .i64 (x5 + 1))) else some false) else some true
def ref05_Same.W1 (fu : Nat) (x1 : T_Tensor) (x2 : T_Tensor) (x5 : Int) : Option Bool :=
  cloop (fun next s => ref05_Same.L1 fu x1 x2 next s) fu x5
def ref05_Same.k3 (fu : Nat) (x1 : T_Tensor) (x2 : T_Tensor) : Option Bool :=
  ref05_Same.W1 fu x1 x2 0
def ref05_Same.L2 (fu : Nat) (x1 : T_Tensor) (x2 : T_Tensor) (nx2 : Int → Option Bool) (x12 : Int) : Option Bool :=
  if x12 < (x1.fI.length : Int) then ((at? x1.fI x12).bind fun x15 => (at? x2.fI x12).bind fun x16 => if x15 = x16 then (nx2 (wk .i64 (x12 + 1))) else some false) else ref05_Same.k3 fu x1 x2
def ref05_Same.W2 (fu : Nat) (x1 : T_Tensor) (x2 : T_Tensor) (x12 : Int) : Option Bool :=
  cloop (fun next s => ref05_Same.L2 fu x1 x2 next s) fu x12
def ref05_Same.k2 (fu : Nat) (x1 : T_Tensor) (x2 : T_Tensor) : Option Bool :=
  jn 3 () (fun (t : Unit) => ref05_Same.k3 fu x1 x2) <| ref05_Same.W2 fu x1 x2 0
def ref05_Same.L3 (fu : Nat) (x1 : T_Tensor) (x2 : T_Tensor) (nx3 : Int → Option Bool) (x19 : Int) : Option Bool :=
  if x19 < (x1.fF.length : Int) then ((at? x1.fF x19).bind fun x22 => (at? x2.fF x19).bind fun x23 => if x22 = x23 then (nx3 (wk .i64 (x19 + 1))) else some false) else ref05_Same.k2 fu x1 x2
def ref05_Same.W3 (fu : Nat) (x1 : T_Tensor) (x2 : T_Tensor) (x19 : Int) : Option Bool :=
  cloop (fun next s => ref05_Same.L3 fu x1 x2 next s) fu x19
def ref05_Same.k1 (fu : Nat) (x1 : T_Tensor) (x2 : T_Tensor) : Option Bool :=
  jn 2 () (fun (t : Unit) => ref05_Same.k2 fu x1 x2) <| ref05_Same.W3 fu x1 x2 0
def ref05_Same (fu : Nat) (x1 : T_Tensor) (x2 : T_Tensor) : Option Bool :=
  jn 1 () (fun (t : Unit) => ref05_Same.k1 fu x1 x2) <| if x1.fType = x2.fType then ((ref04_SameInts fu x1.fDims x2.fDims).bind fun x24 => if x24 = true then (if (x1.fF.length : Int) = (x2.fF.length : Int) then (if (x1.fI.length : Int) = (x2.fI.length : Int) then (if (x1.fB.length : Int) = (x2.fB.length : Int) then (ref05_Same.k1 fu x1 x2) else some false) else some false) else some false) else some false) else some false

/-! lattice/latticelaw15.ConvGroups -/
def law15_ConvGroups.k1 (fu : Nat) (x1 : T_Setting) (x2 : T_Tensor) (x5 : T_Tensor × Int) (x11 : Int) (x12 : List Int) (x13 : List Int) (x14 : List Int) (x15 : List Bool) (x16 : Bool) : Option Bool :=
  (law15_half fu x2 x16).bind fun x17 => (conv_Do fu 75 (T_Setting.mk x1.fAxis x1.fAxes x1.fHasAxes x1.fKeep x1.fNoop x1.fLast x1.fZero x1.fPerm x1.fHasPerm x1.fAlpha x1.fBeta x1.fEpsilon x1.fLow x1.fHigh x1.fFmod x1.fTo x1.fMode x1.fTransA x1.fTransB 1 x1.fKernel x1.fStrides x1.fPads x1.fDilations x1.fAuto x1.fCeil x1.fCount x1.fBlock x1.fStart x1.fEnd x1.fHasEnd x1.fValue) ([x17, T_Tensor.mk x11 x12 x13 x14 x15])).bind fun x18 => if x18.2 = 0 then ((law15_half fu x5.1 x16).bind fun x19 => (ref05_Same fu x19 x18.1).bind fun x20 => some x20) else some false
def law15_ConvGroups.k2 (fu : Nat) (x5 : T_Tensor × Int) : Option Bool :=
  some (decide ((x5.1.fF.length : Int) = 0))
def law15_ConvGroups (fu : Nat) (x1 : T_Setting) (x2 : T_Tensor) (x3 : T_Tensor) (x4 : Bool) : Option Bool :=
  (conv_Do fu 75 (T_Setting.mk x1.fAxis x1.fAxes x1.fHasAxes x1.fKeep x1.fNoop x1.fLast x1.fZero x1.fPerm x1.fHasPerm x1.fAlpha x1.fBeta x1.fEpsilon x1.fLow x1.fHigh x1.fFmod x1.fTo x1.fMode x1.fTransA x1.fTransB 2 x1.fKernel x1.fStrides x1.fPads x1.fDilations x1.fAuto x1.fCeil x1.fCount x1.fBlock x1.fStart x1.fEnd x1.fHasEnd x1.fValue) ([x2, x3])).bind fun x5 => if x5.2 = 0 then ((at? x3.fDims 0).bind fun x6 => (at? x3.fDims 1).bind fun x7 => (at? x3.fDims 2).bind fun x8 => (at? x3.fDims 3).bind fun x9 => chk (0 ≤ wk .i64 (Int.tdiv (x3.fF.length : Int) 2) ∧ wk .i64 (Int.tdiv (x3.fF.length : Int) 2) ≤ (x3.fF.length : Int)) <| (law15_floats fu ([wk .i64 (Int.tdiv x6 2), x7, x8, x9]) (subN x3.fF 0 (wk .i64 (Int.tdiv (x3.fF.length : Int) 2)).toNat)).bind fun x10 => jn 1 () (fun (t : Int × (List Int) × (List Int) × (List Int) × (List Bool) × Bool) => law15_ConvGroups.k1 fu x1 x2 x5 t.1 t.2.1 t.2.2.1 t.2.2.2.1 t.2.2.2.2.1 t.2.2.2.2.2) <| if x4 = true then ((law15_floats fu ([wk .i64 (Int.tdiv x6 2), x7, x8, x9]) (subN x3.fF (wk .i64 (Int.tdiv (x3.fF.length : Int) 2)).toNat x3.fF.length)).bind fun x21 => law15_ConvGroups.k1 fu x1 x2 x5 x21.fType x21.fDims x21.fF x21.fI x21.fB true) else law15_ConvGroups.k1 fu x1 x2 x5 x10.fType x10.fDims x10.fF x10.fI x10.fB false) else jn 2 x5 (fun (t : Unit) => law15_ConvGroups.k2 fu x5) <| law15_ConvGroups.k2 fu x5

end Go.Av
