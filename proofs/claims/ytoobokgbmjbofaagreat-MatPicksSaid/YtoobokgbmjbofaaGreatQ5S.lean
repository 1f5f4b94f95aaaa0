/- Plain functions, as the program has them; data of structs. Made by a program of mine. Conditions: none. -/
import Derived.Test.YtoobokgbmjbofaaGreatMi
set_option linter.unusedVariables false
namespace Go.Av

structure T_Tensor where
  fType : Int
  fDims : List Int
  fF : List Int
  fI : List Int
  fB : List Bool
def c_T_Tensor (x : T_Tensor) : List AV := [.v (.int .i64 x.fType), .arr x.fDims.length (lm (ik .i64) x.fDims), .arr x.fF.length (lm (ik .u32) x.fF), .arr x.fI.length (lm (ik .i64) x.fI), .arr x.fB.length (lm (bk) x.fB)]
theorem c_T_Tensor_len : ∀ x, (c_T_Tensor x).length = 5 := fun _ => rfl
theorem c_T_Tensor_one : ∀ x, (c_T_Tensor x).all AV.one = true := fun _ => rfl

structure T_Setting where
  fAxis : Int
  fAxes : List Int
  fHasAxes : Bool
  fKeep : Bool
  fNoop : Bool
  fLast : Bool
  fZero : Bool
  fPerm : List Int
  fHasPerm : Bool
  fAlpha : Int
  fBeta : Int
  fEpsilon : Int
  fLow : Bool
  fHigh : Bool
  fFmod : Bool
  fTo : Int
  fMode : Int
  fTransA : Bool
  fTransB : Bool
  fGroup : Int
  fKernel : List Int
  fStrides : List Int
  fPads : List Int
  fDilations : List Int
  fAuto : Int
  fCeil : Bool
  fCount : Bool
  fBlock : Int
  fStart : Int
  fEnd : Int
  fHasEnd : Bool
  fValue : T_Tensor
def c_T_Setting (x : T_Setting) : List AV := [.v (.int .i64 x.fAxis), .arr x.fAxes.length (lm (ik .i64) x.fAxes), .v (.bool x.fHasAxes), .v (.bool x.fKeep), .v (.bool x.fNoop), .v (.bool x.fLast), .v (.bool x.fZero), .arr x.fPerm.length (lm (ik .i64) x.fPerm), .v (.bool x.fHasPerm), .v (.int .u32 x.fAlpha), .v (.int .u32 x.fBeta), .v (.int .u32 x.fEpsilon), .v (.bool x.fLow), .v (.bool x.fHigh), .v (.bool x.fFmod), .v (.int .i64 x.fTo), .v (.int .i64 x.fMode), .v (.bool x.fTransA), .v (.bool x.fTransB), .v (.int .i64 x.fGroup), .arr x.fKernel.length (lm (ik .i64) x.fKernel), .arr x.fStrides.length (lm (ik .i64) x.fStrides), .arr x.fPads.length (lm (ik .i64) x.fPads), .arr x.fDilations.length (lm (ik .i64) x.fDilations), .v (.int .i64 x.fAuto), .v (.bool x.fCeil), .v (.bool x.fCount), .v (.int .i64 x.fBlock), .v (.int .i64 x.fStart), .v (.int .i64 x.fEnd), .v (.bool x.fHasEnd), .v (.int .i64 x.fValue.fType), .arr x.fValue.fDims.length (lm (ik .i64) x.fValue.fDims), .arr x.fValue.fF.length (lm (ik .u32) x.fValue.fF), .arr x.fValue.fI.length (lm (ik .i64) x.fValue.fI), .arr x.fValue.fB.length (lm (bk) x.fValue.fB)]
theorem c_T_Setting_len : ∀ x, (c_T_Setting x).length = 36 := fun _ => rfl
theorem c_T_Setting_one : ∀ x, (c_T_Setting x).all AV.one = true := fun _ => rfl

structure T_Val where
  fType : Int
  fDims : List Int
  fConst : Bool
  fT : T_Tensor
def c_T_Val (x : T_Val) : List AV := [.v (.int .i64 x.fType), .arr x.fDims.length (lm (ik .i64) x.fDims), .v (.bool x.fConst), .v (.int .i64 x.fT.fType), .arr x.fT.fDims.length (lm (ik .i64) x.fT.fDims), .arr x.fT.fF.length (lm (ik .u32) x.fT.fF), .arr x.fT.fI.length (lm (ik .i64) x.fT.fI), .arr x.fT.fB.length (lm (bk) x.fT.fB)]
theorem c_T_Val_len : ∀ x, (c_T_Val x).length = 8 := fun _ => rfl
theorem c_T_Val_one : ∀ x, (c_T_Val x).all AV.one = true := fun _ => rfl

structure T_infer_ask where
  fop : Int
  fs : T_Setting
  fin : List T_Val
  fouts : Int
def c_T_infer_ask (x : T_infer_ask) : List AV := [.v (.int .i64 x.fop), .v (.int .i64 x.fs.fAxis), .arr x.fs.fAxes.length (lm (ik .i64) x.fs.fAxes), .v (.bool x.fs.fHasAxes), .v (.bool x.fs.fKeep), .v (.bool x.fs.fNoop), .v (.bool x.fs.fLast), .v (.bool x.fs.fZero), .arr x.fs.fPerm.length (lm (ik .i64) x.fs.fPerm), .v (.bool x.fs.fHasPerm), .v (.int .u32 x.fs.fAlpha), .v (.int .u32 x.fs.fBeta), .v (.int .u32 x.fs.fEpsilon), .v (.bool x.fs.fLow), .v (.bool x.fs.fHigh), .v (.bool x.fs.fFmod), .v (.int .i64 x.fs.fTo), .v (.int .i64 x.fs.fMode), .v (.bool x.fs.fTransA), .v (.bool x.fs.fTransB), .v (.int .i64 x.fs.fGroup), .arr x.fs.fKernel.length (lm (ik .i64) x.fs.fKernel), .arr x.fs.fStrides.length (lm (ik .i64) x.fs.fStrides), .arr x.fs.fPads.length (lm (ik .i64) x.fs.fPads), .arr x.fs.fDilations.length (lm (ik .i64) x.fs.fDilations), .v (.int .i64 x.fs.fAuto), .v (.bool x.fs.fCeil), .v (.bool x.fs.fCount), .v (.int .i64 x.fs.fBlock), .v (.int .i64 x.fs.fStart), .v (.int .i64 x.fs.fEnd), .v (.bool x.fs.fHasEnd), .v (.int .i64 x.fs.fValue.fType), .arr x.fs.fValue.fDims.length (lm (ik .i64) x.fs.fValue.fDims), .arr x.fs.fValue.fF.length (lm (ik .u32) x.fs.fValue.fF), .arr x.fs.fValue.fI.length (lm (ik .i64) x.fs.fValue.fI), .arr x.fs.fValue.fB.length (lm (bk) x.fs.fValue.fB), .arr x.fin.length (fm c_T_Val x.fin), .v (.int .i64 x.fouts)]
theorem c_T_infer_ask_len : ∀ x, (c_T_infer_ask x).length = 39 := fun _ => rfl
theorem c_T_infer_ask_one : ∀ x, (c_T_infer_ask x).all AV.one = true := fun _ => rfl

structure T_mat_grid where
  fl : List Int
  fat : Int
  frow : Int
  fcol : Int
  frows : Int
  fcolumns : Int
def c_T_mat_grid (x : T_mat_grid) : List AV := [.arr x.fl.length (lm (ik .u32) x.fl), .v (.int .i64 x.fat), .v (.int .i64 x.frow), .v (.int .i64 x.fcol), .v (.int .i64 x.frows), .v (.int .i64 x.fcolumns)]
theorem c_T_mat_grid_len : ∀ x, (c_T_mat_grid x).length = 6 := fun _ => rfl
theorem c_T_mat_grid_one : ∀ x, (c_T_mat_grid x).all AV.one = true := fun _ => rfl

structure T_mat_line_uint32 where
  fl : List Int
  ffirst : Int
  fstride : Int
  fn : Int
def c_T_mat_line_uint32 (x : T_mat_line_uint32) : List AV := [.arr x.fl.length (lm (ik .u32) x.fl), .v (.int .i64 x.ffirst), .v (.int .i64 x.fstride), .v (.int .i64 x.fn)]
theorem c_T_mat_line_uint32_len : ∀ x, (c_T_mat_line_uint32 x).length = 4 := fun _ => rfl
theorem c_T_mat_line_uint32_one : ∀ x, (c_T_mat_line_uint32 x).all AV.one = true := fun _ => rfl

structure T_soft_number where
  fneg : Bool
  fnan : Bool
  finf : Bool
  fexp : Int
  fsig : Int
def c_T_soft_number (x : T_soft_number) : List AV := [.v (.bool x.fneg), .v (.bool x.fnan), .v (.bool x.finf), .v (.int .i64 x.fexp), .v (.int .u64 x.fsig)]
theorem c_T_soft_number_len : ∀ x, (c_T_soft_number x).length = 5 := fun _ => rfl
theorem c_T_soft_number_one : ∀ x, (c_T_soft_number x).all AV.one = true := fun _ => rfl

/-! lattice/latticeref05.Known -/
def ref05_Known (fu : Nat) (x1 : Int) : Option Bool :=
  if x1 = 1 then (some true) else if x1 = 7 then (some true) else some (decide (x1 = 9))

/-! lattice/latticeref04.Size -/
def ref04_Size_k2 (fu : Nat) (nx1 : Int → Int → Option (Int × Int)) (x1 : List Int) (x6 : Int) (x7 : Int) : Option (Int × Int) :=
  (at? x1 x7).bind fun x10 => nx1 (wk .i64 (x6 * x10)) (wk .i64 (x7 + 1))
def ref04_Size_L1 (fu : Nat) (x1 : List Int) (nx1 : Int → Int → Option (Int × Int)) (x6 : Int) (x7 : Int) : Option (Int × Int) :=
  if x7 < (x1.length : Int) then ((at? x1 x7).bind fun x11 => if 4096 < x11 then (some (0, 4)) else if 4096 < (wk .i64 (x6 * x11)) then (some (0, 4)) else ref04_Size_k2 fu nx1 x1 x6 x7) else some (x6, 0)
def ref04_Size_W1 (fu : Nat) (x1 : List Int) (x6 : Int) (x7 : Int) : Option (Int × Int) :=
  cloop (fun next s => ref04_Size_L1 fu x1 (fun x6 x7 => next (x6, x7)) s.1 s.2) fu (x6, x7)
def ref04_Size_k1 (fu : Nat) (x1 : List Int) (x2 : Bool) (x3 : Bool) : Option (Int × Int) :=
  if x3 = true then (some (0, 4)) else if x2 = true then (some (0, 0)) else ref04_Size_W1 fu x1 1 0
def ref04_Size_k3 (fu : Nat) (nx2 : Bool → Bool → Int → Option (Int × Int)) (x14 : Bool) (x15 : Int) (x18 : Int) (x19 : Bool) : Option (Int × Int) :=
  if x14 = true then (nx2 x19 true (wk .i64 (x15 + 1))) else nx2 x19 (decide (4096 < x18)) (wk .i64 (x15 + 1))
def ref04_Size_L2 (fu : Nat) (x1 : List Int) (nx2 : Bool → Bool → Int → Option (Int × Int)) (x13 : Bool) (x14 : Bool) (x15 : Int) : Option (Int × Int) :=
  if x15 < (x1.length : Int) then ((at? x1 x15).bind fun x18 => if x18 < 0 then (some (0, 1)) else if x13 = true then (ref04_Size_k3 fu nx2 x14 x15 x18 true) else ref04_Size_k3 fu nx2 x14 x15 x18 (decide (x18 = 0))) else ref04_Size_k1 fu x1 x13 x14
def ref04_Size_W2 (fu : Nat) (x1 : List Int) (x13 : Bool) (x14 : Bool) (x15 : Int) : Option (Int × Int) :=
  cloop (fun next s => ref04_Size_L2 fu x1 (fun x13 x14 x15 => next (x13, x14, x15)) s.1 s.2.1 s.2.2) fu (x13, x14, x15)
def ref04_Size (fu : Nat) (x1 : List Int) : Option (Int × Int) :=
  ref04_Size_W2 fu x1 false (decide (8 < (x1.length : Int))) 0

/-! lattice/latticeref05.Check -/
def ref05_Check_k1 (fu : Nat) (x1 : T_Tensor) (x4 : Int) (x5 : Int) (x6 : Int) : Option Int :=
  if (x1.fF.length : Int) = x4 then (if (x1.fI.length : Int) = x5 then (if (x1.fB.length : Int) = x6 then (some 0) else some 3) else some 3) else some 3
def ref05_Check (fu : Nat) (x1 : T_Tensor) : Option Int :=
  (ref05_Known fu x1.fType).bind fun x2 => if x2 = true then ((ref04_Size fu x1.fDims).bind fun x3 => if x3.2 = 0 then (if x1.fType = 1 then (ref05_Check_k1 fu x1 x3.1 0 0) else if x1.fType = 7 then (ref05_Check_k1 fu x1 0 x3.1 0) else ref05_Check_k1 fu x1 0 0 x3.1) else some x3.2) else some 5

/-! lattice/latticeref01.Abs -/
def ref01_Abs (fu : Nat) (x1 : Int) : Option Int :=
  some (Int.tmod x1 2147483648)

/-! lattice/latticelaw14.floats -/
def law14_floats (fu : Nat) (x1 : List Int) (x2 : List Int) : Option T_Tensor :=
  some (T_Tensor.mk 1 x1 x2 ([]) ([]))

/-! lattice/mat.Has -/
def mat_Has (fu : Nat) (x1 : Int) : Option Bool :=
  chk (x1 = 73) <| some true

/-! lattice/tens.Width -/
def tens_Width (fu : Nat) (x1 : Int) : Option Int :=
  if x1 = 1 then (some 4) else if x1 = 7 then (some 8) else if x1 = 9 then (some 1) else some 0

/-! lattice/tens.known -/
def tens_known (fu : Nat) (x1 : Int) : Option Bool :=
  (tens_Width fu x1).bind fun x2 => some (decide (0 < x2))

/-! slices.IndexFunc[[]int,int] -/
def slices_IndexFunc_int_L1 (fu : Nat) (p1 : Int → Option Bool) (x1 : List Int) (nx1 : Int → Option Int) (x4 : Int) : Option Int :=
  if x4 < (x1.length : Int) then ((at? x1 x4).bind fun x7 => (p1 x7).bind fun x8 => if x8 = true then (some x4) else nx1 (wk .i64 (x4 + 1))) else some (-1)
def slices_IndexFunc_int_W1 (fu : Nat) (p1 : Int → Option Bool) (x1 : List Int) (x4 : Int) : Option Int :=
  cloop (fun next s => slices_IndexFunc_int_L1 fu p1 x1 next s) fu x4
def slices_IndexFunc_int (fu : Nat) (x1 : List Int) (p1 : Int → Option Bool) : Option Int :=
  slices_IndexFunc_int_W1 fu p1 x1 0

/-! slices.ContainsFunc[[]int,int] -/
def slices_ContainsFunc_int (fu : Nat) (x1 : List Int) (p1 : Int → Option Bool) : Option Bool :=
  (slices_IndexFunc_int fu x1 p1).bind fun x2 => some (decide (0 ≤ x2))

/-! lattice/shape.Size$1 -/
def shape_Size_1 (fu : Nat) (x1 : Int) : Option Bool :=
  some (decide (x1 < 0))

/-! lattice/shape.Size$2 -/
def shape_Size_2 (fu : Nat) (x1 : Int) : Option Bool :=
  some (decide (4096 < x1))

/-! slices.Index[[]int,int] -/
def slices_Index_int_L1 (fu : Nat) (x1 : List Int) (x2 : Int) (nx1 : Int → Option Int) (x4 : Int) : Option Int :=
  if x4 < (x1.length : Int) then ((at? x1 x4).bind fun x6 => if x2 = x6 then (some x4) else nx1 (wk .i64 (x4 + 1))) else some (-1)
def slices_Index_int_W1 (fu : Nat) (x1 : List Int) (x2 : Int) (x4 : Int) : Option Int :=
  cloop (fun next s => slices_Index_int_L1 fu x1 x2 next s) fu x4
def slices_Index_int (fu : Nat) (x1 : List Int) (x2 : Int) : Option Int :=
  slices_Index_int_W1 fu x1 x2 0

/-! slices.Contains[[]int,int] -/
def slices_Contains_int (fu : Nat) (x1 : List Int) (x2 : Int) : Option Bool :=
  (slices_Index_int fu x1 x2).bind fun x3 => some (decide (0 ≤ x3))

/-! lattice/shape.Size -/
def shape_Size_L1 (fu : Nat) (x1 : List Int) (nx1 : Int → Int → Option (Int × Int)) (x5 : Int) (x6 : Int) : Option (Int × Int) :=
  if x6 < (x1.length : Int) then ((at? x1 x6).bind fun x8 => chk (x5 ≠ 0) <| if (wk .i64 (Int.tdiv 4096 x5)) < x8 then (some (0, 4)) else nx1 (wk .i64 (x5 * x8)) (wk .i64 (x6 + 1))) else some (x5, 0)
def shape_Size_W1 (fu : Nat) (x1 : List Int) (x5 : Int) (x6 : Int) : Option (Int × Int) :=
  cloop (fun next s => shape_Size_L1 fu x1 (fun x5 x6 => next (x5, x6)) s.1 s.2) fu (x5, x6)
def shape_Size_k1 (fu : Nat) (x1 : List Int) : Option (Int × Int) :=
  (slices_Contains_int fu x1 0).bind fun x3 => if x3 = true then (some (0, 0)) else shape_Size_W1 fu x1 1 0
def shape_Size (fu : Nat) (x1 : List Int) : Option (Int × Int) :=
  (slices_ContainsFunc_int fu x1 (fun y0 => shape_Size_1 fu y0)).bind fun x2 => if x2 = true then (some (0, 1)) else if 8 < (x1.length : Int) then (some (0, 4)) else (slices_ContainsFunc_int fu x1 (fun y0 => shape_Size_2 fu y0)).bind fun x9 => if x9 = true then (some (0, 4)) else shape_Size_k1 fu x1

/-! lattice/tens.Check -/
def tens_Check_k1 (fu : Nat) (x1 : T_Tensor) (x3 : Int × Int) (x4 : Int) : Option Int :=
  if x4 = x3.1 then (if (wk .i64 ((wk .i64 ((x1.fF.length : Int) + (x1.fI.length : Int))) + (x1.fB.length : Int))) = x3.1 then (some 0) else some 3) else some 3
def tens_Check (fu : Nat) (x1 : T_Tensor) : Option Int :=
  (tens_known fu x1.fType).bind fun x2 => if x2 = true then ((shape_Size fu x1.fDims).bind fun x3 => if x3.2 = 0 then (if x1.fType = 7 then (tens_Check_k1 fu x1 x3 (x1.fI.length : Int)) else if x1.fType = 9 then (tens_Check_k1 fu x1 x3 (x1.fB.length : Int)) else tens_Check_k1 fu x1 x3 (x1.fF.length : Int)) else some x3.2) else some 5

/-! lattice/tens.own[int] -/
def tens_own_int (fu : Nat) (x1 : List Int) : Option (List Int) :=
  chk ((x1.length : Int) * 8 ≤ 140737488355328) <| some x1

/-! lattice/tens.own[uint32] -/
def tens_own_uint32 (fu : Nat) (x1 : List Int) : Option (List Int) :=
  chk ((x1.length : Int) * 4 ≤ 140737488355328) <| some x1

/-! lattice/tens.own[int64] -/
def tens_own_int64 (fu : Nat) (x1 : List Int) : Option (List Int) :=
  chk ((x1.length : Int) * 8 ≤ 140737488355328) <| some x1

/-! lattice/tens.own[bool] -/
def tens_own_bool (fu : Nat) (x1 : List Bool) : Option (List Bool) :=
  chk ((x1.length : Int) * 1 ≤ 140737488355328) <| some x1

/-! lattice/tens.Copy -/
def tens_Copy (fu : Nat) (x1 : T_Tensor) : Option T_Tensor :=
  (tens_own_int fu x1.fDims).bind fun x2 => (tens_own_uint32 fu x1.fF).bind fun x3 => (tens_own_int64 fu x1.fI).bind fun x4 => (tens_own_bool fu x1.fB).bind fun x5 => some (T_Tensor.mk x1.fType x2 x3 x4 x5)

/-! lattice/soft.Abs -/
def soft_Abs (fu : Nat) (x1 : Int) : Option Int :=
  some (bandn .u32 x1 2147483648)

/-! lattice/soft.NaN -/
def soft_NaN (fu : Nat) (x1 : Int) : Option Bool :=
  (soft_Abs fu x1).bind fun x2 => some (decide (2139095040 < x2))

/-! lattice/soft.Canon -/
def soft_Canon (fu : Nat) (x1 : Int) : Option Int :=
  (soft_NaN fu x1).bind fun x2 => if x2 = true then (some 2143289344) else some x1

/-! lattice/tens.Canon -/
def tens_Canon_L1 (fu : Nat) (x2 : T_Tensor) (nx1 : (List Int) → Int → Option T_Tensor) (x5 : List Int) (x6 : Int) : Option T_Tensor :=
  if x6 < ((x2.fF.length : Nat) : Int) then ((at? x5 x6).bind fun x9 => (soft_Canon fu x9).bind fun x10 => chk (0 ≤ x6 ∧ x6 < (x5.length : Int)) <| nx1 (x5.set x6.toNat x10) (wk .i64 (x6 + 1))) else some (T_Tensor.mk x2.fType x2.fDims x5 x2.fI x2.fB)
def tens_Canon_W1 (fu : Nat) (x2 : T_Tensor) (x5 : List Int) (x6 : Int) : Option T_Tensor :=
  cloop (fun next s => tens_Canon_L1 fu x2 (fun x5 x6 => next (x5, x6)) s.1 s.2) fu (x5, x6)
def tens_Canon (fu : Nat) (x1 : T_Tensor) : Option T_Tensor :=
  (tens_Copy fu x1).bind fun x2 => tens_Canon_W1 fu x2 x2.fF 0

/-! slices.Clone[[]int,int] -/
def slices_Clone_int (fu : Nat) (x1 : List Int) : Option (List Int) :=
  chk ((x1.length : Int) * 8 ≤ 140737488355328) <| some x1

/-! lattice/ewise.Vals -/
def ewise_Vals_L1 (fu : Nat) (x1 : List T_Tensor) (nx1 : (List T_Val) → Int → Option (List T_Val)) (x5 : List T_Val) (x6 : Int) : Option (List T_Val) :=
  if x6 < (x1.length : Int) then ((at? x1 x6).bind fun x10 => if x10.fType = 0 then (chk ((x5.length + 1 : Int) * 144 ≤ 140737488355328) <| nx1 (x5 ++ ([T_Val.mk 0 ([]) false (T_Tensor.mk 0 ([]) ([]) ([]) ([]))])) (wk .i64 (x6 + 1))) else (slices_Clone_int fu x10.fDims).bind fun x11 => (tens_Copy fu x10).bind fun x12 => chk ((x5.length + 1 : Int) * 144 ≤ 140737488355328) <| nx1 (x5 ++ ([T_Val.mk x10.fType x11 true x12])) (wk .i64 (x6 + 1))) else some x5
def ewise_Vals_W1 (fu : Nat) (x1 : List T_Tensor) (x5 : List T_Val) (x6 : Int) : Option (List T_Val) :=
  cloop (fun next s => ewise_Vals_L1 fu x1 (fun x5 x6 => next (x5, x6)) s.1 s.2) fu (x5, x6)
def ewise_Vals (fu : Nat) (x1 : List T_Tensor) : Option (List T_Val) :=
  ewise_Vals_W1 fu x1 ([] : List T_Val) 0

/-! lattice/ops.Arity -/
def ops_Arity (fu : Nat) (x1 : Int) : Option (Int × Int × Int × Int) :=
  chk (x1 = 73) <| some (2, 2, 1, 1)

/-! (lattice/infer.ask).val -/
def infer_ask_val (fu : Nat) (x1 : T_infer_ask) (x2 : Int) : Option T_Val :=
  chk (x1.fop = 73) <| if x2 < (x1.fin.length : Int) then ((at? x1.fin x2).bind fun x3 => some x3) else some (T_Val.mk 0 ([]) false (T_Tensor.mk 0 ([]) ([]) ([]) ([])))

/-! (lattice/infer.ask).has -/
def infer_ask_has (fu : Nat) (x1 : T_infer_ask) (x2 : Int) : Option Bool :=
  chk (x1.fop = 73) <| (infer_ask_val fu (T_infer_ask.mk 73 x1.fs x1.fin x1.fouts) x2).bind fun x3 => some (!(decide (x3.fType = 0)))

/-! (lattice/infer.ask).complete -/
def infer_ask_complete_L1 (fu : Nat) (x1 : T_infer_ask) (x2 : Int × Int × Int × Int) (nx1 : Int → Option Bool) (x4 : Int) : Option Bool :=
  if x4 < x2.1 then ((infer_ask_has fu (T_infer_ask.mk 73 x1.fs x1.fin x1.fouts) x4).bind fun x6 => if x6 = true then (nx1 (wk .i64 (x4 + 1))) else some false) else some true
def infer_ask_complete_W1 (fu : Nat) (x1 : T_infer_ask) (x2 : Int × Int × Int × Int) (x4 : Int) : Option Bool :=
  cloop (fun next s => infer_ask_complete_L1 fu x1 x2 next s) fu x4
def infer_ask_complete_k1 (fu : Nat) (x1 : T_infer_ask) (x2 : Int × Int × Int × Int) : Option Bool :=
  infer_ask_complete_W1 fu x1 x2 0
def infer_ask_complete (fu : Nat) (x1 : T_infer_ask) : Option Bool :=
  chk (x1.fop = 73) <| (ops_Arity fu 73).bind fun x2 => if x2.2.2.1 = 0 then (some false) else if (x1.fin.length : Int) < x2.1 then (some false) else if x2.2.1 < (x1.fin.length : Int) then (some false) else if x1.fouts < x2.2.2.1 then (some false) else if x2.2.2.2 < x1.fouts then (some false) else infer_ask_complete_k1 fu x1 x2

/-! lattice/infer.sorts -/
def infer_sorts_k5 (fu : Nat) : Option ByteArray :=
  some (⟨#[102]⟩ : ByteArray)
def infer_sorts_k4 (fu : Nat) : Option ByteArray :=
  infer_sorts_k5 fu
def infer_sorts_k3 (fu : Nat) : Option ByteArray :=
  infer_sorts_k4 fu
def infer_sorts_k2 (fu : Nat) : Option ByteArray :=
  infer_sorts_k3 fu
def infer_sorts_k1 (fu : Nat) : Option ByteArray :=
  infer_sorts_k2 fu
def infer_sorts (fu : Nat) (x1 : Int) : Option ByteArray :=
  chk (x1 = 73) <| infer_sorts_k1 fu

/-! (lattice/infer.ask).fits -/
def infer_ask_fits_k1 (fu : Nat) (x5 : Bool) : Option Bool :=
  some x5
def infer_ask_fits (fu : Nat) (x1 : T_infer_ask) (x2 : Int) (x3 : Int) : Option Bool :=
  chk (x1.fop = 73) <| (infer_ask_val fu (T_infer_ask.mk 73 x1.fs x1.fin x1.fouts) x2).bind fun x4 => if x3 = 110 then (if x4.fType = 1 then (infer_ask_fits_k1 fu true) else infer_ask_fits_k1 fu (decide (x4.fType = 7))) else if x3 = 102 then (some (decide (x4.fType = 1))) else if x3 = 98 then (some (decide (x4.fType = 9))) else if x3 = 105 then (some (decide (x4.fType = 7))) else if x3 = 61 then ((infer_ask_val fu (T_infer_ask.mk 73 x1.fs x1.fin x1.fouts) 0).bind fun x6 => some (decide (x4.fType = x6.fType))) else if x3 = 43 then ((infer_ask_val fu (T_infer_ask.mk 73 x1.fs x1.fin x1.fouts) (wk .i64 (x2 - 1))).bind fun x7 => some (decide (x4.fType = x7.fType))) else (tens_Width fu x4.fType).bind fun x8 => some (decide (0 < x8))

/-! (lattice/infer.ask).typed -/
def infer_ask_typed_k1 (fu : Nat) : Option Bool :=
  some true
def infer_ask_typed_L1 (fu : Nat) (x1 : T_infer_ask) (x2 : ByteArray) (nx1 : Int → Option Bool) (x8 : Int) : Option Bool :=
  if x8 < (x1.fin.length : Int) then ((infer_ask_has fu (T_infer_ask.mk 73 x1.fs x1.fin x1.fouts) x8).bind fun x14 => if x14 = true then ((infer_ask_val fu (T_infer_ask.mk 73 x1.fs x1.fin x1.fouts) x8).bind fun x15 => (tens_Width fu x15.fType).bind fun x16 => if x16 = 0 then (some false) else (sat? x2 (imin x8 (wk .i64 ((x2.size : Int) - 1)))).bind fun x17 => (infer_ask_fits fu (T_infer_ask.mk 73 x1.fs x1.fin x1.fouts) x8 x17).bind fun x18 => if x18 = true then (nx1 (wk .i64 (x8 + 1))) else some false) else nx1 (wk .i64 (x8 + 1))) else infer_ask_typed_k1 fu
def infer_ask_typed_W1 (fu : Nat) (x1 : T_infer_ask) (x2 : ByteArray) (x8 : Int) : Option Bool :=
  cloop (fun next s => infer_ask_typed_L1 fu x1 x2 next s) fu x8
def infer_ask_typed (fu : Nat) (x1 : T_infer_ask) : Option Bool :=
  chk (x1.fop = 73) <| (infer_sorts fu 73).bind fun x2 => infer_ask_typed_W1 fu x1 x2 0

/-! (lattice/infer.ask).dims -/
def infer_ask_dims (fu : Nat) (x1 : T_infer_ask) (x2 : Int) : Option (List Int) :=
  chk (x1.fop = 73) <| (infer_ask_val fu (T_infer_ask.mk 73 x1.fs x1.fin x1.fouts) x2).bind fun x3 => some x3.fDims

/-! (lattice/infer.ask).rank -/
def infer_ask_rank (fu : Nat) (x1 : T_infer_ask) : Option Int :=
  chk (x1.fop = 73) <| (infer_ask_dims fu (T_infer_ask.mk 73 x1.fs x1.fin x1.fouts) 0).bind fun x2 => some (x2.length : Int)

/-! (lattice/infer.ask).attributes -/
def infer_ask_attributes_k2 (fu : Nat) : Option Bool :=
  some true
def infer_ask_attributes_k1 (fu : Nat) : Option Bool :=
  infer_ask_attributes_k2 fu
def infer_ask_attributes (fu : Nat) (x1 : T_infer_ask) : Option Bool :=
  chk (x1.fop = 73) <| (infer_ask_rank fu (T_infer_ask.mk 73 x1.fs x1.fin x1.fouts)).bind fun x2 => infer_ask_attributes_k1 fu

/-! (lattice/infer.ask).lists -/
def infer_ask_lists_k1 (fu : Nat) : Option (List T_Val) :=
  some ([])
def infer_ask_lists (fu : Nat) (x1 : T_infer_ask) : Option (List T_Val) :=
  chk (x1.fop = 73) <| infer_ask_lists_k1 fu

/-! slices.IndexFunc[[]lattice/api.Val,lattice/api.Val] -/
def slices_IndexFunc_api_Val_api_Val_L1 (fu : Nat) (p1 : T_Val → Option Bool) (x1 : List T_Val) (nx1 : Int → Option Int) (x4 : Int) : Option Int :=
  if x4 < (x1.length : Int) then ((at? x1 x4).bind fun x7 => (p1 x7).bind fun x8 => if x8 = true then (some x4) else nx1 (wk .i64 (x4 + 1))) else some (-1)
def slices_IndexFunc_api_Val_api_Val_W1 (fu : Nat) (p1 : T_Val → Option Bool) (x1 : List T_Val) (x4 : Int) : Option Int :=
  cloop (fun next s => slices_IndexFunc_api_Val_api_Val_L1 fu p1 x1 next s) fu x4
def slices_IndexFunc_api_Val_api_Val (fu : Nat) (x1 : List T_Val) (p1 : T_Val → Option Bool) : Option Int :=
  slices_IndexFunc_api_Val_api_Val_W1 fu p1 x1 0

/-! slices.ContainsFunc[[]lattice/api.Val,lattice/api.Val] -/
def slices_ContainsFunc_api_Val_api_Val (fu : Nat) (x1 : List T_Val) (p1 : T_Val → Option Bool) : Option Bool :=
  (slices_IndexFunc_api_Val_api_Val fu x1 p1).bind fun x2 => some (decide (0 ≤ x2))

/-! slices.Equal[[]int,int] -/
def slices_Equal_int_L1 (fu : Nat) (x1 : List Int) (x2 : List Int) (nx1 : Int → Option Bool) (x5 : Int) : Option Bool :=
  if x5 < (x1.length : Int) then ((at? x1 x5).bind fun x8 => (at? x2 x5).bind fun x9 => if x8 = x9 then (nx1 (wk .i64 (x5 + 1))) else some false) else some true
def slices_Equal_int_W1 (fu : Nat) (x1 : List Int) (x2 : List Int) (x5 : Int) : Option Bool :=
  cloop (fun next s => slices_Equal_int_L1 fu x1 x2 next s) fu x5
def slices_Equal_int (fu : Nat) (x1 : List Int) (x2 : List Int) : Option Bool :=
  if (x1.length : Int) = (x2.length : Int) then (slices_Equal_int_W1 fu x1 x2 0) else some false

/-! lattice/infer.held -/
def infer_held (fu : Nat) (x1 : T_Val) : Option Bool :=
  if x1.fConst = true then ((tens_Check fu x1.fT).bind fun x2 => if x2 = 0 then (if x1.fT.fType = x1.fType then ((slices_Equal_int fu x1.fT.fDims x1.fDims).bind fun x3 => some x3) else some false) else some false) else some false

/-! (lattice/infer.ask).told$1 -/
def infer_ask_told_1 (fu : Nat) (x1 : T_Val) : Option Bool :=
  (infer_held fu x1).bind fun x2 => some (!x2)

/-! (lattice/infer.ask).told$2 -/
def infer_ask_told_2 (fu : Nat) (x1 : T_Val) : Option Bool :=
  some (!(decide ((x1.fDims.length : Int) = 1)))

/-! slices.IndexFunc[[]int64,int64] -/
def slices_IndexFunc_int64_L1 (fu : Nat) (p1 : Int → Option Bool) (x1 : List Int) (nx1 : Int → Option Int) (x4 : Int) : Option Int :=
  if x4 < (x1.length : Int) then ((at? x1 x4).bind fun x7 => (p1 x7).bind fun x8 => if x8 = true then (some x4) else nx1 (wk .i64 (x4 + 1))) else some (-1)
def slices_IndexFunc_int64_W1 (fu : Nat) (p1 : Int → Option Bool) (x1 : List Int) (x4 : Int) : Option Int :=
  cloop (fun next s => slices_IndexFunc_int64_L1 fu p1 x1 next s) fu x4
def slices_IndexFunc_int64 (fu : Nat) (x1 : List Int) (p1 : Int → Option Bool) : Option Int :=
  slices_IndexFunc_int64_W1 fu p1 x1 0

/-! slices.ContainsFunc[[]int64,int64] -/
def slices_ContainsFunc_int64 (fu : Nat) (x1 : List Int) (p1 : Int → Option Bool) : Option Bool :=
  (slices_IndexFunc_int64 fu x1 p1).bind fun x2 => some (decide (0 ≤ x2))

/-! (lattice/infer.ask).told$3$1 -/
def infer_ask_told_3_1 (fu : Nat) (x1 : Int) : Option Bool :=
  some (decide (4096 < x1))

/-! (lattice/infer.ask).told$3 -/
def infer_ask_told_3 (fu : Nat) (x1 : T_Val) : Option Bool :=
  (slices_ContainsFunc_int64 fu x1.fT.fI (fun y0 => infer_ask_told_3_1 fu y0)).bind fun x2 => some x2

/-! (lattice/infer.ask).told -/
def infer_ask_told (fu : Nat) (x1 : T_infer_ask) : Option Int :=
  chk (x1.fop = 73) <| (infer_ask_lists fu (T_infer_ask.mk 73 x1.fs x1.fin x1.fouts)).bind fun x2 => (slices_ContainsFunc_api_Val_api_Val fu x2 (fun y0 => infer_ask_told_1 fu y0)).bind fun x3 => if x3 = true then (some 15) else (slices_ContainsFunc_api_Val_api_Val fu x2 (fun y0 => infer_ask_told_2 fu y0)).bind fun x4 => if x4 = true then (some 3) else (slices_ContainsFunc_api_Val_api_Val fu x2 (fun y0 => infer_ask_told_3 fu y0)).bind fun x5 => if x5 = true then (some 4) else some 0

/-! (lattice/infer.ask).wrong -/
def infer_ask_wrong_k1 (fu : Nat) (x1 : T_infer_ask) : Option Int :=
  (infer_ask_typed fu (T_infer_ask.mk 73 x1.fs x1.fin x1.fouts)).bind fun x2 => if x2 = true then ((infer_ask_attributes fu (T_infer_ask.mk 73 x1.fs x1.fin x1.fouts)).bind fun x3 => if x3 = true then ((infer_ask_told fu (T_infer_ask.mk 73 x1.fs x1.fin x1.fouts)).bind fun x4 => some x4) else some 14) else some 5
def infer_ask_wrong_L1 (fu : Nat) (x1 : T_infer_ask) (nx1 : Int → Option Int) (x8 : Int) : Option Int :=
  if x8 < (x1.fin.length : Int) then ((at? x1.fin x8).bind fun x12 => (shape_Size fu x12.fDims).bind fun x13 => (infer_ask_has fu (T_infer_ask.mk 73 x1.fs x1.fin x1.fouts) x8).bind fun x14 => if x14 = true then (if x13.2 = 0 then (nx1 (wk .i64 (x8 + 1))) else some 4) else nx1 (wk .i64 (x8 + 1))) else infer_ask_wrong_k1 fu x1
def infer_ask_wrong_W1 (fu : Nat) (x1 : T_infer_ask) (x8 : Int) : Option Int :=
  cloop (fun next s => infer_ask_wrong_L1 fu x1 next s) fu x8
def infer_ask_wrong (fu : Nat) (x1 : T_infer_ask) : Option Int :=
  chk (x1.fop = 73) <| infer_ask_wrong_W1 fu x1 0

/-! lattice/infer.misfit -/
def infer_misfit (fu : Nat) : Option ((List (List Int)) × Int) :=
  some ([], 3)

/-! lattice/shape.Broadcast -/
def shape_Broadcast_k3 (fu : Nat) (x7 : List Int) : Option ((List Int) × Int) :=
  (shape_Size fu x7).bind fun x8 => if x8.2 = 0 then (some (x7, 0)) else some ([], x8.2)
def shape_Broadcast_L1 (fu : Nat) (x4 : List Int) (x5 : List Int) (nx1 : (List Int) → Int → Option ((List Int) × Int)) (x11 : List Int) (x12 : Int) : Option ((List Int) × Int) :=
  if x12 < (x5.length : Int) then ((at? x5 x12).bind fun x15 => (at? x11 (wk .i64 ((wk .i64 ((x4.length : Int) - (x5.length : Int))) + x12))).bind fun x16 => if x16 = 1 then (chk (0 ≤ wk .i64 ((wk .i64 ((x4.length : Int) - (x5.length : Int))) + x12) ∧ wk .i64 ((wk .i64 ((x4.length : Int) - (x5.length : Int))) + x12) < (x11.length : Int)) <| nx1 (x11.set (wk .i64 ((wk .i64 ((x4.length : Int) - (x5.length : Int))) + x12)).toNat x15) (wk .i64 (x12 + 1))) else if x15 = 1 then (nx1 x11 (wk .i64 (x12 + 1))) else if x15 = x16 then (nx1 x11 (wk .i64 (x12 + 1))) else some ([], 3)) else shape_Broadcast_k3 fu x11
def shape_Broadcast_W1 (fu : Nat) (x4 : List Int) (x5 : List Int) (x11 : List Int) (x12 : Int) : Option ((List Int) × Int) :=
  cloop (fun next s => shape_Broadcast_L1 fu x4 x5 (fun x11 x12 => next (x11, x12)) s.1 s.2) fu (x11, x12)
def shape_Broadcast_k2 (fu : Nat) (x4 : List Int) (x5 : List Int) : Option ((List Int) × Int) :=
  (slices_Clone_int fu x4).bind fun x6 => shape_Broadcast_W1 fu x4 x5 x6 0
def shape_Broadcast_k1 (fu : Nat) (x1 : List Int) (x2 : List Int) (x3 : List (List Int)) : Option ((List Int) × Int) :=
  if (x1.length : Int) < (x2.length : Int) then (shape_Broadcast_k2 fu x2 x1) else shape_Broadcast_k2 fu x1 x2
def shape_Broadcast_L2 (fu : Nat) (x1 : List Int) (x2 : List Int) (nx2 : (List (List Int)) → Int → Option ((List Int) × Int)) (x19 : List (List Int)) (x20 : Int) : Option ((List Int) × Int) :=
  if x20 < 2 then ((at? x19 x20).bind fun x23 => (shape_Size fu x23).bind fun x24 => if x24.2 = 0 then (nx2 x19 (wk .i64 (x20 + 1))) else some ([], x24.2)) else shape_Broadcast_k1 fu x1 x2 x19
def shape_Broadcast_W2 (fu : Nat) (x1 : List Int) (x2 : List Int) (x19 : List (List Int)) (x20 : Int) : Option ((List Int) × Int) :=
  cloop (fun next s => shape_Broadcast_L2 fu x1 x2 (fun x19 x20 => next (x19, x20)) s.1 s.2) fu (x19, x20)
def shape_Broadcast (fu : Nat) (x1 : List Int) (x2 : List Int) : Option ((List Int) × Int) :=
  shape_Broadcast_W2 fu x1 x2 ([x1, x2]) 0

/-! lattice/infer.one -/
def infer_one (fu : Nat) (x1 : List Int) : Option ((List (List Int)) × Int) :=
  some ([x1], 0)

/-! (lattice/infer.ask).product -/
def infer_ask_product_k5 (fu : Nat) (x12 : List Int) : Option ((List (List Int)) × Int) :=
  (infer_one fu x12).bind fun x13 => some (x13.1, x13.2)
def infer_ask_product_k4 (fu : Nat) (x6 : List Int) (x7 : Bool) (x11 : List Int) : Option ((List (List Int)) × Int) :=
  if x7 = true then (infer_ask_product_k5 fu x11) else (at? x6 (wk .i64 ((wk .i64 ((x6.length : Int) - 2)) + 1))).bind fun x14 => chk ((x11.length + 1 : Int) * 8 ≤ 140737488355328) <| infer_ask_product_k5 fu (x11 ++ ([x14]))
def infer_ask_product_k3 (fu : Nat) (x4 : List Int) (x5 : Bool) (x6 : List Int) (x7 : Bool) : Option ((List (List Int)) × Int) :=
  (at? x4 (wk .i64 ((wk .i64 ((x4.length : Int) - 2)) + 1))).bind fun x8 => (at? x6 (wk .i64 ((x6.length : Int) - 2))).bind fun x9 => if x8 = x9 then (chk (0 ≤ wk .i64 ((x4.length : Int) - 2) ∧ wk .i64 ((x4.length : Int) - 2) ≤ (x4.length : Int)) <| chk (0 ≤ wk .i64 ((x6.length : Int) - 2) ∧ wk .i64 ((x6.length : Int) - 2) ≤ (x6.length : Int)) <| (shape_Broadcast fu (subN x4 0 (wk .i64 ((x4.length : Int) - 2)).toNat) (subN x6 0 (wk .i64 ((x6.length : Int) - 2)).toNat)).bind fun x10 => if x10.2 = 0 then (if x5 = true then (infer_ask_product_k4 fu x6 x7 x10.1) else (at? x4 (wk .i64 ((x4.length : Int) - 2))).bind fun x15 => chk ((x10.1.length + 1 : Int) * 8 ≤ 140737488355328) <| infer_ask_product_k4 fu x6 x7 (x10.1 ++ ([x15]))) else some ([], x10.2)) else (infer_misfit fu).bind fun x16 => some (x16.1, x16.2)
def infer_ask_product_k2 (fu : Nat) (x3 : List Int) (x4 : List Int) (x5 : Bool) : Option ((List (List Int)) × Int) :=
  if (x3.length : Int) = 1 then ((at? x3 0).bind fun x17 => infer_ask_product_k3 fu x4 x5 ([x17, 1]) true) else infer_ask_product_k3 fu x4 x5 x3 false
def infer_ask_product_k1 (fu : Nat) (x2 : List Int) (x3 : List Int) : Option ((List (List Int)) × Int) :=
  if (x2.length : Int) = 1 then ((at? x2 0).bind fun x18 => infer_ask_product_k2 fu x3 ([1, x18]) true) else infer_ask_product_k2 fu x3 x2 false
def infer_ask_product (fu : Nat) (x1 : T_infer_ask) : Option ((List (List Int)) × Int) :=
  chk (x1.fop = 73) <| (infer_ask_dims fu (T_infer_ask.mk 73 x1.fs x1.fin x1.fouts) 0).bind fun x2 => (infer_ask_dims fu (T_infer_ask.mk 73 x1.fs x1.fin x1.fouts) 1).bind fun x3 => if (x2.length : Int) = 0 then ((infer_misfit fu).bind fun x19 => some (x19.1, x19.2)) else if (x3.length : Int) = 0 then ((infer_misfit fu).bind fun x20 => some (x20.1, x20.2)) else infer_ask_product_k1 fu x2 x3

/-! (lattice/infer.ask).shapes -/
def infer_ask_shapes_k3 (fu : Nat) (x1 : T_infer_ask) : Option ((List (List Int)) × Int) :=
  (infer_ask_product fu (T_infer_ask.mk 73 x1.fs x1.fin x1.fouts)).bind fun x3 => some (x3.1, x3.2)
def infer_ask_shapes_k2 (fu : Nat) (x1 : T_infer_ask) : Option ((List (List Int)) × Int) :=
  infer_ask_shapes_k3 fu x1
def infer_ask_shapes_k1 (fu : Nat) (x1 : T_infer_ask) : Option ((List (List Int)) × Int) :=
  infer_ask_shapes_k2 fu x1
def infer_ask_shapes (fu : Nat) (x1 : T_infer_ask) : Option ((List (List Int)) × Int) :=
  chk (x1.fop = 73) <| (infer_ask_dims fu (T_infer_ask.mk 73 x1.fs x1.fin x1.fouts) 0).bind fun x2 => infer_ask_shapes_k1 fu x1

/-! (lattice/infer.ask).out -/
def infer_ask_out_k1 (fu : Nat) (x1 : T_infer_ask) : Option Int :=
  (infer_ask_val fu (T_infer_ask.mk 73 x1.fs x1.fin x1.fouts) 0).bind fun x2 => some x2.fType
def infer_ask_out_k3 (fu : Nat) (x1 : T_infer_ask) : Option Int :=
  infer_ask_out_k1 fu x1
def infer_ask_out_k2 (fu : Nat) (x1 : T_infer_ask) : Option Int :=
  infer_ask_out_k3 fu x1
def infer_ask_out (fu : Nat) (x1 : T_infer_ask) : Option Int :=
  chk (x1.fop = 73) <| infer_ask_out_k2 fu x1

/-! lattice/infer.Node -/
def infer_Node_L1 (fu : Nat) (x2 : T_Setting) (x3 : List T_Val) (x4 : Int) (x7 : (List (List Int)) × Int) (nx1 : (List T_Val) → Int → Option ((List T_Val) × Int)) (x12 : List T_Val) (x13 : Int) : Option ((List T_Val) × Int) :=
  if x13 < (x7.1.length : Int) then ((at? x7.1 x13).bind fun x18 => (shape_Size fu x18).bind fun x19 => if x19.2 = 0 then ((infer_ask_out fu (T_infer_ask.mk 73 x2 x3 x4)).bind fun x20 => (slices_Clone_int fu x18).bind fun x21 => chk ((x12.length + 1 : Int) * 144 ≤ 140737488355328) <| nx1 (x12 ++ ([T_Val.mk x20 x21 false (T_Tensor.mk 0 ([]) ([]) ([]) ([]))])) (wk .i64 (x13 + 1))) else some ([], 4)) else some (x12, 0)
def infer_Node_W1 (fu : Nat) (x2 : T_Setting) (x3 : List T_Val) (x4 : Int) (x7 : (List (List Int)) × Int) (x12 : List T_Val) (x13 : Int) : Option ((List T_Val) × Int) :=
  cloop (fun next s => infer_Node_L1 fu x2 x3 x4 x7 (fun x12 x13 => next (x12, x13)) s.1 s.2) fu (x12, x13)
def infer_Node (fu : Nat) (x1 : Int) (x2 : T_Setting) (x3 : List T_Val) (x4 : Int) : Option ((List T_Val) × Int) :=
  chk (x1 = 73) <| (infer_ask_complete fu (T_infer_ask.mk 73 x2 x3 x4)).bind fun x5 => if x5 = true then ((infer_ask_wrong fu (T_infer_ask.mk 73 x2 x3 x4)).bind fun x6 => if x6 = 0 then ((infer_ask_shapes fu (T_infer_ask.mk 73 x2 x3 x4)).bind fun x7 => if x7.2 = 0 then (infer_Node_W1 fu x2 x3 x4 x7 ([] : List T_Val) 0) else some ([], x7.2)) else some ([], x6)) else some ([], 1)

/-! lattice/shape.strides -/
def shape_strides_L1 (fu : Nat) (x1 : List Int) (nx1 : (List Int) → Int → Int → Option (List Int)) (x3 : List Int) (x4 : Int) (x5 : Int) : Option (List Int) :=
  if 0 ≤ x5 then (chk (0 ≤ x5 ∧ x5 < (x3.length : Int)) <| (at? x1 x5).bind fun x7 => nx1 (x3.set x5.toNat x4) (wk .i64 (x4 * x7)) (wk .i64 (x5 - 1))) else some x3
def shape_strides_W1 (fu : Nat) (x1 : List Int) (x3 : List Int) (x4 : Int) (x5 : Int) : Option (List Int) :=
  cloop (fun next s => shape_strides_L1 fu x1 (fun x3 x4 x5 => next (x3, x4, x5)) s.1 s.2.1 s.2.2) fu (x3, x4, x5)
def shape_strides (fu : Nat) (x1 : List Int) : Option (List Int) :=
  chk (0 ≤ (x1.length : Int) ∧ (x1.length : Int) * 8 ≤ 140737488355328) <| shape_strides_W1 fu x1 (List.replicate (x1.length : Int).toNat (0 : Int)) 1 (wk .i64 ((x1.length : Int) - 1))

/-! lattice/shape.Index -/
def shape_Index_L1 (fu : Nat) (x4 : List Int) (nx1 : (List Int) → Int → Int → Option ((List Int) × Int)) (x6 : List Int) (x7 : Int) (x8 : Int) : Option ((List Int) × Int) :=
  if x8 < (x4.length : Int) then ((at? x4 x8).bind fun x10 => chk (x10 ≠ 0) <| chk (0 ≤ x8 ∧ x8 < (x6.length : Int)) <| nx1 (x6.set x8.toNat (wk .i64 (Int.tdiv x7 x10))) (Int.tmod x7 x10) (wk .i64 (x8 + 1))) else some (x6, 0)
def shape_Index_W1 (fu : Nat) (x4 : List Int) (x6 : List Int) (x7 : Int) (x8 : Int) : Option ((List Int) × Int) :=
  cloop (fun next s => shape_Index_L1 fu x4 (fun x6 x7 x8 => next (x6, x7, x8)) s.1 s.2.1 s.2.2) fu (x6, x7, x8)
def shape_Index_k1 (fu : Nat) (x1 : List Int) (x2 : Int) : Option ((List Int) × Int) :=
  chk (0 ≤ (x1.length : Int) ∧ (x1.length : Int) * 8 ≤ 140737488355328) <| (shape_strides fu x1).bind fun x4 => shape_Index_W1 fu x4 (List.replicate (x1.length : Int).toNat (0 : Int)) x2 0
def shape_Index (fu : Nat) (x1 : List Int) (x2 : Int) : Option ((List Int) × Int) :=
  (shape_Size fu x1).bind fun x3 => if x3.2 = 0 then (if x2 < 0 then (some ([], 2)) else if x3.1 ≤ x2 then (some ([], 2)) else shape_Index_k1 fu x1 x2) else some ([], x3.2)

/-! lattice/shape.From -/
def shape_From_L1 (fu : Nat) (x1 : List Int) (x2 : List Int) (x7 : (List Int) × Int) (x8 : List Int) (nx1 : Int → Int → Option (Int × Int)) (x12 : Int) (x13 : Int) : Option (Int × Int) :=
  if x13 < (x8.length : Int) then ((at? x8 x13).bind fun x17 => (at? x1 x13).bind fun x18 => if x18 = 1 then (nx1 x12 (wk .i64 (x13 + 1))) else (at? (subN x7.1 (wk .i64 ((x2.length : Int) - (x1.length : Int))).toNat x7.1.length) x13).bind fun x19 => nx1 (wk .i64 (x12 + (wk .i64 (x19 * x17)))) (wk .i64 (x13 + 1))) else some (x12, 0)
def shape_From_W1 (fu : Nat) (x1 : List Int) (x2 : List Int) (x7 : (List Int) × Int) (x8 : List Int) (x12 : Int) (x13 : Int) : Option (Int × Int) :=
  cloop (fun next s => shape_From_L1 fu x1 x2 x7 x8 (fun x12 x13 => next (x12, x13)) s.1 s.2) fu (x12, x13)
def shape_From_k1 (fu : Nat) (x1 : List Int) (x2 : List Int) (x3 : Int) : Option (Int × Int) :=
  (shape_Index fu x2 x3).bind fun x7 => if x7.2 = 0 then (chk (0 ≤ wk .i64 ((x2.length : Int) - (x1.length : Int)) ∧ wk .i64 ((x2.length : Int) - (x1.length : Int)) ≤ (x7.1.length : Int)) <| (shape_strides fu x1).bind fun x8 => shape_From_W1 fu x1 x2 x7 x8 0 0) else some (0, x7.2)
def shape_From (fu : Nat) (x1 : List Int) (x2 : List Int) (x3 : Int) : Option (Int × Int) :=
  (shape_Size fu x1).bind fun x4 => if x4.2 = 0 then ((shape_Size fu x2).bind fun x5 => if x5.2 = 0 then ((shape_Broadcast fu x1 x2).bind fun x6 => if x6.2 = 0 then ((slices_Equal_int fu x6.1 x2).bind fun x20 => if x20 = true then (shape_From_k1 fu x1 x2 x3) else some (0, 3)) else some (0, 3)) else some (0, x5.2)) else some (0, x4.2)

/-! (lattice/mat.line[uint32]).list -/
def mat_line_uint32_list_L1 (fu : Nat) (x1 : T_mat_line_uint32) (nx1 : (List Int) → Int → Option (List Int)) (x3 : List Int) (x4 : Int) : Option (List Int) :=
  if x4 < x1.fn then ((at? x1.fl (wk .i64 (x1.ffirst + (wk .i64 (x4 * x1.fstride))))).bind fun x6 => chk ((x3.length + 1 : Int) * 4 ≤ 140737488355328) <| nx1 (x3 ++ ([x6])) (wk .i64 (x4 + 1))) else some x3
def mat_line_uint32_list_W1 (fu : Nat) (x1 : T_mat_line_uint32) (x3 : List Int) (x4 : Int) : Option (List Int) :=
  cloop (fun next s => mat_line_uint32_list_L1 fu x1 (fun x3 x4 => next (x3, x4)) s.1 s.2) fu (x3, x4)
def mat_line_uint32_list (fu : Nat) (x1 : T_mat_line_uint32) : Option (List Int) :=
  mat_line_uint32_list_W1 fu x1 ([] : List Int) 0

/-! (lattice/mat.grid).down -/
def mat_grid_down (fu : Nat) (x1 : T_mat_grid) (x2 : Int) : Option (List Int) :=
  (mat_line_uint32_list fu (T_mat_line_uint32.mk x1.fl (wk .i64 (x1.fat + (wk .i64 (x2 * x1.fcol)))) x1.frow x1.frows)).bind fun x3 => some x3

/-! (lattice/mat.grid).across -/
def mat_grid_across (fu : Nat) (x1 : T_mat_grid) (x2 : Int) : Option (List Int) :=
  (mat_line_uint32_list fu (T_mat_line_uint32.mk x1.fl (wk .i64 (x1.fat + (wk .i64 (x2 * x1.frow)))) x1.fcol x1.fcolumns)).bind fun x3 => some x3

/-! lattice/soft.open -/
def soft_open (fu : Nat) (x1 : Int) : Option T_soft_number :=
  if (wk .i64 (band .u32 (shrk .u32 x1 23) 255)) = 255 then (some (T_soft_number.mk (decide ((shrk .u32 x1 31) = 1)) (!(decide ((wk .u64 (band .u32 x1 8388607)) = 0))) (decide ((wk .u64 (band .u32 x1 8388607)) = 0)) 0 0)) else if (wk .i64 (band .u32 (shrk .u32 x1 23) 255)) = 0 then (some (T_soft_number.mk (decide ((shrk .u32 x1 31) = 1)) false false (-149) (wk .u64 (band .u32 x1 8388607)))) else some (T_soft_number.mk (decide ((shrk .u32 x1 31) = 1)) false false (wk .i64 ((wk .i64 (band .u32 (shrk .u32 x1 23) 255)) - 150)) (bor .u64 (wk .u64 (band .u32 x1 8388607)) 8388608))

/-! lattice/soft.sign -/
def soft_sign (fu : Nat) (x1 : Bool) : Option Int :=
  if x1 = true then (some 2147483648) else some 0

/-! math/bits.Len64 -/
def math_bits_Len64_k2 (fu : Nat) (x4 : Int) (x5 : Int) : Option Int :=
  if 256 ≤ x4 then ((sat? (⟨((([0, 1, 2, 2, 3, 3, 3, 3, 4, 4, 4, 4, 4, 4, 4, 4, 5, 5, 5, 5, 5, 5, 5, 5, 5, 5, 5, 5, 5, 5, 5, 5, 6, 6, 6, 6, 6, 6, 6, 6, 6, 6, 6, 6, 6, 6, 6, 6, 6, 6, 6, 6, 6, 6, 6, 6, 6, 6, 6, 6, 6, 6, 6, 6]).append ([7, 7, 7, 7, 7, 7, 7, 7, 7, 7, 7, 7, 7, 7, 7, 7, 7, 7, 7, 7, 7, 7, 7, 7, 7, 7, 7, 7, 7, 7, 7, 7, 7, 7, 7, 7, 7, 7, 7, 7, 7, 7, 7, 7, 7, 7, 7, 7, 7, 7, 7, 7, 7, 7, 7, 7, 7, 7, 7, 7, 7, 7, 7, 7])).append (([8, 8, 8, 8, 8, 8, 8, 8, 8, 8, 8, 8, 8, 8, 8, 8, 8, 8, 8, 8, 8, 8, 8, 8, 8, 8, 8, 8, 8, 8, 8, 8, 8, 8, 8, 8, 8, 8, 8, 8, 8, 8, 8, 8, 8, 8, 8, 8, 8, 8, 8, 8, 8, 8, 8, 8, 8, 8, 8, 8, 8, 8, 8, 8]).append ([8, 8, 8, 8, 8, 8, 8, 8, 8, 8, 8, 8, 8, 8, 8, 8, 8, 8, 8, 8, 8, 8, 8, 8, 8, 8, 8, 8, 8, 8, 8, 8, 8, 8, 8, 8, 8, 8, 8, 8, 8, 8, 8, 8, 8, 8, 8, 8, 8, 8, 8, 8, 8, 8, 8, 8, 8, 8, 8, 8, 8, 8, 8, 8]))).toArray⟩ : ByteArray) (wk .u8 (shrk .u64 x4 8))).bind fun x6 => some (wk .i64 ((wk .i64 (x5 + 8)) + (wk .i64 x6)))) else (sat? (⟨((([0, 1, 2, 2, 3, 3, 3, 3, 4, 4, 4, 4, 4, 4, 4, 4, 5, 5, 5, 5, 5, 5, 5, 5, 5, 5, 5, 5, 5, 5, 5, 5, 6, 6, 6, 6, 6, 6, 6, 6, 6, 6, 6, 6, 6, 6, 6, 6, 6, 6, 6, 6, 6, 6, 6, 6, 6, 6, 6, 6, 6, 6, 6, 6]).append ([7, 7, 7, 7, 7, 7, 7, 7, 7, 7, 7, 7, 7, 7, 7, 7, 7, 7, 7, 7, 7, 7, 7, 7, 7, 7, 7, 7, 7, 7, 7, 7, 7, 7, 7, 7, 7, 7, 7, 7, 7, 7, 7, 7, 7, 7, 7, 7, 7, 7, 7, 7, 7, 7, 7, 7, 7, 7, 7, 7, 7, 7, 7, 7])).append (([8, 8, 8, 8, 8, 8, 8, 8, 8, 8, 8, 8, 8, 8, 8, 8, 8, 8, 8, 8, 8, 8, 8, 8, 8, 8, 8, 8, 8, 8, 8, 8, 8, 8, 8, 8, 8, 8, 8, 8, 8, 8, 8, 8, 8, 8, 8, 8, 8, 8, 8, 8, 8, 8, 8, 8, 8, 8, 8, 8, 8, 8, 8, 8]).append ([8, 8, 8, 8, 8, 8, 8, 8, 8, 8, 8, 8, 8, 8, 8, 8, 8, 8, 8, 8, 8, 8, 8, 8, 8, 8, 8, 8, 8, 8, 8, 8, 8, 8, 8, 8, 8, 8, 8, 8, 8, 8, 8, 8, 8, 8, 8, 8, 8, 8, 8, 8, 8, 8, 8, 8, 8, 8, 8, 8, 8, 8, 8, 8]))).toArray⟩ : ByteArray) (wk .u8 x4)).bind fun x7 => some (wk .i64 (x5 + (wk .i64 x7)))
def math_bits_Len64_k1 (fu : Nat) (x2 : Int) (x3 : Int) : Option Int :=
  if 65536 ≤ x2 then (math_bits_Len64_k2 fu (shrk .u64 x2 16) (wk .i64 (x3 + 16))) else math_bits_Len64_k2 fu x2 x3
def math_bits_Len64 (fu : Nat) (x1 : Int) : Option Int :=
  if 4294967296 ≤ x1 then (math_bits_Len64_k1 fu (shrk .u64 x1 32) 32) else math_bits_Len64_k1 fu x1 0

/-! lattice/soft.outwards -/
def soft_outwards (fu : Nat) (x1 : Int) (x2 : Bool) : Option Bool :=
  chk (x1 = 0) <| some false

/-! lattice/soft.tiny -/
def soft_tiny (fu : Nat) (x1 : Int) (x2 : Bool) : Option Int :=
  chk (x1 = 0) <| (soft_outwards fu 0 x2).bind fun x3 => if x3 = true then ((soft_sign fu x2).bind fun x4 => some (bor .u32 x4 1)) else (soft_sign fu x2).bind fun x5 => some x5

/-! lattice/soft.huge -/
def soft_huge_k1 (fu : Nat) (x2 : Bool) : Option Int :=
  (soft_sign fu x2).bind fun x3 => some (bor .u32 x3 2139095040)
def soft_huge (fu : Nat) (x1 : Int) (x2 : Bool) : Option Int :=
  chk (x1 = 0) <| soft_huge_k1 fu x2

/-! lattice/soft.Round -/
def soft_Round_k3 (fu : Nat) (x2 : Bool) (x3 : Int) (x6 : Int) (x11 : Int) : Option Int :=
  if x11 = 0 then ((soft_sign fu x2).bind fun x12 => some x12) else if 104 < (wk .i64 (x3 + (imax (wk .i64 (x6 - 24)) (wk .i64 ((-149) - x3))))) then ((soft_huge fu 0 x2).bind fun x13 => some x13) else if 2139095040 ≤ (wk .u64 ((shlk .u64 (wk .u64 (wk .i64 ((wk .i64 (x3 + (imax (wk .i64 (x6 - 24)) (wk .i64 ((-149) - x3))))) + 149))) 23) + x11)) then ((soft_huge fu 0 x2).bind fun x14 => some x14) else (soft_sign fu x2).bind fun x15 => some (bor .u32 x15 (wk .u32 (wk .u64 ((shlk .u64 (wk .u64 (wk .i64 ((wk .i64 (x3 + (imax (wk .i64 (x6 - 24)) (wk .i64 ((-149) - x3))))) + 149))) 23) + x11))))
def soft_Round_k2 (fu : Nat) (x2 : Bool) (x3 : Int) (x6 : Int) (x7 : Int) (x8 : Bool) (x9 : Bool) (x10 : Bool) : Option Int :=
  if x8 = true then (soft_Round_k3 fu x2 x3 x6 (wk .u64 (x7 + 1))) else if x9 = true then (if (band .u64 x7 1) = 1 then (soft_Round_k3 fu x2 x3 x6 (wk .u64 (x7 + 1))) else soft_Round_k3 fu x2 x3 x6 x7) else soft_Round_k3 fu x2 x3 x6 x7
def soft_Round_k4 (fu : Nat) (x2 : Bool) (x3 : Int) (x4 : Int) (x5 : Bool) (x6 : Int) (x16 : Bool) : Option Int :=
  if (band .u64 x4 (wk .u64 ((shlk .u64 1 (imax (wk .i64 (x6 - 24)) (wk .i64 ((-149) - x3)))) - 1))) = (shlk .u64 1 (wk .i64 ((imax (wk .i64 (x6 - 24)) (wk .i64 ((-149) - x3))) - 1))) then (if (band .u64 x4 (wk .u64 ((shlk .u64 1 (imax (wk .i64 (x6 - 24)) (wk .i64 ((-149) - x3)))) - 1))) = 0 then (soft_Round_k2 fu x2 x3 x6 (shrk .u64 x4 (imax (wk .i64 (x6 - 24)) (wk .i64 ((-149) - x3)))) x16 (!x5) x5) else soft_Round_k2 fu x2 x3 x6 (shrk .u64 x4 (imax (wk .i64 (x6 - 24)) (wk .i64 ((-149) - x3)))) x16 (!x5) true) else if (band .u64 x4 (wk .u64 ((shlk .u64 1 (imax (wk .i64 (x6 - 24)) (wk .i64 ((-149) - x3)))) - 1))) = 0 then (soft_Round_k2 fu x2 x3 x6 (shrk .u64 x4 (imax (wk .i64 (x6 - 24)) (wk .i64 ((-149) - x3)))) x16 false x5) else soft_Round_k2 fu x2 x3 x6 (shrk .u64 x4 (imax (wk .i64 (x6 - 24)) (wk .i64 ((-149) - x3)))) x16 false true
def soft_Round_k1 (fu : Nat) (x2 : Bool) (x3 : Int) (x4 : Int) (x5 : Bool) (x6 : Int) : Option Int :=
  if (imax (wk .i64 (x6 - 24)) (wk .i64 ((-149) - x3))) ≤ 0 then (chk (0 ≤ (wk .i64 (0 - (imax (wk .i64 (x6 - 24)) (wk .i64 ((-149) - x3)))))) <| soft_Round_k2 fu x2 x3 x6 (shlk .u64 x4 (wk .i64 (0 - (imax (wk .i64 (x6 - 24)) (wk .i64 ((-149) - x3)))))) false false x5) else if x6 < (imax (wk .i64 (x6 - 24)) (wk .i64 ((-149) - x3))) then (soft_Round_k2 fu x2 x3 x6 0 false false true) else chk (0 ≤ (imax (wk .i64 (x6 - 24)) (wk .i64 ((-149) - x3)))) <| chk (0 ≤ (wk .i64 ((imax (wk .i64 (x6 - 24)) (wk .i64 ((-149) - x3))) - 1))) <| if (shlk .u64 1 (wk .i64 ((imax (wk .i64 (x6 - 24)) (wk .i64 ((-149) - x3))) - 1))) < (band .u64 x4 (wk .u64 ((shlk .u64 1 (imax (wk .i64 (x6 - 24)) (wk .i64 ((-149) - x3)))) - 1))) then (soft_Round_k4 fu x2 x3 x4 x5 x6 true) else if (band .u64 x4 (wk .u64 ((shlk .u64 1 (imax (wk .i64 (x6 - 24)) (wk .i64 ((-149) - x3)))) - 1))) = (shlk .u64 1 (wk .i64 ((imax (wk .i64 (x6 - 24)) (wk .i64 ((-149) - x3))) - 1))) then (soft_Round_k4 fu x2 x3 x4 x5 x6 x5) else soft_Round_k4 fu x2 x3 x4 x5 x6 false
def soft_Round (fu : Nat) (x1 : Int) (x2 : Bool) (x3 : Int) (x4 : Int) (x5 : Bool) : Option Int :=
  chk (x1 = 0) <| (math_bits_Len64 fu x4).bind fun x6 => if x6 = 0 then (if x5 = true then ((soft_tiny fu 0 x2).bind fun x17 => some x17) else (soft_sign fu x2).bind fun x18 => some x18) else if x3 < (-300) then ((soft_tiny fu 0 x2).bind fun x19 => some x19) else if 200 < x3 then ((soft_huge fu 0 x2).bind fun x20 => some x20) else soft_Round_k1 fu x2 x3 x4 x5 x6

/-! lattice/soft.MulBy -/
def soft_MulBy_k1 (fu : Nat) (x4 : T_soft_number) (x5 : T_soft_number) : Option Int :=
  (soft_Round fu 0 (!(x4.fneg == x5.fneg)) (wk .i64 (x4.fexp + x5.fexp)) (wk .u64 (x4.fsig * x5.fsig)) false).bind fun x6 => some x6
def soft_MulBy (fu : Nat) (x1 : Int) (x2 : Int) (x3 : Int) : Option Int :=
  chk (x1 = 0) <| (soft_open fu x2).bind fun x4 => (soft_open fu x3).bind fun x5 => if x4.fnan = true then (some 2143289344) else if x5.fnan = true then (some 2143289344) else if x4.finf = true then (if x5.finf = true then ((soft_sign fu (!(x4.fneg == x5.fneg))).bind fun x7 => some (bor .u32 x7 2139095040)) else if x5.fsig = 0 then (some 2143289344) else (soft_sign fu (!(x4.fneg == x5.fneg))).bind fun x8 => some (bor .u32 x8 2139095040)) else if x5.finf = true then (if x4.fsig = 0 then (some 2143289344) else (soft_sign fu (!(x4.fneg == x5.fneg))).bind fun x9 => some (bor .u32 x9 2139095040)) else soft_MulBy_k1 fu x4 x5

/-! lattice/soft.Mul -/
def soft_Mul (fu : Nat) (x1 : Int) (x2 : Int) : Option Int :=
  (soft_MulBy fu 0 x1 x2).bind fun x3 => some x3

/-! lattice/soft.nought -/
def soft_nought (fu : Nat) (x1 : Int) : Option Int :=
  chk (x1 = 0) <| (soft_sign fu (decide ((0 : Int) = 2))).bind fun x2 => some x2

/-! lattice/soft.AddBy -/
def soft_AddBy_k3 (fu : Nat) (x6 : Bool) (x9 : Bool) (x12 : Int) (x13 : Int) (x14 : Int) (x15 : Bool) : Option Int :=
  if (x6 == x9) = true then ((soft_Round fu 0 x6 x12 (wk .u64 (x13 + x14)) x15).bind fun x16 => some x16) else if x15 = true then ((soft_Round fu 0 x6 x12 (wk .u64 ((wk .u64 (x13 - x14)) - 1)) true).bind fun x17 => some x17) else if x13 = x14 then ((soft_nought fu 0).bind fun x18 => some x18) else if x14 < x13 then ((soft_Round fu 0 x6 x12 (wk .u64 (x13 - x14)) false).bind fun x19 => some x19) else (soft_Round fu 0 x9 x12 (wk .u64 (x14 - x13)) false).bind fun x20 => some x20
def soft_AddBy_k2 (fu : Nat) (x6 : Bool) (x7 : Int) (x8 : Int) (x9 : Bool) (x10 : Int) (x11 : Int) : Option Int :=
  if (wk .i64 (x7 - x10)) ≤ 38 then (chk (0 ≤ (wk .i64 (x7 - x10))) <| soft_AddBy_k3 fu x6 x9 x10 (shlk .u64 x8 (wk .i64 (x7 - x10))) x11 false) else chk (0 ≤ (wk .i64 ((wk .i64 (x7 - x10)) - 38))) <| soft_AddBy_k3 fu x6 x9 (wk .i64 (x7 - 38)) (shlk .u64 x8 38) (shrk .u64 x11 (wk .i64 ((wk .i64 (x7 - x10)) - 38))) (!(decide ((shlk .u64 (shrk .u64 x11 (wk .i64 ((wk .i64 (x7 - x10)) - 38))) (wk .i64 ((wk .i64 (x7 - x10)) - 38))) = x11)))
def soft_AddBy_k1 (fu : Nat) (x4 : T_soft_number) (x5 : T_soft_number) : Option Int :=
  if x4.fexp < x5.fexp then (soft_AddBy_k2 fu x5.fneg x5.fexp x5.fsig x4.fneg x4.fexp x4.fsig) else soft_AddBy_k2 fu x4.fneg x4.fexp x4.fsig x5.fneg x5.fexp x5.fsig
def soft_AddBy (fu : Nat) (x1 : Int) (x2 : Int) (x3 : Int) : Option Int :=
  chk (x1 = 0) <| (soft_open fu x2).bind fun x4 => (soft_open fu x3).bind fun x5 => if x4.fnan = true then (some 2143289344) else if x5.fnan = true then (some 2143289344) else if x4.finf = true then (if x5.finf = true then (if (x4.fneg == x5.fneg) = true then (some x2) else some 2143289344) else some x2) else if x5.finf = true then (some x3) else if x4.fsig = 0 then (if x5.fsig = 0 then (if x2 = x3 then (some x2) else (soft_nought fu 0).bind fun x21 => some x21) else soft_AddBy_k1 fu x4 x5) else soft_AddBy_k1 fu x4 x5

/-! lattice/soft.Add -/
def soft_Add (fu : Nat) (x1 : Int) (x2 : Int) : Option Int :=
  (soft_AddBy fu 0 x1 x2).bind fun x3 => some x3

/-! lattice/mat.Dot -/
def mat_Dot_L1 (fu : Nat) (x1 : List Int) (x2 : List Int) (nx1 : Int → Int → Option Int) (x7 : Int) (x8 : Int) : Option Int :=
  if x8 < (imin (x1.length : Int) (x2.length : Int)) then ((at? x1 x8).bind fun x13 => (at? x2 x8).bind fun x14 => (soft_Mul fu x13 x14).bind fun x15 => (soft_Add fu x7 x15).bind fun x16 => nx1 x16 (wk .i64 (x8 + 1))) else some x7
def mat_Dot_W1 (fu : Nat) (x1 : List Int) (x2 : List Int) (x7 : Int) (x8 : Int) : Option Int :=
  cloop (fun next s => mat_Dot_L1 fu x1 x2 (fun x7 x8 => next (x7, x8)) s.1 s.2) fu (x7, x8)
def mat_Dot (fu : Nat) (x1 : List Int) (x2 : List Int) : Option Int :=
  mat_Dot_W1 fu x1 x2 0 0

/-! lattice/mat.product -/
def mat_product_L3 (fu : Nat) (nx2 : (List Int) → Int → Option (List Int)) (x91 : List (List Int)) (x102 : Int) (x112 : List Int) (nx3 : (List Int) → Int → Option (List Int)) (x115 : List Int) (x116 : Int) : Option (List Int) :=
  if x116 < (x91.length : Int) then ((at? x91 x116).bind fun x119 => (mat_Dot fu x112 x119).bind fun x120 => chk ((x115.length + 1 : Int) * 4 ≤ 140737488355328) <| nx3 (x115 ++ ([x120])) (wk .i64 (x116 + 1))) else nx2 x115 (wk .i64 (x102 + 1))
def mat_product_W3 (fu : Nat) (nx2 : (List Int) → Int → Option (List Int)) (x91 : List (List Int)) (x102 : Int) (x112 : List Int) (x115 : List Int) (x116 : Int) : Option (List Int) :=
  cloop (fun next s => mat_product_L3 fu nx2 x91 x102 x112 (fun x115 x116 => next (x115, x116)) s.1 s.2) fu (x115, x116)
def mat_product_L2 (fu : Nat) (nx1 : Int → Int → (List Int) → Int → Option (List Int)) (x1 : T_Tensor) (x5 : Int) (x6 : Int) (x7 : Int) (x8 : Int) (x51 : Int) (x89 : Int × Int) (x90 : Int × Int) (x91 : List (List Int)) (nx2 : (List Int) → Int → Option (List Int)) (x101 : List Int) (x102 : Int) : Option (List Int) :=
  if x102 < x6 then ((mat_grid_across fu (T_mat_grid.mk x1.fF (wk .i64 ((wk .i64 (x89.1 * x6)) * x5)) x5 1 x6 x5) x102).bind fun x112 => mat_product_W3 fu nx2 x91 x102 x112 x101 0) else nx1 (wk .i64 ((wk .i64 (x89.1 * x6)) * x5)) (wk .i64 ((wk .i64 (x90.1 * x8)) * x7)) x101 (wk .i64 (x51 + 1))
def mat_product_W2 (fu : Nat) (nx1 : Int → Int → (List Int) → Int → Option (List Int)) (x1 : T_Tensor) (x5 : Int) (x6 : Int) (x7 : Int) (x8 : Int) (x51 : Int) (x89 : Int × Int) (x90 : Int × Int) (x91 : List (List Int)) (x101 : List Int) (x102 : Int) : Option (List Int) :=
  cloop (fun next s => mat_product_L2 fu nx1 x1 x5 x6 x7 x8 x51 x89 x90 x91 (fun x101 x102 => next (x101, x102)) s.1 s.2) fu (x101, x102)
def mat_product_k3 (fu : Nat) (nx1 : Int → Int → (List Int) → Int → Option (List Int)) (x1 : T_Tensor) (x5 : Int) (x6 : Int) (x7 : Int) (x8 : Int) (x50 : List Int) (x51 : Int) (x89 : Int × Int) (x90 : Int × Int) (x91 : List (List Int)) : Option (List Int) :=
  mat_product_W2 fu nx1 x1 x5 x6 x7 x8 x51 x89 x90 x91 x50 0
def mat_product_L4 (fu : Nat) (nx1 : Int → Int → (List Int) → Int → Option (List Int)) (x1 : T_Tensor) (x2 : T_Tensor) (x5 : Int) (x6 : Int) (x7 : Int) (x8 : Int) (x50 : List Int) (x51 : Int) (x89 : Int × Int) (x90 : Int × Int) (nx4 : (List (List Int)) → Int → Option (List Int)) (x122 : List (List Int)) (x123 : Int) : Option (List Int) :=
  if x123 < x7 then ((mat_grid_down fu (T_mat_grid.mk x2.fF (wk .i64 ((wk .i64 (x90.1 * x8)) * x7)) x7 1 x8 x7) x123).bind fun x125 => chk ((x122.length + 1 : Int) * 24 ≤ 140737488355328) <| nx4 (x122 ++ ([x125])) (wk .i64 (x123 + 1))) else mat_product_k3 fu nx1 x1 x5 x6 x7 x8 x50 x51 x89 x90 x122
def mat_product_W4 (fu : Nat) (nx1 : Int → Int → (List Int) → Int → Option (List Int)) (x1 : T_Tensor) (x2 : T_Tensor) (x5 : Int) (x6 : Int) (x7 : Int) (x8 : Int) (x50 : List Int) (x51 : Int) (x89 : Int × Int) (x90 : Int × Int) (x122 : List (List Int)) (x123 : Int) : Option (List Int) :=
  cloop (fun next s => mat_product_L4 fu nx1 x1 x2 x5 x6 x7 x8 x50 x51 x89 x90 (fun x122 x123 => next (x122, x123)) s.1 s.2) fu (x122, x123)
def mat_product_L1 (fu : Nat) (x1 : T_Tensor) (x2 : T_Tensor) (x3 : List Int) (x4 : List Int) (x5 : Int) (x6 : Int) (x7 : Int) (x8 : Int) (x9 : (List Int) × Int) (x10 : Int × Int) (nx1 : Int → Int → (List Int) → Int → Option (List Int)) (x48 : Int) (x49 : Int) (x50 : List Int) (x51 : Int) : Option (List Int) :=
  if x51 < x10.1 then ((shape_From fu (subN x3 0 (wk .i64 ((x3.length : Int) - 2)).toNat) x9.1 x51).bind fun x89 => (shape_From fu (subN x4 0 (wk .i64 ((x4.length : Int) - 2)).toNat) x9.1 x51).bind fun x90 => mat_product_W4 fu nx1 x1 x2 x5 x6 x7 x8 x50 x51 x89 x90 ([] : List (List Int)) 0) else some x50
def mat_product_W1 (fu : Nat) (x1 : T_Tensor) (x2 : T_Tensor) (x3 : List Int) (x4 : List Int) (x5 : Int) (x6 : Int) (x7 : Int) (x8 : Int) (x9 : (List Int) × Int) (x10 : Int × Int) (x48 : Int) (x49 : Int) (x50 : List Int) (x51 : Int) : Option (List Int) :=
  cloop (fun next s => mat_product_L1 fu x1 x2 x3 x4 x5 x6 x7 x8 x9 x10 (fun x48 x49 x50 x51 => next (x48, x49, x50, x51)) s.1 s.2.1 s.2.2.1 s.2.2.2) fu (x48, x49, x50, x51)
def mat_product_k2 (fu : Nat) (x1 : T_Tensor) (x2 : T_Tensor) (x3 : List Int) (x4 : List Int) : Option (List Int) :=
  (at? x3 (wk .i64 ((wk .i64 ((x3.length : Int) - 2)) + 1))).bind fun x5 => (at? x3 (wk .i64 ((x3.length : Int) - 2))).bind fun x6 => (at? x4 (wk .i64 ((wk .i64 ((x4.length : Int) - 2)) + 1))).bind fun x7 => (at? x4 (wk .i64 ((x4.length : Int) - 2))).bind fun x8 => chk (0 ≤ wk .i64 ((x3.length : Int) - 2) ∧ wk .i64 ((x3.length : Int) - 2) ≤ (x3.length : Int)) <| chk (0 ≤ wk .i64 ((x4.length : Int) - 2) ∧ wk .i64 ((x4.length : Int) - 2) ≤ (x4.length : Int)) <| (shape_Broadcast fu (subN x3 0 (wk .i64 ((x3.length : Int) - 2)).toNat) (subN x4 0 (wk .i64 ((x4.length : Int) - 2)).toNat)).bind fun x9 => (shape_Size fu x9.1).bind fun x10 => mat_product_W1 fu x1 x2 x3 x4 x5 x6 x7 x8 x9 x10 0 0 ([] : List Int) 0
def mat_product_k1 (fu : Nat) (x1 : T_Tensor) (x2 : T_Tensor) (x3 : List Int) : Option (List Int) :=
  if (x2.fDims.length : Int) = 1 then ((at? x2.fDims 0).bind fun x126 => mat_product_k2 fu x1 x2 x3 ([x126, 1])) else mat_product_k2 fu x1 x2 x3 x2.fDims
def mat_product (fu : Nat) (x1 : T_Tensor) (x2 : T_Tensor) : Option (List Int) :=
  if (x1.fDims.length : Int) = 1 then ((at? x1.fDims 0).bind fun x127 => mat_product_k1 fu x1 x2 ([1, x127])) else mat_product_k1 fu x1 x2 x1.fDims

/-! lattice/mat.Do -/
def mat_Do_k1 (fu : Nat) (x2 : T_Setting) (x3 : List T_Tensor) (x5 : List T_Tensor) : Option (T_Tensor × Int) :=
  (ewise_Vals fu x3).bind fun x6 => (infer_Node fu 73 x2 x6 1).bind fun x7 => if x7.2 = 0 then ((at? x7.1 0).bind fun x8 => (shape_Size fu x8.fDims).bind fun x9 => if x9.1 = 0 then (some (T_Tensor.mk 1 x8.fDims ([]) ([]) ([]), 0)) else (at? x5 0).bind fun x10 => (at? x5 1).bind fun x11 => (mat_product fu x10 x11).bind fun x12 => some (T_Tensor.mk 1 x8.fDims x12 ([]) ([]), 0)) else some (T_Tensor.mk 0 ([]) ([]) ([]) ([]), x7.2)
def mat_Do_L1 (fu : Nat) (x2 : T_Setting) (x3 : List T_Tensor) (nx1 : (List T_Tensor) → Int → Option (T_Tensor × Int)) (x17 : List T_Tensor) (x18 : Int) : Option (T_Tensor × Int) :=
  if x18 < (x3.length : Int) then ((at? x3 x18).bind fun x23 => if x23.fType = 0 then ((tens_Canon fu x23).bind fun x24 => chk ((x17.length + 1 : Int) * 104 ≤ 140737488355328) <| nx1 (x17 ++ ([x24])) (wk .i64 (x18 + 1))) else (tens_Check fu x23).bind fun x25 => if x25 = 0 then ((tens_Canon fu x23).bind fun x26 => chk ((x17.length + 1 : Int) * 104 ≤ 140737488355328) <| nx1 (x17 ++ ([x26])) (wk .i64 (x18 + 1))) else some (T_Tensor.mk 0 ([]) ([]) ([]) ([]), x25)) else mat_Do_k1 fu x2 x3 x17
def mat_Do_W1 (fu : Nat) (x2 : T_Setting) (x3 : List T_Tensor) (x17 : List T_Tensor) (x18 : Int) : Option (T_Tensor × Int) :=
  cloop (fun next s => mat_Do_L1 fu x2 x3 (fun x17 x18 => next (x17, x18)) s.1 s.2) fu (x17, x18)
def mat_Do (fu : Nat) (x1 : Int) (x2 : T_Setting) (x3 : List T_Tensor) : Option (T_Tensor × Int) :=
  chk (x1 = 73) <| (mat_Has fu 73).bind fun x4 => if x4 = true then (mat_Do_W1 fu x2 x3 ([] : List T_Tensor) 0) else some (T_Tensor.mk 0 ([]) ([]) ([]) ([]), 1)

/-! lattice/latticeref04.SameInts -/
def ref04_SameInts_L1 (fu : Nat) (x1 : List Int) (x2 : List Int) (nx1 : Int → Option Bool) (x5 : Int) : Option Bool :=
  if x5 < (x1.length : Int) then ((at? x1 x5).bind fun x8 => (at? x2 x5).bind fun x9 => if x8 = x9 then (nx1 (wk .i64 (x5 + 1))) else some false) else some true
def ref04_SameInts_W1 (fu : Nat) (x1 : List Int) (x2 : List Int) (x5 : Int) : Option Bool :=
  cloop (fun next s => ref04_SameInts_L1 fu x1 x2 next s) fu x5
def ref04_SameInts (fu : Nat) (x1 : List Int) (x2 : List Int) : Option Bool :=
  if (x1.length : Int) = (x2.length : Int) then (ref04_SameInts_W1 fu x1 x2 0) else some false

/-! lattice/latticelaw14.MatPicks -/
def law14_MatPicks_k4 (fu : Nat) (nx1 : Int → Option Bool) (x5 : T_Tensor × Int) (x11 : Int) (x19 : Int) : Option Bool :=
  (at? x5.1.fF x11).bind fun x20 => if x20 = x19 then (nx1 (wk .i64 (x11 + 1))) else some false
def law14_MatPicks_L1 (fu : Nat) (x1 : T_Tensor) (x2 : Int) (x3 : Int) (x5 : T_Tensor × Int) (nx1 : Int → Option Bool) (x11 : Int) : Option Bool :=
  (at? x1.fDims 1).bind fun x17 => if x11 < x17 then ((at? x1.fF (wk .i64 ((wk .i64 ((Int.tmod (band .i64 x2 65535) x3) * x17)) + x11))).bind fun x18 => (ref01_Abs fu x18).bind fun x21 => if x21 = 0 then (law14_MatPicks_k4 fu nx1 x5 x11 0) else law14_MatPicks_k4 fu nx1 x5 x11 x18) else some true
def law14_MatPicks_W1 (fu : Nat) (x1 : T_Tensor) (x2 : Int) (x3 : Int) (x5 : T_Tensor × Int) (x11 : Int) : Option Bool :=
  cloop (fun next s => law14_MatPicks_L1 fu x1 x2 x3 x5 next s) fu x11
def law14_MatPicks_k3 (fu : Nat) (x1 : T_Tensor) (x2 : Int) (x3 : Int) (x5 : T_Tensor × Int) : Option Bool :=
  law14_MatPicks_W1 fu x1 x2 x3 x5 0
def law14_MatPicks_k2 (fu : Nat) (x1 : T_Tensor) (x2 : Int) : Option Bool :=
  (at? x1.fDims 0).bind fun x3 => chk (x3 ≠ 0) <| chk (0 ≤ x3 ∧ x3 * 4 ≤ 140737488355328) <| chk (0 ≤ Int.tmod (band .i64 x2 65535) x3 ∧ Int.tmod (band .i64 x2 65535) x3 < ((x3.toNat : Nat) : Int)) <| (law14_floats fu ([x3]) ((List.replicate x3.toNat (0 : Int)).set (Int.tmod (band .i64 x2 65535) x3).toNat 1065353216)).bind fun x4 => (mat_Do fu 73 (T_Setting.mk 0 ([]) false false false false false ([]) false 0 0 0 false false false 0 0 false false 0 ([]) ([]) ([]) ([]) 0 false false 0 0 0 false (T_Tensor.mk 0 ([]) ([]) ([]) ([]))) ([x4, x1])).bind fun x5 => if x5.2 = 0 then (chk (0 ≤ 1 ∧ 1 ≤ (x1.fDims.length : Int)) <| (ref04_SameInts fu x5.1.fDims (subN x1.fDims (1 : Int).toNat x1.fDims.length)).bind fun x22 => if x22 = true then (law14_MatPicks_k3 fu x1 x2 x3 x5) else some false) else some false
def law14_MatPicks_L2 (fu : Nat) (x1 : T_Tensor) (x2 : Int) (nx2 : Int → Option Bool) (x25 : Int) : Option Bool :=
  if x25 < (x1.fF.length : Int) then ((at? x1.fF x25).bind fun x28 => (ref01_Abs fu x28).bind fun x29 => if 2139095040 ≤ x29 then (some true) else nx2 (wk .i64 (x25 + 1))) else law14_MatPicks_k2 fu x1 x2
def law14_MatPicks_W2 (fu : Nat) (x1 : T_Tensor) (x2 : Int) (x25 : Int) : Option Bool :=
  cloop (fun next s => law14_MatPicks_L2 fu x1 x2 next s) fu x25
def law14_MatPicks_k1 (fu : Nat) (x1 : T_Tensor) (x2 : Int) : Option Bool :=
  law14_MatPicks_W2 fu x1 x2 0
def law14_MatPicks (fu : Nat) (x1 : T_Tensor) (x2 : Int) : Option Bool :=
  (ref05_Check fu x1).bind fun x30 => if x30 = 0 then (if x1.fType = 1 then (if (x1.fDims.length : Int) = 2 then ((at? x1.fDims 0).bind fun x31 => if x31 = 0 then (some true) else law14_MatPicks_k1 fu x1 x2) else some true) else some true) else some true

end Go.Av
