/- Plain functions, as the program has them; data of structs. Made by a program of mine. Conditions: none. -/
import Derived.Test.YtoobokgbmjbofaaGreatAu
set_option linter.unusedVariables false
namespace Go.Av
structure T_Tensor where
  fType : Int
  fDims : List Int
  fF : List Int
  fI : List Int
  fB : List Bool
def c_T_Tensor (x : T_Tensor) : List AV := [.v (.int .i64 x.fType), .arr x.fDims.length (lm (ik .i64) x.fDims), .arr x.fF.length (lm (ik .u32) x.fF), .arr x.fI.length (lm (ik .i64) x.fI), .arr x.fB.length (lm (bk) x.fB)]
theorem c_T_Tensor_len : ∀ x, (c_T_Tensor x).length = 5 := fun _ => rfl
theorem c_T_Tensor_one : ∀ x, (c_T_Tensor x).all AV.one = true := fun _ => rfl
structure T_Setting where
  fAxis : Int
  fAxes : List Int
  fHasAxes : Bool
  fKeep : Bool
  fNoop : Bool
  fLast : Bool
  fZero : Bool
  fPerm : List Int
  fHasPerm : Bool
  fAlpha : Int
  fBeta : Int
  fEpsilon : Int
  fLow : Bool
  fHigh : Bool
  fFmod : Bool
  fTo : Int
  fMode : Int
  fTransA : Bool
  fTransB : Bool
  fGroup : Int
  fKernel : List Int
  fStrides : List Int
  fPads : List Int
  fDilations : List Int
  fAuto : Int
  fCeil : Bool
  fCount : Bool
  fBlock : Int
  fStart : Int
  fEnd : Int
  fHasEnd : Bool
  fValue : T_Tensor
def c_T_Setting (x : T_Setting) : List AV := [.v (.int .i64 x.fAxis), .arr x.fAxes.length (lm (ik .i64) x.fAxes), .v (.bool x.fHasAxes), .v (.bool x.fKeep), .v (.bool x.fNoop), .v (.bool x.fLast), .v (.bool x.fZero), .arr x.fPerm.length (lm (ik .i64) x.fPerm), .v (.bool x.fHasPerm), .v (.int .u32 x.fAlpha), .v (.int .u32 x.fBeta), .v (.int .u32 x.fEpsilon), .v (.bool x.fLow), .v (.bool x.fHigh), .v (.bool x.fFmod), .v (.int .i64 x.fTo), .v (.int .i64 x.fMode), .v (.bool x.fTransA), .v (.bool x.fTransB), .v (.int .i64 x.fGroup), .arr x.fKernel.length (lm (ik .i64) x.fKernel), .arr x.fStrides.length (lm (ik .i64) x.fStrides), .arr x.fPads.length (lm (ik .i64) x.fPads), .arr x.fDilations.length (lm (ik .i64) x.fDilations), .v (.int .i64 x.fAuto), .v (.bool x.fCeil), .v (.bool x.fCount), .v (.int .i64 x.fBlock), .v (.int .i64 x.fStart), .v (.int .i64 x.fEnd), .v (.bool x.fHasEnd), .v (.int .i64 x.fValue.fType), .arr x.fValue.fDims.length (lm (ik .i64) x.fValue.fDims), .arr x.fValue.fF.length (lm (ik .u32) x.fValue.fF), .arr x.fValue.fI.length (lm (ik .i64) x.fValue.fI), .arr x.fValue.fB.length (lm (bk) x.fValue.fB)]
theorem c_T_Setting_len : ∀ x, (c_T_Setting x).length = 36 := fun _ => rfl
theorem c_T_Setting_one : ∀ x, (c_T_Setting x).all AV.one = true := fun _ => rfl
structure T_Val where
  fType : Int
  fDims : List Int
  fConst : Bool
  fT : T_Tensor
def c_T_Val (x : T_Val) : List AV := [.v (.int .i64 x.fType), .arr x.fDims.length (lm (ik .i64) x.fDims), .v (.bool x.fConst), .v (.int .i64 x.fT.fType), .arr x.fT.fDims.length (lm (ik .i64) x.fT.fDims), .arr x.fT.fF.length (lm (ik .u32) x.fT.fF), .arr x.fT.fI.length (lm (ik .i64) x.fT.fI), .arr x.fT.fB.length (lm (bk) x.fT.fB)]
theorem c_T_Val_len : ∀ x, (c_T_Val x).length = 8 := fun _ => rfl
theorem c_T_Val_one : ∀ x, (c_T_Val x).all AV.one = true := fun _ => rfl
structure T_infer_ask where
  fop : Int
  fs : T_Setting
  fin : List T_Val
  fouts : Int
def c_T_infer_ask (x : T_infer_ask) : List AV := [.v (.int .i64 x.fop), .v (.int .i64 x.fs.fAxis), .arr x.fs.fAxes.length (lm (ik .i64) x.fs.fAxes), .v (.bool x.fs.fHasAxes), .v (.bool x.fs.fKeep), .v (.bool x.fs.fNoop), .v (.bool x.fs.fLast), .v (.bool x.fs.fZero), .arr x.fs.fPerm.length (lm (ik .i64) x.fs.fPerm), .v (.bool x.fs.fHasPerm), .v (.int .u32 x.fs.fAlpha), .v (.int .u32 x.fs.fBeta), .v (.int .u32 x.fs.fEpsilon), .v (.bool x.fs.fLow), .v (.bool x.fs.fHigh), .v (.bool x.fs.fFmod), .v (.int .i64 x.fs.fTo), .v (.int .i64 x.fs.fMode), .v (.bool x.fs.fTransA), .v (.bool x.fs.fTransB), .v (.int .i64 x.fs.fGroup), .arr x.fs.fKernel.length (lm (ik .i64) x.fs.fKernel), .arr x.fs.fStrides.length (lm (ik .i64) x.fs.fStrides), .arr x.fs.fPads.length (lm (ik .i64) x.fs.fPads), .arr x.fs.fDilations.length (lm (ik .i64) x.fs.fDilations), .v (.int .i64 x.fs.fAuto), .v (.bool x.fs.fCeil), .v (.bool x.fs.fCount), .v (.int .i64 x.fs.fBlock), .v (.int .i64 x.fs.fStart), .v (.int .i64 x.fs.fEnd), .v (.bool x.fs.fHasEnd), .v (.int .i64 x.fs.fValue.fType), .arr x.fs.fValue.fDims.length (lm (ik .i64) x.fs.fValue.fDims), .arr x.fs.fValue.fF.length (lm (ik .u32) x.fs.fValue.fF), .arr x.fs.fValue.fI.length (lm (ik .i64) x.fs.fValue.fI), .arr x.fs.fValue.fB.length (lm (bk) x.fs.fValue.fB), .arr x.fin.length (fm c_T_Val x.fin), .v (.int .i64 x.fouts)]
theorem c_T_infer_ask_len : ∀ x, (c_T_infer_ask x).length = 39 := fun _ => rfl
theorem c_T_infer_ask_one : ∀ x, (c_T_infer_ask x).all AV.one = true := fun _ => rfl
structure T_mat_grid where
  fl : List Int
  fat : Int
  frow : Int
  fcol : Int
  frows : Int
  fcolumns : Int
def c_T_mat_grid (x : T_mat_grid) : List AV := [.arr x.fl.length (lm (ik .u32) x.fl), .v (.int .i64 x.fat), .v (.int .i64 x.frow), .v (.int .i64 x.fcol), .v (.int .i64 x.frows), .v (.int .i64 x.fcolumns)]
theorem c_T_mat_grid_len : ∀ x, (c_T_mat_grid x).length = 6 := fun _ => rfl
theorem c_T_mat_grid_one : ∀ x, (c_T_mat_grid x).all AV.one = true := fun _ => rfl
structure T_mat_line_uint32 where
  fl : List Int
  ffirst : Int
  fstride : Int
  fn : Int
def c_T_mat_line_uint32 (x : T_mat_line_uint32) : List AV := [.arr x.fl.length (lm (ik .u32) x.fl), .v (.int .i64 x.ffirst), .v (.int .i64 x.fstride), .v (.int .i64 x.fn)]
theorem c_T_mat_line_uint32_len : ∀ x, (c_T_mat_line_uint32 x).length = 4 := fun _ => rfl
theorem c_T_mat_line_uint32_one : ∀ x, (c_T_mat_line_uint32 x).all AV.one = true := fun _ => rfl
structure T_soft_number where
  fneg : Bool
  fnan : Bool
  finf : Bool
  fexp : Int
  fsig : Int
def c_T_soft_number (x : T_soft_number) : List AV := [.v (.bool x.fneg), .v (.bool x.fnan), .v (.bool x.finf), .v (.int .i64 x.fexp), .v (.int .u64 x.fsig)]
theorem c_T_soft_number_len : ∀ x, (c_T_soft_number x).length = 5 := fun _ => rfl
theorem c_T_soft_number_one : ∀ x, (c_T_soft_number x).all AV.one = true := fun _ => rfl
structure T_ref12_job where
  fop : Int
  fs : T_Setting
  fin : List T_Tensor
  fvals : List T_Val
  fd : List Int
  faxis : Int
  fout : List Int
  ffrom : Int
def c_T_ref12_job (x : T_ref12_job) : List AV := [.v (.int .i64 x.fop), .v (.int .i64 x.fs.fAxis), .arr x.fs.fAxes.length (lm (ik .i64) x.fs.fAxes), .v (.bool x.fs.fHasAxes), .v (.bool x.fs.fKeep), .v (.bool x.fs.fNoop), .v (.bool x.fs.fLast), .v (.bool x.fs.fZero), .arr x.fs.fPerm.length (lm (ik .i64) x.fs.fPerm), .v (.bool x.fs.fHasPerm), .v (.int .u32 x.fs.fAlpha), .v (.int .u32 x.fs.fBeta), .v (.int .u32 x.fs.fEpsilon), .v (.bool x.fs.fLow), .v (.bool x.fs.fHigh), .v (.bool x.fs.fFmod), .v (.int .i64 x.fs.fTo), .v (.int .i64 x.fs.fMode), .v (.bool x.fs.fTransA), .v (.bool x.fs.fTransB), .v (.int .i64 x.fs.fGroup), .arr x.fs.fKernel.length (lm (ik .i64) x.fs.fKernel), .arr x.fs.fStrides.length (lm (ik .i64) x.fs.fStrides), .arr x.fs.fPads.length (lm (ik .i64) x.fs.fPads), .arr x.fs.fDilations.length (lm (ik .i64) x.fs.fDilations), .v (.int .i64 x.fs.fAuto), .v (.bool x.fs.fCeil), .v (.bool x.fs.fCount), .v (.int .i64 x.fs.fBlock), .v (.int .i64 x.fs.fStart), .v (.int .i64 x.fs.fEnd), .v (.bool x.fs.fHasEnd), .v (.int .i64 x.fs.fValue.fType), .arr x.fs.fValue.fDims.length (lm (ik .i64) x.fs.fValue.fDims), .arr x.fs.fValue.fF.length (lm (ik .u32) x.fs.fValue.fF), .arr x.fs.fValue.fI.length (lm (ik .i64) x.fs.fValue.fI), .arr x.fs.fValue.fB.length (lm (bk) x.fs.fValue.fB), .arr x.fin.length (fm c_T_Tensor x.fin), .arr x.fvals.length (fm c_T_Val x.fvals), .arr x.fd.length (lm (ik .i64) x.fd), .v (.int .i64 x.faxis), .arr x.fout.length (lm (ik .i64) x.fout), .v (.int .i64 x.ffrom)]
theorem c_T_ref12_job_len : ∀ x, (c_T_ref12_job x).length = 43 := fun _ => rfl
theorem c_T_ref12_job_one : ∀ x, (c_T_ref12_job x).all AV.one = true := fun _ => rfl
def mat_Has (fu : Nat) (x1 : Int) : Option Bool :=
  chk (x1 = 74) <| some (decide ((74 : Int) = 74))
def tens_Width (fu : Nat) (x1 : Int) : Option Int :=
  if x1 = 1 then (some 4) else if x1 = 7 then (some 8) else if x1 = 9 then (some 1) else some 0
def tens_known (fu : Nat) (x1 : Int) : Option Bool :=
  (tens_Width fu x1).bind fun x2 => some (decide (0 < x2))
def slices_IndexFunc_int.L1 (fu : Nat) (p1 : Int → Option Bool) (x1 : List Int) (nx1 : Int → Option Int) (x4 : Int) : Option Int :=
  if x4 < (x1.length : Int) then ((at? x1 x4).bind fun x7 => (p1 x7).bind fun x8 => if x8 = true then (some x4) else nx1 (wk .i64 (x4 + 1))) else some (-1)
def slices_IndexFunc_int.W1 (fu : Nat) (p1 : Int → Option Bool) (x1 : List Int) (x4 : Int) : Option Int :=
  cloop (fun next s => slices_IndexFunc_int.L1 fu p1 x1 next s) fu x4
def slices_IndexFunc_int (fu : Nat) (x1 : List Int) (p1 : Int → Option Bool) : Option Int :=
  slices_IndexFunc_int.W1 fu p1 x1 0
def slices_ContainsFunc_int (fu : Nat) (x1 : List Int) (p1 : Int → Option Bool) : Option Bool :=
  (slices_IndexFunc_int fu x1 p1).bind fun x2 => some (decide (0 ≤ x2))
def shape_Size_1 (fu : Nat) (x1 : Int) : Option Bool :=
  some (decide (x1 < 0))
def shape_Size_2 (fu : Nat) (x1 : Int) : Option Bool :=
  some (decide (4096 < x1))
def slices_Index_int.L1 (fu : Nat) (x1 : List Int) (x2 : Int) (nx1 : Int → Option Int) (x4 : Int) : Option Int :=
  if x4 < (x1.length : Int) then ((at? x1 x4).bind fun x6 => if x2 = x6 then (some x4) else nx1 (wk .i64 (x4 + 1))) else some (-1)
def slices_Index_int.W1 (fu : Nat) (x1 : List Int) (x2 : Int) (x4 : Int) : Option Int :=
  cloop (fun next s => slices_Index_int.L1 fu x1 x2 next s) fu x4
def slices_Index_int (fu : Nat) (x1 : List Int) (x2 : Int) : Option Int :=
  slices_Index_int.W1 fu x1 x2 0
def slices_Contains_int (fu : Nat) (x1 : List Int) (x2 : Int) : Option Bool :=
  (slices_Index_int fu x1 x2).bind fun x3 => some (decide (0 ≤ x3))
def shape_Size.L1 (fu : Nat) (x1 : List Int) (nx1 : Int → Int → Option (Int × Int)) (x5 : Int) (x6 : Int) : Option (Int × Int) :=
  if x6 < (x1.length : Int) then ((at? x1 x6).bind fun x8 => chk (x5 ≠ 0) <| if (wk .i64 (Int.tdiv 4096 x5)) < x8 then (some (0, 4)) else nx1 (wk .i64 (x5 * x8)) (wk .i64 (x6 + 1))) else some (x5, 0)
def shape_Size.W1 (fu : Nat) (x1 : List Int) (x5 : Int) (x6 : Int) : Option (Int × Int) :=
  cloop (fun next s => shape_Size.L1 fu x1 (fun x5 x6 => next (x5, x6)) s.1 s.2) fu (x5, x6)
def shape_Size.k1 (fu : Nat) (x1 : List Int) : Option (Int × Int) :=
  (slices_Contains_int fu x1 0).bind fun x3 => if x3 = true then (some (0, 0)) else shape_Size.W1 fu x1 1 0
def shape_Size (fu : Nat) (x1 : List Int) : Option (Int × Int) :=
  (slices_ContainsFunc_int fu x1 (fun y0 => shape_Size_1 fu y0)).bind fun x2 => if x2 = true then (some (0, 1)) else jn 1 () (fun (t : Unit) => shape_Size.k1 fu x1) <| if 8 < (x1.length : Int) then (some (0, 4)) else (slices_ContainsFunc_int fu x1 (fun y0 => shape_Size_2 fu y0)).bind fun x9 => if x9 = true then (some (0, 4)) else shape_Size.k1 fu x1
def tens_Check.k1 (fu : Nat) (x1 : T_Tensor) (x3 : Int × Int) (x4 : Int) : Option Int :=
  if x4 = x3.1 then (if (wk .i64 ((wk .i64 ((x1.fF.length : Int) + (x1.fI.length : Int))) + (x1.fB.length : Int))) = x3.1 then (some 0) else some 3) else some 3
def tens_Check (fu : Nat) (x1 : T_Tensor) : Option Int :=
  (tens_known fu x1.fType).bind fun x2 => if x2 = true then ((shape_Size fu x1.fDims).bind fun x3 => if x3.2 = 0 then (jn 1 () (fun (t : Int) => tens_Check.k1 fu x1 x3 t) <| if x1.fType = 7 then (tens_Check.k1 fu x1 x3 (x1.fI.length : Int)) else if x1.fType = 9 then (tens_Check.k1 fu x1 x3 (x1.fB.length : Int)) else tens_Check.k1 fu x1 x3 (x1.fF.length : Int)) else some x3.2) else some 5
def tens_own_int (fu : Nat) (x1 : List Int) : Option (List Int) :=
  chk ((x1.length : Int) * 8 ≤ 140737488355328) <| some x1
def tens_own_uint32 (fu : Nat) (x1 : List Int) : Option (List Int) :=
  chk ((x1.length : Int) * 4 ≤ 140737488355328) <| some x1
def tens_own_int64 (fu : Nat) (x1 : List Int) : Option (List Int) :=
  chk ((x1.length : Int) * 8 ≤ 140737488355328) <| some x1
def tens_own_bool (fu : Nat) (x1 : List Bool) : Option (List Bool) :=
  chk ((x1.length : Int) * 1 ≤ 140737488355328) <| some x1
def tens_Copy (fu : Nat) (x1 : T_Tensor) : Option T_Tensor :=
  (tens_own_int fu x1.fDims).bind fun x2 => (tens_own_uint32 fu x1.fF).bind fun x3 => (tens_own_int64 fu x1.fI).bind fun x4 => (tens_own_bool fu x1.fB).bind fun x5 => some (T_Tensor.mk x1.fType x2 x3 x4 x5)
def soft_Abs (fu : Nat) (x1 : Int) : Option Int :=
  some (bandn .u32 x1 2147483648)
def soft_NaN (fu : Nat) (x1 : Int) : Option Bool :=
  (soft_Abs fu x1).bind fun x2 => some (decide (2139095040 < x2))
def soft_Canon (fu : Nat) (x1 : Int) : Option Int :=
  (soft_NaN fu x1).bind fun x2 => if x2 = true then (some 2143289344) else some x1
def tens_Canon.L1 (fu : Nat) (x2 : T_Tensor) (nx1 : (List Int) → Int → Option T_Tensor) (x5 : List Int) (x6 : Int) : Option T_Tensor :=
  if x6 < ((x2.fF.length : Nat) : Int) then ((at? x5 x6).bind fun x9 => (soft_Canon fu x9).bind fun x10 => chk (0 ≤ x6 ∧ x6 < (x5.length : Int)) <| nx1 (x5.set x6.toNat x10) (wk .i64 (x6 + 1))) else some (T_Tensor.mk x2.fType x2.fDims x5 x2.fI x2.fB)
def tens_Canon.W1 (fu : Nat) (x2 : T_Tensor) (x5 : List Int) (x6 : Int) : Option T_Tensor :=
  cloop (fun next s => tens_Canon.L1 fu x2 (fun x5 x6 => next (x5, x6)) s.1 s.2) fu (x5, x6)
def tens_Canon (fu : Nat) (x1 : T_Tensor) : Option T_Tensor :=
  (tens_Copy fu x1).bind fun x2 => tens_Canon.W1 fu x2 x2.fF 0
def slices_Clone_int (fu : Nat) (x1 : List Int) : Option (List Int) :=
  chk ((x1.length : Int) * 8 ≤ 140737488355328) <| some x1
def ewise_Vals.L1 (fu : Nat) (x1 : List T_Tensor) (nx1 : (List T_Val) → Int → Option (List T_Val)) (x5 : List T_Val) (x6 : Int) : Option (List T_Val) :=
  if x6 < (x1.length : Int) then ((at? x1 x6).bind fun x10 => if x10.fType = 0 then (chk ((x5.length + 1 : Int) * 144 ≤ 140737488355328) <| nx1 (x5 ++ ([T_Val.mk 0 ([]) false (T_Tensor.mk 0 ([]) ([]) ([]) ([]))])) (wk .i64 (x6 + 1))) else (slices_Clone_int fu x10.fDims).bind fun x11 => (tens_Copy fu x10).bind fun x12 => chk ((x5.length + 1 : Int) * 144 ≤ 140737488355328) <| nx1 (x5 ++ ([T_Val.mk x10.fType x11 true x12])) (wk .i64 (x6 + 1))) else some x5
def ewise_Vals.W1 (fu : Nat) (x1 : List T_Tensor) (x5 : List T_Val) (x6 : Int) : Option (List T_Val) :=
  cloop (fun next s => ewise_Vals.L1 fu x1 (fun x5 x6 => next (x5, x6)) s.1 s.2) fu (x5, x6)
def ewise_Vals (fu : Nat) (x1 : List T_Tensor) : Option (List T_Val) :=
  ewise_Vals.W1 fu x1 ([] : List T_Val) 0
def ops_Arity (fu : Nat) (x1 : Int) : Option (Int × Int × Int × Int) :=
  chk (x1 = 74) <| some (2, 3, 1, 1)
def infer_ask_val (fu : Nat) (x1 : T_infer_ask) (x2 : Int) : Option T_Val :=
  chk (x1.fop = 74) <| if x2 < (x1.fin.length : Int) then ((at? x1.fin x2).bind fun x3 => some x3) else some (T_Val.mk 0 ([]) false (T_Tensor.mk 0 ([]) ([]) ([]) ([])))
def infer_ask_has (fu : Nat) (x1 : T_infer_ask) (x2 : Int) : Option Bool :=
  chk (x1.fop = 74) <| (infer_ask_val fu (T_infer_ask.mk 74 x1.fs x1.fin x1.fouts) x2).bind fun x3 => some (!(decide (x3.fType = 0)))
def infer_ask_complete.L1 (fu : Nat) (x1 : T_infer_ask) (x2 : Int × Int × Int × Int) (nx1 : Int → Option Bool) (x4 : Int) : Option Bool :=
  if x4 < x2.1 then ((infer_ask_has fu (T_infer_ask.mk 74 x1.fs x1.fin x1.fouts) x4).bind fun x6 => if x6 = true then (nx1 (wk .i64 (x4 + 1))) else some false) else some true
def infer_ask_complete.W1 (fu : Nat) (x1 : T_infer_ask) (x2 : Int × Int × Int × Int) (x4 : Int) : Option Bool :=
  cloop (fun next s => infer_ask_complete.L1 fu x1 x2 next s) fu x4
def infer_ask_complete.k1 (fu : Nat) (x1 : T_infer_ask) (x2 : Int × Int × Int × Int) : Option Bool :=
  infer_ask_complete.W1 fu x1 x2 0
def infer_ask_complete (fu : Nat) (x1 : T_infer_ask) : Option Bool :=
  chk (x1.fop = 74) <| (ops_Arity fu 74).bind fun x2 => jn 1 () (fun (t : Unit) => infer_ask_complete.k1 fu x1 x2) <| if x2.2.2.1 = 0 then (some false) else if (x1.fin.length : Int) < x2.1 then (some false) else if x2.2.1 < (x1.fin.length : Int) then (some false) else if x1.fouts < x2.2.2.1 then (some false) else if x2.2.2.2 < x1.fouts then (some false) else infer_ask_complete.k1 fu x1 x2
def infer_sorts.k5 (fu : Nat) : Option ByteArray :=
  some (⟨#[102]⟩ : ByteArray)
def infer_sorts.k4 (fu : Nat) : Option ByteArray :=
  jn 5 () (fun (t : Unit) => infer_sorts.k5 fu) <| infer_sorts.k5 fu
def infer_sorts.k3 (fu : Nat) : Option ByteArray :=
  jn 4 () (fun (t : Unit) => infer_sorts.k4 fu) <| infer_sorts.k4 fu
def infer_sorts.k2 (fu : Nat) : Option ByteArray :=
  jn 3 () (fun (t : Unit) => infer_sorts.k3 fu) <| infer_sorts.k3 fu
def infer_sorts.k1 (fu : Nat) : Option ByteArray :=
  jn 2 () (fun (t : Unit) => infer_sorts.k2 fu) <| infer_sorts.k2 fu
def infer_sorts (fu : Nat) (x1 : Int) : Option ByteArray :=
  chk (x1 = 74) <| jn 1 () (fun (t : Unit) => infer_sorts.k1 fu) <| infer_sorts.k1 fu
def infer_ask_fits.k1 (fu : Nat) (x5 : Bool) : Option Bool :=
  some x5
def infer_ask_fits (fu : Nat) (x1 : T_infer_ask) (x2 : Int) (x3 : Int) : Option Bool :=
  chk (x1.fop = 74) <| (infer_ask_val fu (T_infer_ask.mk 74 x1.fs x1.fin x1.fouts) x2).bind fun x4 => if x3 = 110 then (jn 1 () (fun (t : Bool) => infer_ask_fits.k1 fu t) <| if x4.fType = 1 then (infer_ask_fits.k1 fu true) else infer_ask_fits.k1 fu (decide (x4.fType = 7))) else if x3 = 102 then (some (decide (x4.fType = 1))) else if x3 = 98 then (some (decide (x4.fType = 9))) else if x3 = 105 then (some (decide (x4.fType = 7))) else if x3 = 61 then ((infer_ask_val fu (T_infer_ask.mk 74 x1.fs x1.fin x1.fouts) 0).bind fun x6 => some (decide (x4.fType = x6.fType))) else if x3 = 43 then ((infer_ask_val fu (T_infer_ask.mk 74 x1.fs x1.fin x1.fouts) (wk .i64 (x2 - 1))).bind fun x7 => some (decide (x4.fType = x7.fType))) else (tens_Width fu x4.fType).bind fun x8 => some (decide (0 < x8))
def infer_ask_typed.k1 (fu : Nat) : Option Bool :=
  some true
def infer_ask_typed.L1 (fu : Nat) (x1 : T_infer_ask) (x2 : ByteArray) (nx1 : Int → Option Bool) (x8 : Int) : Option Bool :=
  if x8 < (x1.fin.length : Int) then ((infer_ask_has fu (T_infer_ask.mk 74 x1.fs x1.fin x1.fouts) x8).bind fun x14 => if x14 = true then ((infer_ask_val fu (T_infer_ask.mk 74 x1.fs x1.fin x1.fouts) x8).bind fun x15 => (tens_Width fu x15.fType).bind fun x16 => if x16 = 0 then (some false) else (sat? x2 (imin x8 (wk .i64 ((x2.size : Int) - 1)))).bind fun x17 => (infer_ask_fits fu (T_infer_ask.mk 74 x1.fs x1.fin x1.fouts) x8 x17).bind fun x18 => if x18 = true then (nx1 (wk .i64 (x8 + 1))) else some false) else nx1 (wk .i64 (x8 + 1))) else infer_ask_typed.k1 fu
def infer_ask_typed.W1 (fu : Nat) (x1 : T_infer_ask) (x2 : ByteArray) (x8 : Int) : Option Bool :=
  cloop (fun next s => infer_ask_typed.L1 fu x1 x2 next s) fu x8
def infer_ask_typed (fu : Nat) (x1 : T_infer_ask) : Option Bool :=
  chk (x1.fop = 74) <| (infer_sorts fu 74).bind fun x2 => jn 1 () (fun (t : Unit) => infer_ask_typed.k1 fu) <| infer_ask_typed.W1 fu x1 x2 0
def infer_ask_dims (fu : Nat) (x1 : T_infer_ask) (x2 : Int) : Option (List Int) :=
  chk (x1.fop = 74) <| (infer_ask_val fu (T_infer_ask.mk 74 x1.fs x1.fin x1.fouts) x2).bind fun x3 => some x3.fDims
def infer_ask_rank (fu : Nat) (x1 : T_infer_ask) : Option Int :=
  chk (x1.fop = 74) <| (infer_ask_dims fu (T_infer_ask.mk 74 x1.fs x1.fin x1.fouts) 0).bind fun x2 => some (x2.length : Int)
def infer_ask_attributes.k2 (fu : Nat) : Option Bool :=
  some true
def infer_ask_attributes.k1 (fu : Nat) : Option Bool :=
  jn 2 () (fun (t : Unit) => infer_ask_attributes.k2 fu) <| infer_ask_attributes.k2 fu
def infer_ask_attributes (fu : Nat) (x1 : T_infer_ask) : Option Bool :=
  chk (x1.fop = 74) <| (infer_ask_rank fu (T_infer_ask.mk 74 x1.fs x1.fin x1.fouts)).bind fun x2 => jn 1 () (fun (t : Unit) => infer_ask_attributes.k1 fu) <| infer_ask_attributes.k1 fu
def infer_ask_lists.k1 (fu : Nat) : Option (List T_Val) :=
  some ([])
def infer_ask_lists (fu : Nat) (x1 : T_infer_ask) : Option (List T_Val) :=
  chk (x1.fop = 74) <| jn 1 () (fun (t : Unit) => infer_ask_lists.k1 fu) <| infer_ask_lists.k1 fu
def slices_IndexFunc_api_Val_api_Val.L1 (fu : Nat) (p1 : T_Val → Option Bool) (x1 : List T_Val) (nx1 : Int → Option Int) (x4 : Int) : Option Int :=
  if x4 < (x1.length : Int) then ((at? x1 x4).bind fun x7 => (p1 x7).bind fun x8 => if x8 = true then (some x4) else nx1 (wk .i64 (x4 + 1))) else some (-1)
def slices_IndexFunc_api_Val_api_Val.W1 (fu : Nat) (p1 : T_Val → Option Bool) (x1 : List T_Val) (x4 : Int) : Option Int :=
  cloop (fun next s => slices_IndexFunc_api_Val_api_Val.L1 fu p1 x1 next s) fu x4
def slices_IndexFunc_api_Val_api_Val (fu : Nat) (x1 : List T_Val) (p1 : T_Val → Option Bool) : Option Int :=
  slices_IndexFunc_api_Val_api_Val.W1 fu p1 x1 0
def slices_ContainsFunc_api_Val_api_Val (fu : Nat) (x1 : List T_Val) (p1 : T_Val → Option Bool) : Option Bool :=
  (slices_IndexFunc_api_Val_api_Val fu x1 p1).bind fun x2 => some (decide (0 ≤ x2))
def slices_Equal_int.L1 (fu : Nat) (x1 : List Int) (x2 : List Int) (nx1 : Int → Option Bool) (x5 : Int) : Option Bool :=
  if x5 < (x1.length : Int) then ((at? x1 x5).bind fun x8 => (at? x2 x5).bind fun x9 => if x8 = x9 then (nx1 (wk .i64 (x5 + 1))) else some false) else some true
def slices_Equal_int.W1 (fu : Nat) (x1 : List Int) (x2 : List Int) (x5 : Int) : Option Bool :=
  cloop (fun next s => slices_Equal_int.L1 fu x1 x2 next s) fu x5
def slices_Equal_int (fu : Nat) (x1 : List Int) (x2 : List Int) : Option Bool :=
  if (x1.length : Int) = (x2.length : Int) then (slices_Equal_int.W1 fu x1 x2 0) else some false
def infer_held (fu : Nat) (x1 : T_Val) : Option Bool :=
  if x1.fConst = true then ((tens_Check fu x1.fT).bind fun x2 => if x2 = 0 then (if x1.fT.fType = x1.fType then ((slices_Equal_int fu x1.fT.fDims x1.fDims).bind fun x3 => some x3) else some false) else some false) else some false
def infer_ask_told_1 (fu : Nat) (x1 : T_Val) : Option Bool :=
  (infer_held fu x1).bind fun x2 => some (!x2)
def infer_ask_told_2 (fu : Nat) (x1 : T_Val) : Option Bool :=
  some (!(decide ((x1.fDims.length : Int) = 1)))
def slices_IndexFunc_int64.L1 (fu : Nat) (p1 : Int → Option Bool) (x1 : List Int) (nx1 : Int → Option Int) (x4 : Int) : Option Int :=
  if x4 < (x1.length : Int) then ((at? x1 x4).bind fun x7 => (p1 x7).bind fun x8 => if x8 = true then (some x4) else nx1 (wk .i64 (x4 + 1))) else some (-1)
def slices_IndexFunc_int64.W1 (fu : Nat) (p1 : Int → Option Bool) (x1 : List Int) (x4 : Int) : Option Int :=
  cloop (fun next s => slices_IndexFunc_int64.L1 fu p1 x1 next s) fu x4
def slices_IndexFunc_int64 (fu : Nat) (x1 : List Int) (p1 : Int → Option Bool) : Option Int :=
  slices_IndexFunc_int64.W1 fu p1 x1 0
def slices_ContainsFunc_int64 (fu : Nat) (x1 : List Int) (p1 : Int → Option Bool) : Option Bool :=
  (slices_IndexFunc_int64 fu x1 p1).bind fun x2 => some (decide (0 ≤ x2))
def infer_ask_told_3_1 (fu : Nat) (x1 : Int) : Option Bool :=
  some (decide (4096 < x1))
def infer_ask_told_3 (fu : Nat) (x1 : T_Val) : Option Bool :=
  (slices_ContainsFunc_int64 fu x1.fT.fI (fun y0 => infer_ask_told_3_1 fu y0)).bind fun x2 => some x2
def infer_ask_told (fu : Nat) (x1 : T_infer_ask) : Option Int :=
  chk (x1.fop = 74) <| (infer_ask_lists fu (T_infer_ask.mk 74 x1.fs x1.fin x1.fouts)).bind fun x2 => (slices_ContainsFunc_api_Val_api_Val fu x2 (fun y0 => infer_ask_told_1 fu y0)).bind fun x3 => if x3 = true then (some 15) else (slices_ContainsFunc_api_Val_api_Val fu x2 (fun y0 => infer_ask_told_2 fu y0)).bind fun x4 => if x4 = true then (some 3) else (slices_ContainsFunc_api_Val_api_Val fu x2 (fun y0 => infer_ask_told_3 fu y0)).bind fun x5 => if x5 = true then (some 4) else some 0
def infer_ask_wrong.k1 (fu : Nat) (x1 : T_infer_ask) : Option Int :=
  (infer_ask_typed fu (T_infer_ask.mk 74 x1.fs x1.fin x1.fouts)).bind fun x2 => if x2 = true then ((infer_ask_attributes fu (T_infer_ask.mk 74 x1.fs x1.fin x1.fouts)).bind fun x3 => if x3 = true then ((infer_ask_told fu (T_infer_ask.mk 74 x1.fs x1.fin x1.fouts)).bind fun x4 => some x4) else some 14) else some 5
def infer_ask_wrong.L1 (fu : Nat) (x1 : T_infer_ask) (nx1 : Int → Option Int) (x8 : Int) : Option Int :=
  if x8 < (x1.fin.length : Int) then ((at? x1.fin x8).bind fun x12 => (shape_Size fu x12.fDims).bind fun x13 => (infer_ask_has fu (T_infer_ask.mk 74 x1.fs x1.fin x1.fouts) x8).bind fun x14 => if x14 = true then (if x13.2 = 0 then (nx1 (wk .i64 (x8 + 1))) else some 4) else nx1 (wk .i64 (x8 + 1))) else infer_ask_wrong.k1 fu x1
def infer_ask_wrong.W1 (fu : Nat) (x1 : T_infer_ask) (x8 : Int) : Option Int :=
  cloop (fun next s => infer_ask_wrong.L1 fu x1 next s) fu x8
def infer_ask_wrong (fu : Nat) (x1 : T_infer_ask) : Option Int :=
  chk (x1.fop = 74) <| jn 1 () (fun (t : Unit) => infer_ask_wrong.k1 fu x1) <| infer_ask_wrong.W1 fu x1 0
def infer_misfit (fu : Nat) : Option ((List (List Int)) × Int) :=
  some ([], 3)
def shape_Broadcast.k3 (fu : Nat) (x7 : List Int) : Option ((List Int) × Int) :=
  (shape_Size fu x7).bind fun x8 => if x8.2 = 0 then (some (x7, 0)) else some ([], x8.2)
def shape_Broadcast.L1 (fu : Nat) (x4 : List Int) (x5 : List Int) (nx1 : (List Int) → Int → Option ((List Int) × Int)) (x11 : List Int) (x12 : Int) : Option ((List Int) × Int) :=
  if x12 < (x5.length : Int) then ((at? x5 x12).bind fun x15 => (at? x11 (wk .i64 ((wk .i64 ((x4.length : Int) - (x5.length : Int))) + x12))).bind fun x16 => if x16 = 1 then (chk (0 ≤ wk .i64 ((wk .i64 ((x4.length : Int) - (x5.length : Int))) + x12) ∧ wk .i64 ((wk .i64 ((x4.length : Int) - (x5.length : Int))) + x12) < (x11.length : Int)) <| nx1 (x11.set (wk .i64 ((wk .i64 ((x4.length : Int) - (x5.length : Int))) + x12)).toNat x15) (wk .i64 (x12 + 1))) else if x15 = 1 then (nx1 x11 (wk .i64 (x12 + 1))) else if x15 = x16 then (nx1 x11 (wk .i64 (x12 + 1))) else some ([], 3)) else shape_Broadcast.k3 fu x11
def shape_Broadcast.W1 (fu : Nat) (x4 : List Int) (x5 : List Int) (x11 : List Int) (x12 : Int) : Option ((List Int) × Int) :=
  cloop (fun next s => shape_Broadcast.L1 fu x4 x5 (fun x11 x12 => next (x11, x12)) s.1 s.2) fu (x11, x12)
def shape_Broadcast.k2 (fu : Nat) (x4 : List Int) (x5 : List Int) : Option ((List Int) × Int) :=
  (slices_Clone_int fu x4).bind fun x6 => jn 3 () (fun (t : List Int) => shape_Broadcast.k3 fu t) <| shape_Broadcast.W1 fu x4 x5 x6 0
def shape_Broadcast.k1 (fu : Nat) (x1 : List Int) (x2 : List Int) (x3 : List (List Int)) : Option ((List Int) × Int) :=
  jn 2 () (fun (t : (List Int) × (List Int)) => shape_Broadcast.k2 fu t.1 t.2) <| if (x1.length : Int) < (x2.length : Int) then (shape_Broadcast.k2 fu x2 x1) else shape_Broadcast.k2 fu x1 x2
def shape_Broadcast.L2 (fu : Nat) (x1 : List Int) (x2 : List Int) (nx2 : (List (List Int)) → Int → Option ((List Int) × Int)) (x19 : List (List Int)) (x20 : Int) : Option ((List Int) × Int) :=
  if x20 < 2 then ((at? x19 x20).bind fun x23 => (shape_Size fu x23).bind fun x24 => if x24.2 = 0 then (nx2 x19 (wk .i64 (x20 + 1))) else some ([], x24.2)) else shape_Broadcast.k1 fu x1 x2 x19
def shape_Broadcast.W2 (fu : Nat) (x1 : List Int) (x2 : List Int) (x19 : List (List Int)) (x20 : Int) : Option ((List Int) × Int) :=
  cloop (fun next s => shape_Broadcast.L2 fu x1 x2 (fun x19 x20 => next (x19, x20)) s.1 s.2) fu (x19, x20)
def shape_Broadcast (fu : Nat) (x1 : List Int) (x2 : List Int) : Option ((List Int) × Int) :=
  jn 1 () (fun (t : List (List Int)) => shape_Broadcast.k1 fu x1 x2 t) <| shape_Broadcast.W2 fu x1 x2 ([x1, x2]) 0
def infer_within (fu : Nat) (x1 : List Int) (x2 : List Int) : Option Int :=
  (shape_Broadcast fu x1 x2).bind fun x3 => if x3.2 = 4 then (some x3.2) else if x3.2 = 0 then ((slices_Equal_int fu x3.1 x2).bind fun x4 => if x4 = true then (some 0) else some 3) else some 3
def infer_one (fu : Nat) (x1 : List Int) : Option ((List (List Int)) × Int) :=
  some ([x1], 0)
def infer_ask_gemm.k3 (fu : Nat) (x1 : T_infer_ask) (x6 : Bool) (x7 : List Int) (x8 : Bool) (x9 : List Int) : Option ((List (List Int)) × Int) :=
  (at? x7 1).bind fun x10 => (at? x9 0).bind fun x11 => if x10 = x11 then ((at? x7 0).bind fun x12 => (at? x9 1).bind fun x13 => (infer_ask_has fu (T_infer_ask.mk 74 (T_Setting.mk x1.fs.fAxis x1.fs.fAxes x1.fs.fHasAxes x1.fs.fKeep x1.fs.fNoop x1.fs.fLast x1.fs.fZero x1.fs.fPerm x1.fs.fHasPerm x1.fs.fAlpha x1.fs.fBeta x1.fs.fEpsilon x1.fs.fLow x1.fs.fHigh x1.fs.fFmod x1.fs.fTo x1.fs.fMode x6 x8 x1.fs.fGroup x1.fs.fKernel x1.fs.fStrides x1.fs.fPads x1.fs.fDilations x1.fs.fAuto x1.fs.fCeil x1.fs.fCount x1.fs.fBlock x1.fs.fStart x1.fs.fEnd x1.fs.fHasEnd x1.fs.fValue) x1.fin x1.fouts) 2).bind fun x14 => if x14 = true then ((infer_ask_dims fu (T_infer_ask.mk 74 (T_Setting.mk x1.fs.fAxis x1.fs.fAxes x1.fs.fHasAxes x1.fs.fKeep x1.fs.fNoop x1.fs.fLast x1.fs.fZero x1.fs.fPerm x1.fs.fHasPerm x1.fs.fAlpha x1.fs.fBeta x1.fs.fEpsilon x1.fs.fLow x1.fs.fHigh x1.fs.fFmod x1.fs.fTo x1.fs.fMode x6 x8 x1.fs.fGroup x1.fs.fKernel x1.fs.fStrides x1.fs.fPads x1.fs.fDilations x1.fs.fAuto x1.fs.fCeil x1.fs.fCount x1.fs.fBlock x1.fs.fStart x1.fs.fEnd x1.fs.fHasEnd x1.fs.fValue) x1.fin x1.fouts) 2).bind fun x15 => (infer_within fu x15 ([x12, x13])).bind fun x16 => if x16 = 0 then ((infer_one fu ([x12, x13])).bind fun x17 => some (x17.1, x17.2)) else some ([], x16)) else (infer_one fu ([x12, x13])).bind fun x18 => some (x18.1, x18.2)) else (infer_misfit fu).bind fun x19 => some (x19.1, x19.2)
def infer_ask_gemm.L1 (fu : Nat) (x1 : T_infer_ask) (x5 : List Int) (x6 : Bool) (x7 : List Int) (nx1 : (List Int) → Int → Int → Option ((List (List Int)) × Int)) (x22 : List Int) (x23 : Int) (x24 : Int) : Option ((List (List Int)) × Int) :=
  if x23 < x24 then (chk (0 ≤ x24 ∧ x24 < ((x5.length : Nat) : Int)) <| (at? x22 x24).bind fun x27 => chk (0 ≤ x23 ∧ x23 < ((x5.length : Nat) : Int)) <| (at? x22 x23).bind fun x28 => chk (0 ≤ x23 ∧ x23 < (x22.length : Int)) <| chk (0 ≤ x24 ∧ x24 < ((x22.set x23.toNat x27).length : Int)) <| nx1 ((x22.set x23.toNat x27).set x24.toNat x28) (wk .i64 (x23 + 1)) (wk .i64 (x24 - 1))) else chk (x5.length = x22.length) <| infer_ask_gemm.k3 fu x1 x6 x7 true x22
def infer_ask_gemm.W1 (fu : Nat) (x1 : T_infer_ask) (x5 : List Int) (x6 : Bool) (x7 : List Int) (x22 : List Int) (x23 : Int) (x24 : Int) : Option ((List (List Int)) × Int) :=
  cloop (fun next s => infer_ask_gemm.L1 fu x1 x5 x6 x7 (fun x22 x23 x24 => next (x22, x23, x24)) s.1 s.2.1 s.2.2) fu (x22, x23, x24)
def infer_ask_gemm.k2 (fu : Nat) (x1 : T_infer_ask) (x5 : List Int) (x6 : Bool) (x7 : List Int) : Option ((List (List Int)) × Int) :=
  jn 3 () (fun (t : Bool × (List Int)) => infer_ask_gemm.k3 fu x1 x6 x7 t.1 t.2) <| if x1.fs.fTransB = true then (infer_ask_gemm.W1 fu x1 x5 x6 x7 x5 0 (wk .i64 ((x5.length : Int) - 1))) else infer_ask_gemm.k3 fu x1 x6 x7 false x5
def infer_ask_gemm.L2 (fu : Nat) (x1 : T_infer_ask) (x3 : List Int) (x5 : List Int) (nx2 : (List Int) → Int → Int → Option ((List (List Int)) × Int)) (x31 : List Int) (x32 : Int) (x33 : Int) : Option ((List (List Int)) × Int) :=
  if x32 < x33 then (chk (0 ≤ x33 ∧ x33 < ((x3.length : Nat) : Int)) <| (at? x31 x33).bind fun x36 => chk (0 ≤ x32 ∧ x32 < ((x3.length : Nat) : Int)) <| (at? x31 x32).bind fun x37 => chk (0 ≤ x32 ∧ x32 < (x31.length : Int)) <| chk (0 ≤ x33 ∧ x33 < ((x31.set x32.toNat x36).length : Int)) <| nx2 ((x31.set x32.toNat x36).set x33.toNat x37) (wk .i64 (x32 + 1)) (wk .i64 (x33 - 1))) else chk (x3.length = x31.length) <| infer_ask_gemm.k2 fu x1 x5 true x31
def infer_ask_gemm.W2 (fu : Nat) (x1 : T_infer_ask) (x3 : List Int) (x5 : List Int) (x31 : List Int) (x32 : Int) (x33 : Int) : Option ((List (List Int)) × Int) :=
  cloop (fun next s => infer_ask_gemm.L2 fu x1 x3 x5 (fun x31 x32 x33 => next (x31, x32, x33)) s.1 s.2.1 s.2.2) fu (x31, x32, x33)
def infer_ask_gemm.k1 (fu : Nat) (x1 : T_infer_ask) (x3 : List Int) (x5 : List Int) : Option ((List (List Int)) × Int) :=
  jn 2 () (fun (t : Bool × (List Int)) => infer_ask_gemm.k2 fu x1 x5 t.1 t.2) <| if x1.fs.fTransA = true then (infer_ask_gemm.W2 fu x1 x3 x5 x3 0 (wk .i64 ((x3.length : Int) - 1))) else infer_ask_gemm.k2 fu x1 x5 false x3
def infer_ask_gemm (fu : Nat) (x1 : T_infer_ask) : Option ((List (List Int)) × Int) :=
  chk (x1.fop = 74) <| (infer_ask_dims fu (T_infer_ask.mk 74 x1.fs x1.fin x1.fouts) 0).bind fun x2 => (slices_Clone_int fu x2).bind fun x3 => (infer_ask_dims fu (T_infer_ask.mk 74 x1.fs x1.fin x1.fouts) 1).bind fun x4 => (slices_Clone_int fu x4).bind fun x5 => jn 1 () (fun (t : Unit) => infer_ask_gemm.k1 fu x1 x3 x5) <| if (x3.length : Int) = 2 then (if (x5.length : Int) = 2 then (infer_ask_gemm.k1 fu x1 x3 x5) else (infer_misfit fu).bind fun x38 => some (x38.1, x38.2)) else (infer_misfit fu).bind fun x39 => some (x39.1, x39.2)
def infer_ask_shapes.k3 (fu : Nat) (x1 : T_infer_ask) : Option ((List (List Int)) × Int) :=
  (infer_ask_gemm fu (T_infer_ask.mk 74 x1.fs x1.fin x1.fouts)).bind fun x3 => some (x3.1, x3.2)
def infer_ask_shapes.k2 (fu : Nat) (x1 : T_infer_ask) : Option ((List (List Int)) × Int) :=
  jn 3 () (fun (t : Unit) => infer_ask_shapes.k3 fu x1) <| infer_ask_shapes.k3 fu x1
def infer_ask_shapes.k1 (fu : Nat) (x1 : T_infer_ask) : Option ((List (List Int)) × Int) :=
  jn 2 () (fun (t : Unit) => infer_ask_shapes.k2 fu x1) <| infer_ask_shapes.k2 fu x1
def infer_ask_shapes (fu : Nat) (x1 : T_infer_ask) : Option ((List (List Int)) × Int) :=
  chk (x1.fop = 74) <| (infer_ask_dims fu (T_infer_ask.mk 74 x1.fs x1.fin x1.fouts) 0).bind fun x2 => jn 1 () (fun (t : Unit) => infer_ask_shapes.k1 fu x1) <| infer_ask_shapes.k1 fu x1
def infer_ask_out.k1 (fu : Nat) (x1 : T_infer_ask) : Option Int :=
  (infer_ask_val fu (T_infer_ask.mk 74 x1.fs x1.fin x1.fouts) 0).bind fun x2 => some x2.fType
def infer_ask_out.k3 (fu : Nat) (x1 : T_infer_ask) : Option Int :=
  infer_ask_out.k1 fu x1
def infer_ask_out.k2 (fu : Nat) (x1 : T_infer_ask) : Option Int :=
  jn 3 () (fun (t : Unit) => infer_ask_out.k3 fu x1) <| infer_ask_out.k3 fu x1
def infer_ask_out (fu : Nat) (x1 : T_infer_ask) : Option Int :=
  chk (x1.fop = 74) <| jn 1 () (fun (t : Unit) => infer_ask_out.k1 fu x1) <| jn 2 () (fun (t : Unit) => infer_ask_out.k2 fu x1) <| infer_ask_out.k2 fu x1
def infer_Node.L1 (fu : Nat) (x2 : T_Setting) (x3 : List T_Val) (x4 : Int) (x7 : (List (List Int)) × Int) (nx1 : (List T_Val) → Int → Option ((List T_Val) × Int)) (x12 : List T_Val) (x13 : Int) : Option ((List T_Val) × Int) :=
  if x13 < (x7.1.length : Int) then ((at? x7.1 x13).bind fun x18 => (shape_Size fu x18).bind fun x19 => if x19.2 = 0 then ((infer_ask_out fu (T_infer_ask.mk 74 x2 x3 x4)).bind fun x20 => (slices_Clone_int fu x18).bind fun x21 => chk ((x12.length + 1 : Int) * 144 ≤ 140737488355328) <| nx1 (x12 ++ ([T_Val.mk x20 x21 false (T_Tensor.mk 0 ([]) ([]) ([]) ([]))])) (wk .i64 (x13 + 1))) else some ([], 4)) else some (x12, 0)
def infer_Node.W1 (fu : Nat) (x2 : T_Setting) (x3 : List T_Val) (x4 : Int) (x7 : (List (List Int)) × Int) (x12 : List T_Val) (x13 : Int) : Option ((List T_Val) × Int) :=
  cloop (fun next s => infer_Node.L1 fu x2 x3 x4 x7 (fun x12 x13 => next (x12, x13)) s.1 s.2) fu (x12, x13)
def infer_Node (fu : Nat) (x1 : Int) (x2 : T_Setting) (x3 : List T_Val) (x4 : Int) : Option ((List T_Val) × Int) :=
  chk (x1 = 74) <| (infer_ask_complete fu (T_infer_ask.mk 74 x2 x3 x4)).bind fun x5 => if x5 = true then ((infer_ask_wrong fu (T_infer_ask.mk 74 x2 x3 x4)).bind fun x6 => if x6 = 0 then ((infer_ask_shapes fu (T_infer_ask.mk 74 x2 x3 x4)).bind fun x7 => if x7.2 = 0 then (infer_Node.W1 fu x2 x3 x4 x7 ([] : List T_Val) 0) else some ([], x7.2)) else some ([], x6)) else some ([], 1)
def mat_matrix (fu : Nat) (x1 : T_Tensor) (x2 : Bool) : Option T_mat_grid :=
  (at? x1.fDims 0).bind fun x3 => (at? x1.fDims 1).bind fun x4 => if x2 = true then (some (T_mat_grid.mk x1.fF 0 1 x4 x4 x3)) else some (T_mat_grid.mk x1.fF 0 x4 1 x3 x4)
def mat_line_uint32_list.L1 (fu : Nat) (x1 : T_mat_line_uint32) (nx1 : (List Int) → Int → Option (List Int)) (x3 : List Int) (x4 : Int) : Option (List Int) :=
  if x4 < x1.fn then ((at? x1.fl (wk .i64 (x1.ffirst + (wk .i64 (x4 * x1.fstride))))).bind fun x6 => chk ((x3.length + 1 : Int) * 4 ≤ 140737488355328) <| nx1 (x3 ++ ([x6])) (wk .i64 (x4 + 1))) else some x3
def mat_line_uint32_list.W1 (fu : Nat) (x1 : T_mat_line_uint32) (x3 : List Int) (x4 : Int) : Option (List Int) :=
  cloop (fun next s => mat_line_uint32_list.L1 fu x1 (fun x3 x4 => next (x3, x4)) s.1 s.2) fu (x3, x4)
def mat_line_uint32_list (fu : Nat) (x1 : T_mat_line_uint32) : Option (List Int) :=
  mat_line_uint32_list.W1 fu x1 ([] : List Int) 0
def mat_grid_down (fu : Nat) (x1 : T_mat_grid) (x2 : Int) : Option (List Int) :=
  (mat_line_uint32_list fu (T_mat_line_uint32.mk x1.fl (wk .i64 (x1.fat + (wk .i64 (x2 * x1.fcol)))) x1.frow x1.frows)).bind fun x3 => some x3
def mat_grid_across (fu : Nat) (x1 : T_mat_grid) (x2 : Int) : Option (List Int) :=
  (mat_line_uint32_list fu (T_mat_line_uint32.mk x1.fl (wk .i64 (x1.fat + (wk .i64 (x2 * x1.frow)))) x1.fcol x1.fcolumns)).bind fun x3 => some x3
def soft_open (fu : Nat) (x1 : Int) : Option T_soft_number :=
  if (wk .i64 (band .u32 (shrk .u32 x1 23) 255)) = 255 then (some (T_soft_number.mk (decide ((shrk .u32 x1 31) = 1)) (!(decide ((wk .u64 (band .u32 x1 8388607)) = 0))) (decide ((wk .u64 (band .u32 x1 8388607)) = 0)) 0 0)) else if (wk .i64 (band .u32 (shrk .u32 x1 23) 255)) = 0 then (some (T_soft_number.mk (decide ((shrk .u32 x1 31) = 1)) false false (-149) (wk .u64 (band .u32 x1 8388607)))) else some (T_soft_number.mk (decide ((shrk .u32 x1 31) = 1)) false false (wk .i64 ((wk .i64 (band .u32 (shrk .u32 x1 23) 255)) - 150)) (bor .u64 (wk .u64 (band .u32 x1 8388607)) 8388608))
def soft_sign (fu : Nat) (x1 : Bool) : Option Int :=
  if x1 = true then (some 2147483648) else some 0
def math_bits_Len64.k2 (fu : Nat) (x4 : Int) (x5 : Int) : Option Int :=
  if 256 ≤ x4 then ((sat? (⟨((([0, 1, 2, 2, 3, 3, 3, 3, 4, 4, 4, 4, 4, 4, 4, 4, 5, 5, 5, 5, 5, 5, 5, 5, 5, 5, 5, 5, 5, 5, 5, 5, 6, 6, 6, 6, 6, 6, 6, 6, 6, 6, 6, 6, 6, 6, 6, 6, 6, 6, 6, 6, 6, 6, 6, 6, 6, 6, 6, 6, 6, 6, 6, 6]).append ([7, 7, 7, 7, 7, 7, 7, 7, 7, 7, 7, 7, 7, 7, 7, 7, 7, 7, 7, 7, 7, 7, 7, 7, 7, 7, 7, 7, 7, 7, 7, 7, 7, 7, 7, 7, 7, 7, 7, 7, 7, 7, 7, 7, 7, 7, 7, 7, 7, 7, 7, 7, 7, 7, 7, 7, 7, 7, 7, 7, 7, 7, 7, 7])).append (([8, 8, 8, 8, 8, 8, 8, 8, 8, 8, 8, 8, 8, 8, 8, 8, 8, 8, 8, 8, 8, 8, 8, 8, 8, 8, 8, 8, 8, 8, 8, 8, 8, 8, 8, 8, 8, 8, 8, 8, 8, 8, 8, 8, 8, 8, 8, 8, 8, 8, 8, 8, 8, 8, 8, 8, 8, 8, 8, 8, 8, 8, 8, 8]).append ([8, 8, 8, 8, 8, 8, 8, 8, 8, 8, 8, 8, 8, 8, 8, 8, 8, 8, 8, 8, 8, 8, 8, 8, 8, 8, 8, 8, 8, 8, 8, 8, 8, 8, 8, 8, 8, 8, 8, 8, 8, 8, 8, 8, 8, 8, 8, 8, 8, 8, 8, 8, 8, 8, 8, 8, 8, 8, 8, 8, 8, 8, 8, 8]))).toArray⟩ : ByteArray) (wk .u8 (shrk .u64 x4 8))).bind fun x6 => some (wk .i64 ((wk .i64 (x5 + 8)) + (wk .i64 x6)))) else (sat? (⟨((([0, 1, 2, 2, 3, 3, 3, 3, 4, 4, 4, 4, 4, 4, 4, 4, 5, 5, 5, 5, 5, 5, 5, 5, 5, 5, 5, 5, 5, 5, 5, 5, 6, 6, 6, 6, 6, 6, 6, 6, 6, 6, 6, 6, 6, 6, 6, 6, 6, 6, 6, 6, 6, 6, 6, 6, 6, 6, 6, 6, 6, 6, 6, 6]).append ([7, 7, 7, 7, 7, 7, 7, 7, 7, 7, 7, 7, 7, 7, 7, 7, 7, 7, 7, 7, 7, 7, 7, 7, 7, 7, 7, 7, 7, 7, 7, 7, 7, 7, 7, 7, 7, 7, 7, 7, 7, 7, 7, 7, 7, 7, 7, 7, 7, 7, 7, 7, 7, 7, 7, 7, 7, 7, 7, 7, 7, 7, 7, 7])).append (([8, 8, 8, 8, 8, 8, 8, 8, 8, 8, 8, 8, 8, 8, 8, 8, 8, 8, 8, 8, 8, 8, 8, 8, 8, 8, 8, 8, 8, 8, 8, 8, 8, 8, 8, 8, 8, 8, 8, 8, 8, 8, 8, 8, 8, 8, 8, 8, 8, 8, 8, 8, 8, 8, 8, 8, 8, 8, 8, 8, 8, 8, 8, 8]).append ([8, 8, 8, 8, 8, 8, 8, 8, 8, 8, 8, 8, 8, 8, 8, 8, 8, 8, 8, 8, 8, 8, 8, 8, 8, 8, 8, 8, 8, 8, 8, 8, 8, 8, 8, 8, 8, 8, 8, 8, 8, 8, 8, 8, 8, 8, 8, 8, 8, 8, 8, 8, 8, 8, 8, 8, 8, 8, 8, 8, 8, 8, 8, 8]))).toArray⟩ : ByteArray) (wk .u8 x4)).bind fun x7 => some (wk .i64 (x5 + (wk .i64 x7)))
def math_bits_Len64.k1 (fu : Nat) (x2 : Int) (x3 : Int) : Option Int :=
  jn 2 () (fun (t : Int × Int) => math_bits_Len64.k2 fu t.1 t.2) <| if 65536 ≤ x2 then (math_bits_Len64.k2 fu (shrk .u64 x2 16) (wk .i64 (x3 + 16))) else math_bits_Len64.k2 fu x2 x3
def math_bits_Len64 (fu : Nat) (x1 : Int) : Option Int :=
  jn 1 () (fun (t : Int × Int) => math_bits_Len64.k1 fu t.1 t.2) <| if 4294967296 ≤ x1 then (math_bits_Len64.k1 fu (shrk .u64 x1 32) 32) else math_bits_Len64.k1 fu x1 0
def soft_outwards (fu : Nat) (x1 : Int) (x2 : Bool) : Option Bool :=
  chk (x1 = 0) <| some false
def soft_tiny (fu : Nat) (x1 : Int) (x2 : Bool) : Option Int :=
  chk (x1 = 0) <| (soft_outwards fu 0 x2).bind fun x3 => if x3 = true then ((soft_sign fu x2).bind fun x4 => some (bor .u32 x4 1)) else (soft_sign fu x2).bind fun x5 => some x5
def soft_huge.k1 (fu : Nat) (x2 : Bool) : Option Int :=
  (soft_sign fu x2).bind fun x3 => some (bor .u32 x3 2139095040)
def soft_huge (fu : Nat) (x1 : Int) (x2 : Bool) : Option Int :=
  chk (x1 = 0) <| jn 1 () (fun (t : Unit) => soft_huge.k1 fu x2) <| soft_huge.k1 fu x2
def soft_Round.k3 (fu : Nat) (x2 : Bool) (x3 : Int) (x6 : Int) (x11 : Int) : Option Int :=
  if x11 = 0 then ((soft_sign fu x2).bind fun x12 => some x12) else if 104 < (wk .i64 (x3 + (imax (wk .i64 (x6 - 24)) (wk .i64 ((-149) - x3))))) then ((soft_huge fu 0 x2).bind fun x13 => some x13) else if 2139095040 ≤ (wk .u64 ((shlk .u64 (wk .u64 (wk .i64 ((wk .i64 (x3 + (imax (wk .i64 (x6 - 24)) (wk .i64 ((-149) - x3))))) + 149))) 23) + x11)) then ((soft_huge fu 0 x2).bind fun x14 => some x14) else (soft_sign fu x2).bind fun x15 => some (bor .u32 x15 (wk .u32 (wk .u64 ((shlk .u64 (wk .u64 (wk .i64 ((wk .i64 (x3 + (imax (wk .i64 (x6 - 24)) (wk .i64 ((-149) - x3))))) + 149))) 23) + x11))))
def soft_Round.k2 (fu : Nat) (x2 : Bool) (x3 : Int) (x6 : Int) (x7 : Int) (x8 : Bool) (x9 : Bool) (x10 : Bool) : Option Int :=
  jn 3 () (fun (t : Int) => soft_Round.k3 fu x2 x3 x6 t) <| if x8 = true then (soft_Round.k3 fu x2 x3 x6 (wk .u64 (x7 + 1))) else if x9 = true then (if (band .u64 x7 1) = 1 then (soft_Round.k3 fu x2 x3 x6 (wk .u64 (x7 + 1))) else soft_Round.k3 fu x2 x3 x6 x7) else soft_Round.k3 fu x2 x3 x6 x7
def soft_Round.k4 (fu : Nat) (x2 : Bool) (x3 : Int) (x4 : Int) (x5 : Bool) (x6 : Int) (x16 : Bool) : Option Int :=
  if (band .u64 x4 (wk .u64 ((shlk .u64 1 (imax (wk .i64 (x6 - 24)) (wk .i64 ((-149) - x3)))) - 1))) = (shlk .u64 1 (wk .i64 ((imax (wk .i64 (x6 - 24)) (wk .i64 ((-149) - x3))) - 1))) then (if (band .u64 x4 (wk .u64 ((shlk .u64 1 (imax (wk .i64 (x6 - 24)) (wk .i64 ((-149) - x3)))) - 1))) = 0 then (soft_Round.k2 fu x2 x3 x6 (shrk .u64 x4 (imax (wk .i64 (x6 - 24)) (wk .i64 ((-149) - x3)))) x16 (!x5) x5) else soft_Round.k2 fu x2 x3 x6 (shrk .u64 x4 (imax (wk .i64 (x6 - 24)) (wk .i64 ((-149) - x3)))) x16 (!x5) true) else if (band .u64 x4 (wk .u64 ((shlk .u64 1 (imax (wk .i64 (x6 - 24)) (wk .i64 ((-149) - x3)))) - 1))) = 0 then (soft_Round.k2 fu x2 x3 x6 (shrk .u64 x4 (imax (wk .i64 (x6 - 24)) (wk .i64 ((-149) - x3)))) x16 false x5) else soft_Round.k2 fu x2 x3 x6 (shrk .u64 x4 (imax (wk .i64 (x6 - 24)) (wk .i64 ((-149) - x3)))) x16 false true
def soft_Round.k1 (fu : Nat) (x2 : Bool) (x3 : Int) (x4 : Int) (x5 : Bool) (x6 : Int) : Option Int :=
  jn 2 () (fun (t : Int × Bool × Bool × Bool) => soft_Round.k2 fu x2 x3 x6 t.1 t.2.1 t.2.2.1 t.2.2.2) <| if (imax (wk .i64 (x6 - 24)) (wk .i64 ((-149) - x3))) ≤ 0 then (chk (0 ≤ (wk .i64 (0 - (imax (wk .i64 (x6 - 24)) (wk .i64 ((-149) - x3)))))) <| soft_Round.k2 fu x2 x3 x6 (shlk .u64 x4 (wk .i64 (0 - (imax (wk .i64 (x6 - 24)) (wk .i64 ((-149) - x3)))))) false false x5) else if x6 < (imax (wk .i64 (x6 - 24)) (wk .i64 ((-149) - x3))) then (soft_Round.k2 fu x2 x3 x6 0 false false true) else chk (0 ≤ (imax (wk .i64 (x6 - 24)) (wk .i64 ((-149) - x3)))) <| chk (0 ≤ (wk .i64 ((imax (wk .i64 (x6 - 24)) (wk .i64 ((-149) - x3))) - 1))) <| jn 4 () (fun (t : Bool) => soft_Round.k4 fu x2 x3 x4 x5 x6 t) <| if (shlk .u64 1 (wk .i64 ((imax (wk .i64 (x6 - 24)) (wk .i64 ((-149) - x3))) - 1))) < (band .u64 x4 (wk .u64 ((shlk .u64 1 (imax (wk .i64 (x6 - 24)) (wk .i64 ((-149) - x3)))) - 1))) then (soft_Round.k4 fu x2 x3 x4 x5 x6 true) else if (band .u64 x4 (wk .u64 ((shlk .u64 1 (imax (wk .i64 (x6 - 24)) (wk .i64 ((-149) - x3)))) - 1))) = (shlk .u64 1 (wk .i64 ((imax (wk .i64 (x6 - 24)) (wk .i64 ((-149) - x3))) - 1))) then (soft_Round.k4 fu x2 x3 x4 x5 x6 x5) else soft_Round.k4 fu x2 x3 x4 x5 x6 false
def soft_Round (fu : Nat) (x1 : Int) (x2 : Bool) (x3 : Int) (x4 : Int) (x5 : Bool) : Option Int :=
  chk (x1 = 0) <| (math_bits_Len64 fu x4).bind fun x6 => jn 1 () (fun (t : Unit) => soft_Round.k1 fu x2 x3 x4 x5 x6) <| if x6 = 0 then (if x5 = true then ((soft_tiny fu 0 x2).bind fun x17 => some x17) else (soft_sign fu x2).bind fun x18 => some x18) else if x3 < (-300) then ((soft_tiny fu 0 x2).bind fun x19 => some x19) else if 200 < x3 then ((soft_huge fu 0 x2).bind fun x20 => some x20) else soft_Round.k1 fu x2 x3 x4 x5 x6
def soft_MulBy.k1 (fu : Nat) (x4 : T_soft_number) (x5 : T_soft_number) : Option Int :=
  (soft_Round fu 0 (!(x4.fneg == x5.fneg)) (wk .i64 (x4.fexp + x5.fexp)) (wk .u64 (x4.fsig * x5.fsig)) false).bind fun x6 => some x6
def soft_MulBy (fu : Nat) (x1 : Int) (x2 : Int) (x3 : Int) : Option Int :=
  chk (x1 = 0) <| (soft_open fu x2).bind fun x4 => (soft_open fu x3).bind fun x5 => jn 1 () (fun (t : Unit) => soft_MulBy.k1 fu x4 x5) <| if x4.fnan = true then (some 2143289344) else if x5.fnan = true then (some 2143289344) else if x4.finf = true then (if x5.finf = true then ((soft_sign fu (!(x4.fneg == x5.fneg))).bind fun x7 => some (bor .u32 x7 2139095040)) else if x5.fsig = 0 then (some 2143289344) else (soft_sign fu (!(x4.fneg == x5.fneg))).bind fun x8 => some (bor .u32 x8 2139095040)) else if x5.finf = true then (if x4.fsig = 0 then (some 2143289344) else (soft_sign fu (!(x4.fneg == x5.fneg))).bind fun x9 => some (bor .u32 x9 2139095040)) else soft_MulBy.k1 fu x4 x5
def soft_Mul (fu : Nat) (x1 : Int) (x2 : Int) : Option Int :=
  (soft_MulBy fu 0 x1 x2).bind fun x3 => some x3
def soft_nought (fu : Nat) (x1 : Int) : Option Int :=
  chk (x1 = 0) <| (soft_sign fu (decide ((0 : Int) = 2))).bind fun x2 => some x2
def soft_AddBy.k3 (fu : Nat) (x6 : Bool) (x9 : Bool) (x12 : Int) (x13 : Int) (x14 : Int) (x15 : Bool) : Option Int :=
  if (x6 == x9) = true then ((soft_Round fu 0 x6 x12 (wk .u64 (x13 + x14)) x15).bind fun x16 => some x16) else if x15 = true then ((soft_Round fu 0 x6 x12 (wk .u64 ((wk .u64 (x13 - x14)) - 1)) true).bind fun x17 => some x17) else if x13 = x14 then ((soft_nought fu 0).bind fun x18 => some x18) else if x14 < x13 then ((soft_Round fu 0 x6 x12 (wk .u64 (x13 - x14)) false).bind fun x19 => some x19) else (soft_Round fu 0 x9 x12 (wk .u64 (x14 - x13)) false).bind fun x20 => some x20
def soft_AddBy.k2 (fu : Nat) (x6 : Bool) (x7 : Int) (x8 : Int) (x9 : Bool) (x10 : Int) (x11 : Int) : Option Int :=
  jn 3 () (fun (t : Int × Int × Int × Bool) => soft_AddBy.k3 fu x6 x9 t.1 t.2.1 t.2.2.1 t.2.2.2) <| if (wk .i64 (x7 - x10)) ≤ 38 then (chk (0 ≤ (wk .i64 (x7 - x10))) <| soft_AddBy.k3 fu x6 x9 x10 (shlk .u64 x8 (wk .i64 (x7 - x10))) x11 false) else chk (0 ≤ (wk .i64 ((wk .i64 (x7 - x10)) - 38))) <| soft_AddBy.k3 fu x6 x9 (wk .i64 (x7 - 38)) (shlk .u64 x8 38) (shrk .u64 x11 (wk .i64 ((wk .i64 (x7 - x10)) - 38))) (!(decide ((shlk .u64 (shrk .u64 x11 (wk .i64 ((wk .i64 (x7 - x10)) - 38))) (wk .i64 ((wk .i64 (x7 - x10)) - 38))) = x11)))
def soft_AddBy.k1 (fu : Nat) (x4 : T_soft_number) (x5 : T_soft_number) : Option Int :=
  jn 2 () (fun (t : Bool × Int × Int × Bool × Int × Int) => soft_AddBy.k2 fu t.1 t.2.1 t.2.2.1 t.2.2.2.1 t.2.2.2.2.1 t.2.2.2.2.2) <| if x4.fexp < x5.fexp then (soft_AddBy.k2 fu x5.fneg x5.fexp x5.fsig x4.fneg x4.fexp x4.fsig) else soft_AddBy.k2 fu x4.fneg x4.fexp x4.fsig x5.fneg x5.fexp x5.fsig
def soft_AddBy (fu : Nat) (x1 : Int) (x2 : Int) (x3 : Int) : Option Int :=
  chk (x1 = 0) <| (soft_open fu x2).bind fun x4 => (soft_open fu x3).bind fun x5 => jn 1 () (fun (t : Unit) => soft_AddBy.k1 fu x4 x5) <| if x4.fnan = true then (some 2143289344) else if x5.fnan = true then (some 2143289344) else if x4.finf = true then (if x5.finf = true then (if (x4.fneg == x5.fneg) = true then (some x2) else some 2143289344) else some x2) else if x5.finf = true then (some x3) else if x4.fsig = 0 then (if x5.fsig = 0 then (if x2 = x3 then (some x2) else (soft_nought fu 0).bind fun x21 => some x21) else soft_AddBy.k1 fu x4 x5) else soft_AddBy.k1 fu x4 x5
def soft_Add (fu : Nat) (x1 : Int) (x2 : Int) : Option Int :=
  (soft_AddBy fu 0 x1 x2).bind fun x3 => some x3
def mat_Dot.L1 (fu : Nat) (x1 : List Int) (x2 : List Int) (nx1 : Int → Int → Option Int) (x7 : Int) (x8 : Int) : Option Int :=
  if x8 < (imin (x1.length : Int) (x2.length : Int)) then ((at? x1 x8).bind fun x13 => (at? x2 x8).bind fun x14 => (soft_Mul fu x13 x14).bind fun x15 => (soft_Add fu x7 x15).bind fun x16 => nx1 x16 (wk .i64 (x8 + 1))) else some x7
def mat_Dot.W1 (fu : Nat) (x1 : List Int) (x2 : List Int) (x7 : Int) (x8 : Int) : Option Int :=
  cloop (fun next s => mat_Dot.L1 fu x1 x2 (fun x7 x8 => next (x7, x8)) s.1 s.2) fu (x7, x8)
def mat_Dot (fu : Nat) (x1 : List Int) (x2 : List Int) : Option Int :=
  mat_Dot.W1 fu x1 x2 0 0
def shape_strides.L1 (fu : Nat) (x1 : List Int) (nx1 : (List Int) → Int → Int → Option (List Int)) (x3 : List Int) (x4 : Int) (x5 : Int) : Option (List Int) :=
  if 0 ≤ x5 then (chk (0 ≤ x5 ∧ x5 < (x3.length : Int)) <| (at? x1 x5).bind fun x7 => nx1 (x3.set x5.toNat x4) (wk .i64 (x4 * x7)) (wk .i64 (x5 - 1))) else some x3
def shape_strides.W1 (fu : Nat) (x1 : List Int) (x3 : List Int) (x4 : Int) (x5 : Int) : Option (List Int) :=
  cloop (fun next s => shape_strides.L1 fu x1 (fun x3 x4 x5 => next (x3, x4, x5)) s.1 s.2.1 s.2.2) fu (x3, x4, x5)
def shape_strides (fu : Nat) (x1 : List Int) : Option (List Int) :=
  chk (0 ≤ (x1.length : Int) ∧ (x1.length : Int) * 8 ≤ 140737488355328) <| shape_strides.W1 fu x1 (List.replicate (x1.length : Int).toNat (0 : Int)) 1 (wk .i64 ((x1.length : Int) - 1))
def shape_Index.L1 (fu : Nat) (x4 : List Int) (nx1 : (List Int) → Int → Int → Option ((List Int) × Int)) (x6 : List Int) (x7 : Int) (x8 : Int) : Option ((List Int) × Int) :=
  if x8 < (x4.length : Int) then ((at? x4 x8).bind fun x10 => chk (x10 ≠ 0) <| chk (0 ≤ x8 ∧ x8 < (x6.length : Int)) <| nx1 (x6.set x8.toNat (wk .i64 (Int.tdiv x7 x10))) (Int.tmod x7 x10) (wk .i64 (x8 + 1))) else some (x6, 0)
def shape_Index.W1 (fu : Nat) (x4 : List Int) (x6 : List Int) (x7 : Int) (x8 : Int) : Option ((List Int) × Int) :=
  cloop (fun next s => shape_Index.L1 fu x4 (fun x6 x7 x8 => next (x6, x7, x8)) s.1 s.2.1 s.2.2) fu (x6, x7, x8)
def shape_Index.k1 (fu : Nat) (x1 : List Int) (x2 : Int) : Option ((List Int) × Int) :=
  chk (0 ≤ (x1.length : Int) ∧ (x1.length : Int) * 8 ≤ 140737488355328) <| (shape_strides fu x1).bind fun x4 => shape_Index.W1 fu x4 (List.replicate (x1.length : Int).toNat (0 : Int)) x2 0
def shape_Index (fu : Nat) (x1 : List Int) (x2 : Int) : Option ((List Int) × Int) :=
  (shape_Size fu x1).bind fun x3 => if x3.2 = 0 then (jn 1 () (fun (t : Unit) => shape_Index.k1 fu x1 x2) <| if x2 < 0 then (some ([], 2)) else if x3.1 ≤ x2 then (some ([], 2)) else shape_Index.k1 fu x1 x2) else some ([], x3.2)
def shape_From.L1 (fu : Nat) (x1 : List Int) (x2 : List Int) (x7 : (List Int) × Int) (x8 : List Int) (nx1 : Int → Int → Option (Int × Int)) (x12 : Int) (x13 : Int) : Option (Int × Int) :=
  if x13 < (x8.length : Int) then ((at? x8 x13).bind fun x17 => (at? x1 x13).bind fun x18 => if x18 = 1 then (nx1 x12 (wk .i64 (x13 + 1))) else (at? (subN x7.1 (wk .i64 ((x2.length : Int) - (x1.length : Int))).toNat x7.1.length) x13).bind fun x19 => nx1 (wk .i64 (x12 + (wk .i64 (x19 * x17)))) (wk .i64 (x13 + 1))) else some (x12, 0)
def shape_From.W1 (fu : Nat) (x1 : List Int) (x2 : List Int) (x7 : (List Int) × Int) (x8 : List Int) (x12 : Int) (x13 : Int) : Option (Int × Int) :=
  cloop (fun next s => shape_From.L1 fu x1 x2 x7 x8 (fun x12 x13 => next (x12, x13)) s.1 s.2) fu (x12, x13)
def shape_From.k1 (fu : Nat) (x1 : List Int) (x2 : List Int) (x3 : Int) : Option (Int × Int) :=
  (shape_Index fu x2 x3).bind fun x7 => if x7.2 = 0 then (chk (0 ≤ wk .i64 ((x2.length : Int) - (x1.length : Int)) ∧ wk .i64 ((x2.length : Int) - (x1.length : Int)) ≤ (x7.1.length : Int)) <| (shape_strides fu x1).bind fun x8 => shape_From.W1 fu x1 x2 x7 x8 0 0) else some (0, x7.2)
def shape_From (fu : Nat) (x1 : List Int) (x2 : List Int) (x3 : Int) : Option (Int × Int) :=
  (shape_Size fu x1).bind fun x4 => if x4.2 = 0 then ((shape_Size fu x2).bind fun x5 => if x5.2 = 0 then ((shape_Broadcast fu x1 x2).bind fun x6 => jn 1 () (fun (t : Unit) => shape_From.k1 fu x1 x2 x3) <| if x6.2 = 0 then ((slices_Equal_int fu x6.1 x2).bind fun x20 => if x20 = true then (shape_From.k1 fu x1 x2 x3) else some (0, 3)) else some (0, 3)) else some (0, x5.2)) else some (0, x4.2)
def mat_gemm.L2 (fu : Nat) (nx1 : (List Int) → Int → Option (List Int)) (x1 : T_Setting) (x2 : List T_Tensor) (x3 : List Int) (x8 : List (List Int)) (x37 : Int) (x65 : List Int) (nx2 : (List Int) → Int → Option (List Int)) (x74 : List Int) (x75 : Int) : Option (List Int) :=
  if x75 < (x8.length : Int) then ((at? x8 x75).bind fun x84 => (mat_Dot fu x65 x84).bind fun x85 => (soft_Mul fu x1.fAlpha x85).bind fun x86 => if 2 < (x2.length : Int) then ((at? x2 2).bind fun x87 => if x87.fType = 0 then (chk ((x74.length + 1 : Int) * 4 ≤ 140737488355328) <| nx2 (x74 ++ ([x86])) (wk .i64 (x75 + 1))) else (shape_From fu x87.fDims x3 (x74.length : Int)).bind fun x88 => (at? x87.fF x88.1).bind fun x89 => (soft_Mul fu x1.fBeta x89).bind fun x90 => (soft_Add fu x86 x90).bind fun x91 => chk ((x74.length + 1 : Int) * 4 ≤ 140737488355328) <| nx2 (x74 ++ ([x91])) (wk .i64 (x75 + 1))) else chk ((x74.length + 1 : Int) * 4 ≤ 140737488355328) <| nx2 (x74 ++ ([x86])) (wk .i64 (x75 + 1))) else nx1 x74 (wk .i64 (x37 + 1))
def mat_gemm.W2 (fu : Nat) (nx1 : (List Int) → Int → Option (List Int)) (x1 : T_Setting) (x2 : List T_Tensor) (x3 : List Int) (x8 : List (List Int)) (x37 : Int) (x65 : List Int) (x74 : List Int) (x75 : Int) : Option (List Int) :=
  cloop (fun next s => mat_gemm.L2 fu nx1 x1 x2 x3 x8 x37 x65 (fun x74 x75 => next (x74, x75)) s.1 s.2) fu (x74, x75)
def mat_gemm.L1 (fu : Nat) (x1 : T_Setting) (x2 : List T_Tensor) (x3 : List Int) (x5 : T_mat_grid) (x8 : List (List Int)) (nx1 : (List Int) → Int → Option (List Int)) (x36 : List Int) (x37 : Int) : Option (List Int) :=
  if x37 < x5.frows then ((mat_grid_across fu x5 x37).bind fun x65 => mat_gemm.W2 fu nx1 x1 x2 x3 x8 x37 x65 x36 0) else some x36
def mat_gemm.W1 (fu : Nat) (x1 : T_Setting) (x2 : List T_Tensor) (x3 : List Int) (x5 : T_mat_grid) (x8 : List (List Int)) (x36 : List Int) (x37 : Int) : Option (List Int) :=
  cloop (fun next s => mat_gemm.L1 fu x1 x2 x3 x5 x8 (fun x36 x37 => next (x36, x37)) s.1 s.2) fu (x36, x37)
def mat_gemm.k1 (fu : Nat) (x1 : T_Setting) (x2 : List T_Tensor) (x3 : List Int) (x5 : T_mat_grid) (x8 : List (List Int)) : Option (List Int) :=
  mat_gemm.W1 fu x1 x2 x3 x5 x8 ([] : List Int) 0
def mat_gemm.L3 (fu : Nat) (x1 : T_Setting) (x2 : List T_Tensor) (x3 : List Int) (x5 : T_mat_grid) (x7 : T_mat_grid) (nx3 : (List (List Int)) → Int → Option (List Int)) (x93 : List (List Int)) (x94 : Int) : Option (List Int) :=
  if x94 < x7.fcolumns then ((mat_grid_down fu x7 x94).bind fun x96 => chk ((x93.length + 1 : Int) * 24 ≤ 140737488355328) <| nx3 (x93 ++ ([x96])) (wk .i64 (x94 + 1))) else mat_gemm.k1 fu x1 x2 x3 x5 x93
def mat_gemm.W3 (fu : Nat) (x1 : T_Setting) (x2 : List T_Tensor) (x3 : List Int) (x5 : T_mat_grid) (x7 : T_mat_grid) (x93 : List (List Int)) (x94 : Int) : Option (List Int) :=
  cloop (fun next s => mat_gemm.L3 fu x1 x2 x3 x5 x7 (fun x93 x94 => next (x93, x94)) s.1 s.2) fu (x93, x94)
def mat_gemm (fu : Nat) (x1 : T_Setting) (x2 : List T_Tensor) (x3 : List Int) : Option (List Int) :=
  (at? x2 0).bind fun x4 => (mat_matrix fu x4 x1.fTransA).bind fun x5 => (at? x2 1).bind fun x6 => (mat_matrix fu x6 x1.fTransB).bind fun x7 => jn 1 () (fun (t : List (List Int)) => mat_gemm.k1 fu x1 x2 x3 x5 t) <| mat_gemm.W3 fu x1 x2 x3 x5 x7 ([] : List (List Int)) 0
def mat_Do.k1 (fu : Nat) (x2 : T_Setting) (x3 : List T_Tensor) (x5 : List T_Tensor) : Option (T_Tensor × Int) :=
  (ewise_Vals fu x3).bind fun x6 => (infer_Node fu 74 x2 x6 1).bind fun x7 => if x7.2 = 0 then ((at? x7.1 0).bind fun x8 => (shape_Size fu x8.fDims).bind fun x9 => if x9.1 = 0 then (some (T_Tensor.mk 1 x8.fDims ([]) ([]) ([]), 0)) else (mat_gemm fu x2 x5 x8.fDims).bind fun x10 => some (T_Tensor.mk 1 x8.fDims x10 ([]) ([]), 0)) else some (T_Tensor.mk 0 ([]) ([]) ([]) ([]), x7.2)
def mat_Do.L1 (fu : Nat) (x2 : T_Setting) (x3 : List T_Tensor) (nx1 : (List T_Tensor) → Int → Option (T_Tensor × Int)) (x15 : List T_Tensor) (x16 : Int) : Option (T_Tensor × Int) :=
  if x16 < (x3.length : Int) then ((at? x3 x16).bind fun x21 => if x21.fType = 0 then ((tens_Canon fu x21).bind fun x22 => chk ((x15.length + 1 : Int) * 104 ≤ 140737488355328) <| nx1 (x15 ++ ([x22])) (wk .i64 (x16 + 1))) else (tens_Check fu x21).bind fun x23 => if x23 = 0 then ((tens_Canon fu x21).bind fun x24 => chk ((x15.length + 1 : Int) * 104 ≤ 140737488355328) <| nx1 (x15 ++ ([x24])) (wk .i64 (x16 + 1))) else some (T_Tensor.mk 0 ([]) ([]) ([]) ([]), x23)) else mat_Do.k1 fu x2 x3 x15
def mat_Do.W1 (fu : Nat) (x2 : T_Setting) (x3 : List T_Tensor) (x15 : List T_Tensor) (x16 : Int) : Option (T_Tensor × Int) :=
  cloop (fun next s => mat_Do.L1 fu x2 x3 (fun x15 x16 => next (x15, x16)) s.1 s.2) fu (x15, x16)
def mat_Do (fu : Nat) (x1 : Int) (x2 : T_Setting) (x3 : List T_Tensor) : Option (T_Tensor × Int) :=
  chk (x1 = 74) <| (mat_Has fu 74).bind fun x4 => if x4 = true then (jn 1 () (fun (t : List T_Tensor) => mat_Do.k1 fu x2 x3 t) <| mat_Do.W1 fu x2 x3 ([] : List T_Tensor) 0) else some (T_Tensor.mk 0 ([]) ([]) ([]) ([]), 1)
def ref12_Has (fu : Nat) (x1 : Int) : Option Bool :=
  chk (x1 = 45) <| some (!(decide ((45 : Int) = 61)))
def ref05_Known (fu : Nat) (x1 : Int) : Option Bool :=
  if x1 = 1 then (some true) else if x1 = 7 then (some true) else some (decide (x1 = 9))
def ref04_Size.k2 (fu : Nat) (nx1 : Int → Int → Option (Int × Int)) (x1 : List Int) (x6 : Int) (x7 : Int) : Option (Int × Int) :=
  (at? x1 x7).bind fun x10 => nx1 (wk .i64 (x6 * x10)) (wk .i64 (x7 + 1))
def ref04_Size.L1 (fu : Nat) (x1 : List Int) (nx1 : Int → Int → Option (Int × Int)) (x6 : Int) (x7 : Int) : Option (Int × Int) :=
  if x7 < (x1.length : Int) then (jn 2 () (fun (t : Unit) => ref04_Size.k2 fu nx1 x1 x6 x7) <| (at? x1 x7).bind fun x11 => if 4096 < x11 then (some (0, 4)) else if 4096 < (wk .i64 (x6 * x11)) then (some (0, 4)) else ref04_Size.k2 fu nx1 x1 x6 x7) else some (x6, 0)
def ref04_Size.W1 (fu : Nat) (x1 : List Int) (x6 : Int) (x7 : Int) : Option (Int × Int) :=
  cloop (fun next s => ref04_Size.L1 fu x1 (fun x6 x7 => next (x6, x7)) s.1 s.2) fu (x6, x7)
def ref04_Size.k1 (fu : Nat) (x1 : List Int) (x2 : Bool) (x3 : Bool) : Option (Int × Int) :=
  if x3 = true then (some (0, 4)) else if x2 = true then (some (0, 0)) else ref04_Size.W1 fu x1 1 0
def ref04_Size.k3 (fu : Nat) (nx2 : Bool → Bool → Int → Option (Int × Int)) (x14 : Bool) (x15 : Int) (x18 : Int) (x19 : Bool) : Option (Int × Int) :=
  if x14 = true then (nx2 x19 true (wk .i64 (x15 + 1))) else nx2 x19 (decide (4096 < x18)) (wk .i64 (x15 + 1))
def ref04_Size.L2 (fu : Nat) (x1 : List Int) (nx2 : Bool → Bool → Int → Option (Int × Int)) (x13 : Bool) (x14 : Bool) (x15 : Int) : Option (Int × Int) :=
  if x15 < (x1.length : Int) then ((at? x1 x15).bind fun x18 => if x18 < 0 then (some (0, 1)) else jn 3 () (fun (t : Bool) => ref04_Size.k3 fu nx2 x14 x15 x18 t) <| if x13 = true then (ref04_Size.k3 fu nx2 x14 x15 x18 true) else ref04_Size.k3 fu nx2 x14 x15 x18 (decide (x18 = 0))) else ref04_Size.k1 fu x1 x13 x14
def ref04_Size.W2 (fu : Nat) (x1 : List Int) (x13 : Bool) (x14 : Bool) (x15 : Int) : Option (Int × Int) :=
  cloop (fun next s => ref04_Size.L2 fu x1 (fun x13 x14 x15 => next (x13, x14, x15)) s.1 s.2.1 s.2.2) fu (x13, x14, x15)
def ref04_Size (fu : Nat) (x1 : List Int) : Option (Int × Int) :=
  jn 1 () (fun (t : Bool × Bool) => ref04_Size.k1 fu x1 t.1 t.2) <| ref04_Size.W2 fu x1 false (decide (8 < (x1.length : Int))) 0
def ref05_Check.k1 (fu : Nat) (x1 : T_Tensor) (x4 : Int) (x5 : Int) (x6 : Int) : Option Int :=
  if (x1.fF.length : Int) = x4 then (if (x1.fI.length : Int) = x5 then (if (x1.fB.length : Int) = x6 then (some 0) else some 3) else some 3) else some 3
def ref05_Check (fu : Nat) (x1 : T_Tensor) : Option Int :=
  (ref05_Known fu x1.fType).bind fun x2 => if x2 = true then ((ref04_Size fu x1.fDims).bind fun x3 => if x3.2 = 0 then (jn 1 () (fun (t : Int × Int × Int) => ref05_Check.k1 fu x1 t.1 t.2.1 t.2.2) <| if x1.fType = 1 then (ref05_Check.k1 fu x1 x3.1 0 0) else if x1.fType = 7 then (ref05_Check.k1 fu x1 0 x3.1 0) else ref05_Check.k1 fu x1 0 0 x3.1) else some x3.2) else some 5
def ref11_Right.L1 (fu : Nat) (x1 : List T_Tensor) (nx1 : Int → Option Int) (x4 : Int) : Option Int :=
  if x4 < (x1.length : Int) then ((at? x1 x4).bind fun x7 => if x7.fType = 0 then (nx1 (wk .i64 (x4 + 1))) else (ref05_Check fu x7).bind fun x8 => if x8 = 0 then (nx1 (wk .i64 (x4 + 1))) else some x8) else some 0
def ref11_Right.W1 (fu : Nat) (x1 : List T_Tensor) (x4 : Int) : Option Int :=
  cloop (fun next s => ref11_Right.L1 fu x1 next s) fu x4
def ref11_Right (fu : Nat) (x1 : List T_Tensor) : Option Int :=
  ref11_Right.W1 fu x1 0
def ref05_Copy (fu : Nat) (x1 : T_Tensor) : Option T_Tensor :=
  chk ((x1.fDims.length : Int) * 8 ≤ 140737488355328) <| chk ((x1.fF.length : Int) * 4 ≤ 140737488355328) <| chk ((x1.fI.length : Int) * 8 ≤ 140737488355328) <| chk ((x1.fB.length : Int) * 1 ≤ 140737488355328) <| some x1
def ref11_Vals.L1 (fu : Nat) (x1 : List T_Tensor) (nx1 : (List T_Val) → Int → Option (List T_Val)) (x4 : List T_Val) (x5 : Int) : Option (List T_Val) :=
  if x5 < (x1.length : Int) then ((at? x1 x5).bind fun x8 => if x8.fType = 0 then (chk ((x4.length + 1 : Int) * 144 ≤ 140737488355328) <| nx1 (x4 ++ ([T_Val.mk 0 ([]) false (T_Tensor.mk 0 ([]) ([]) ([]) ([]))])) (wk .i64 (x5 + 1))) else (ref05_Copy fu x8).bind fun x9 => chk ((x8.fDims.length : Int) * 8 ≤ 140737488355328) <| chk ((x4.length + 1 : Int) * 144 ≤ 140737488355328) <| nx1 (x4 ++ ([T_Val.mk x8.fType x8.fDims true x9])) (wk .i64 (x5 + 1))) else some x4
def ref11_Vals.W1 (fu : Nat) (x1 : List T_Tensor) (x4 : List T_Val) (x5 : Int) : Option (List T_Val) :=
  cloop (fun next s => ref11_Vals.L1 fu x1 (fun x4 x5 => next (x4, x5)) s.1 s.2) fu (x4, x5)
def ref11_Vals (fu : Nat) (x1 : List T_Tensor) : Option (List T_Val) :=
  ref11_Vals.W1 fu x1 ([] : List T_Val) 0
def ref08_Arity.k3 (fu : Nat) (x1 : Int) (x3 : Bool) : Option (Int × Int × Int × Int) :=
  if x3 = true then (some (2, 3, 1, 1)) else if x1 = 56 then (some (1, 2, 1, 1)) else if x1 = 65 then (some (1, 2, 1, 1)) else if x1 = 61 then (some (0, 0, 1, 1)) else if x1 = 79 then (some (5, 5, 1, 1)) else some (1, 1, 1, 1)
def ref08_Arity.k2 (fu : Nat) (x1 : Int) (x2 : Bool) : Option (Int × Int × Int × Int) :=
  if x2 = true then (some (2, 2, 1, 1)) else if x1 = 42 then (some (3, 3, 1, 1)) else if x1 = 52 then (some (3, 3, 1, 1)) else if x1 = 43 then (some (1, 3, 1, 1)) else if x1 = 47 then (some (1, 64, 1, 1)) else if x1 = 48 then (some (1, 2, 1, 64)) else if x1 = 49 then (some (3, 5, 1, 1)) else jn 3 () (fun (t : Bool) => ref08_Arity.k3 fu x1 t) <| if x1 = 53 then (ref08_Arity.k3 fu x1 true) else if x1 = 74 then (ref08_Arity.k3 fu x1 true) else if x1 = 75 then (ref08_Arity.k3 fu x1 true) else ref08_Arity.k3 fu x1 (decide (x1 = 80))
def ref08_Arity.k1 (fu : Nat) (x1 : Int) : Option (Int × Int × Int × Int) :=
  jn 2 () (fun (t : Bool) => ref08_Arity.k2 fu x1 t) <| if x1 = 23 then (ref08_Arity.k2 fu x1 true) else if x1 = 24 then (ref08_Arity.k2 fu x1 true) else if x1 = 25 then (ref08_Arity.k2 fu x1 true) else if x1 = 28 then (ref08_Arity.k2 fu x1 true) else if x1 = 29 then (ref08_Arity.k2 fu x1 true) else if x1 = 30 then (ref08_Arity.k2 fu x1 true) else if x1 = 31 then (ref08_Arity.k2 fu x1 true) else if x1 = 32 then (ref08_Arity.k2 fu x1 true) else if x1 = 33 then (ref08_Arity.k2 fu x1 true) else if x1 = 34 then (ref08_Arity.k2 fu x1 true) else if x1 = 35 then (ref08_Arity.k2 fu x1 true) else if x1 = 36 then (ref08_Arity.k2 fu x1 true) else if x1 = 37 then (ref08_Arity.k2 fu x1 true) else if x1 = 38 then (ref08_Arity.k2 fu x1 true) else if x1 = 39 then (ref08_Arity.k2 fu x1 true) else if x1 = 40 then (ref08_Arity.k2 fu x1 true) else if x1 = 41 then (ref08_Arity.k2 fu x1 true) else if x1 = 46 then (ref08_Arity.k2 fu x1 true) else if x1 = 50 then (ref08_Arity.k2 fu x1 true) else if x1 = 51 then (ref08_Arity.k2 fu x1 true) else if x1 = 54 then (ref08_Arity.k2 fu x1 true) else if x1 = 55 then (ref08_Arity.k2 fu x1 true) else if x1 = 57 then (ref08_Arity.k2 fu x1 true) else ref08_Arity.k2 fu x1 (decide (x1 = 73))
def ref08_Arity (fu : Nat) (x1 : Int) : Option (Int × Int × Int × Int) :=
  jn 1 () (fun (t : Unit) => ref08_Arity.k1 fu x1) <| if x1 < 1 then (some (0, 0, 0, 0)) else if 80 < x1 then (some (0, 0, 0, 0)) else ref08_Arity.k1 fu x1
def ref10_at (fu : Nat) (x1 : List T_Val) (x2 : Int) : Option T_Val :=
  if (x1.length : Int) ≤ x2 then (some (T_Val.mk 0 ([]) false (T_Tensor.mk 0 ([]) ([]) ([]) ([])))) else (at? x1 x2).bind fun x3 => some x3
def ref10_there (fu : Nat) (x1 : List T_Val) (x2 : Int) : Option Bool :=
  (ref10_at fu x1 x2).bind fun x3 => some (!(decide (x3.fType = 0)))
def ref10_given.L1 (fu : Nat) (x2 : List T_Val) (x4 : Int × Int × Int × Int) (nx1 : Int → Option Bool) (x6 : Int) : Option Bool :=
  if x6 < x4.1 then ((ref10_there fu x2 x6).bind fun x8 => if x8 = true then (nx1 (wk .i64 (x6 + 1))) else some false) else some true
def ref10_given.W1 (fu : Nat) (x2 : List T_Val) (x4 : Int × Int × Int × Int) (x6 : Int) : Option Bool :=
  cloop (fun next s => ref10_given.L1 fu x2 x4 next s) fu x6
def ref10_given.k2 (fu : Nat) (x2 : List T_Val) (x4 : Int × Int × Int × Int) : Option Bool :=
  ref10_given.W1 fu x2 x4 0
def ref10_given.k1 (fu : Nat) (x2 : List T_Val) (x3 : Int) : Option Bool :=
  (ref08_Arity fu 45).bind fun x4 => jn 2 () (fun (t : Unit) => ref10_given.k2 fu x2 x4) <| if (x2.length : Int) < x4.1 then (some false) else if x4.2.1 < (x2.length : Int) then (some false) else if x3 < x4.2.2.1 then (some false) else if x4.2.2.2 < x3 then (some false) else ref10_given.k2 fu x2 x4
def ref10_given (fu : Nat) (x1 : Int) (x2 : List T_Val) (x3 : Int) : Option Bool :=
  chk (x1 = 45) <| jn 1 () (fun (t : Unit) => ref10_given.k1 fu x2 x3) <| ref10_given.k1 fu x2 x3
def ref10_sized.L1 (fu : Nat) (x1 : List T_Val) (nx1 : Int → Option Bool) (x5 : Int) : Option Bool :=
  if x5 < (x1.length : Int) then ((at? x1 x5).bind fun x9 => (ref04_Size fu x9.fDims).bind fun x10 => (ref10_there fu x1 x5).bind fun x11 => if x11 = true then (if x10.2 = 0 then (nx1 (wk .i64 (x5 + 1))) else some false) else nx1 (wk .i64 (x5 + 1))) else some true
def ref10_sized.W1 (fu : Nat) (x1 : List T_Val) (x5 : Int) : Option Bool :=
  cloop (fun next s => ref10_sized.L1 fu x1 next s) fu x5
def ref10_sized (fu : Nat) (x1 : List T_Val) : Option Bool :=
  ref10_sized.W1 fu x1 0
def ref10_told.k1 (fu : Nat) : Option (Int × Int) :=
  some (0, 0)
def ref10_told (fu : Nat) (x1 : Int) : Option (Int × Int) :=
  chk (x1 = 45) <| jn 1 () (fun (t : Unit) => ref10_told.k1 fu) <| ref10_told.k1 fu
def ref10_known (fu : Nat) (x1 : Int) : Option Bool :=
  if x1 = 1 then (some true) else if x1 = 7 then (some true) else some (decide (x1 = 9))
def ref10_typed.L1 (fu : Nat) (x2 : List T_Val) (x3 : Int × Int) (nx1 : Int → Option Bool) (x7 : Int) : Option Bool :=
  if x7 < (x2.length : Int) then ((ref10_there fu x2 x7).bind fun x11 => if x11 = true then ((at? x2 x7).bind fun x12 => (ref10_known fu x12.fType).bind fun x13 => if x13 = true then (if x3.1 ≤ x7 then (if x7 < x3.2 then (if x12.fType = 7 then (nx1 (wk .i64 (x7 + 1))) else some false) else nx1 (wk .i64 (x7 + 1))) else nx1 (wk .i64 (x7 + 1))) else some false) else nx1 (wk .i64 (x7 + 1))) else some true
def ref10_typed.W1 (fu : Nat) (x2 : List T_Val) (x3 : Int × Int) (x7 : Int) : Option Bool :=
  cloop (fun next s => ref10_typed.L1 fu x2 x3 next s) fu x7
def ref10_typed (fu : Nat) (x1 : Int) (x2 : List T_Val) : Option Bool :=
  chk (x1 = 45) <| (ref10_told fu 45).bind fun x3 => ref10_typed.W1 fu x2 x3 0
def ref10_types (fu : Nat) (x1 : Int) (x2 : T_Setting) (x3 : List T_Val) : Option Bool :=
  chk (x1 = 45) <| (ref10_typed fu 45 x3).bind fun x4 => if x4 = true then ((ref10_at fu x3 0).bind fun x5 => (ref10_at fu x3 1).bind fun x6 => (ref10_at fu x3 2).bind fun x7 => some true) else some false
def ref10_order.k1 (fu : Nat) (nx1 : (List Bool) → Int → Option Bool) (x1 : List Int) (x6 : List Bool) (x7 : Int) : Option Bool :=
  (at? x1 x7).bind fun x11 => chk (0 ≤ x11 ∧ x11 < (x6.length : Int)) <| nx1 (x6.set x11.toNat true) (wk .i64 (x7 + 1))
def ref10_order.L1 (fu : Nat) (x1 : List Int) (x2 : Int) (nx1 : (List Bool) → Int → Option Bool) (x6 : List Bool) (x7 : Int) : Option Bool :=
  if x7 < x2 then (jn 1 () (fun (t : Unit) => ref10_order.k1 fu nx1 x1 x6 x7) <| (at? x1 x7).bind fun x12 => if x12 < 0 then (some false) else if x2 ≤ x12 then (some false) else (at? x6 x12).bind fun x13 => if x13 = true then (some false) else ref10_order.k1 fu nx1 x1 x6 x7) else some true
def ref10_order.W1 (fu : Nat) (x1 : List Int) (x2 : Int) (x6 : List Bool) (x7 : Int) : Option Bool :=
  cloop (fun next s => ref10_order.L1 fu x1 x2 (fun x6 x7 => next (x6, x7)) s.1 s.2) fu (x6, x7)
def ref10_order (fu : Nat) (x1 : List Int) (x2 : Int) : Option Bool :=
  if (x1.length : Int) = x2 then (chk (0 ≤ x2 ∧ x2 * 1 ≤ 140737488355328) <| ref10_order.W1 fu x1 x2 (List.replicate x2.toNat (false : Bool)) 0) else some false
def ref10_attrs (fu : Nat) (x1 : Int) (x2 : T_Setting) (x3 : List T_Val) : Option Bool :=
  chk (x1 = 45) <| (ref10_at fu x3 0).bind fun x4 => if x2.fHasPerm = true then ((ref10_order fu x2.fPerm (x4.fDims.length : Int)).bind fun x5 => some x5) else some true
def ref10_consts.L1 (fu : Nat) (x2 : List T_Val) (x3 : Int × Int) (nx1 : Int → Option Bool) (x6 : Int) : Option Bool :=
  if x6 < x3.2 then ((ref10_there fu x2 x6).bind fun x9 => if x9 = true then ((at? x2 x6).bind fun x10 => if x10.fConst = true then (none) else some false) else nx1 (wk .i64 (x6 + 1))) else some true
def ref10_consts.W1 (fu : Nat) (x2 : List T_Val) (x3 : Int × Int) (x6 : Int) : Option Bool :=
  cloop (fun next s => ref10_consts.L1 fu x2 x3 next s) fu x6
def ref10_consts (fu : Nat) (x1 : Int) (x2 : List T_Val) : Option Bool :=
  chk (x1 = 45) <| (ref10_told fu 45).bind fun x3 => ref10_consts.W1 fu x2 x3 x3.1
def ref10_lists.L1 (fu : Nat) (x2 : List T_Val) (x3 : Int × Int) (nx1 : Int → Option Bool) (x6 : Int) : Option Bool :=
  if x6 < x3.2 then ((ref10_there fu x2 x6).bind fun x9 => if x9 = true then ((at? x2 x6).bind fun x10 => if (x10.fDims.length : Int) = 1 then (nx1 (wk .i64 (x6 + 1))) else some false) else nx1 (wk .i64 (x6 + 1))) else some true
def ref10_lists.W1 (fu : Nat) (x2 : List T_Val) (x3 : Int × Int) (x6 : Int) : Option Bool :=
  cloop (fun next s => ref10_lists.L1 fu x2 x3 next s) fu x6
def ref10_lists (fu : Nat) (x1 : Int) (x2 : List T_Val) : Option Bool :=
  chk (x1 = 45) <| (ref10_told fu 45).bind fun x3 => ref10_lists.W1 fu x2 x3 x3.1
def ref10_great.k1 (fu : Nat) (nx1 : Int → Option Bool) (x2 : List T_Val) (x5 : Int) : Option Bool :=
  (ref10_there fu x2 x5).bind fun x7 => if x7 = true then (none) else nx1 (wk .i64 (x5 + 1))
def ref10_great.L1 (fu : Nat) (x2 : List T_Val) (x3 : Int × Int) (nx1 : Int → Option Bool) (x5 : Int) : Option Bool :=
  jn 1 () (fun (t : Unit) => ref10_great.k1 fu nx1 x2 x5) <| if x5 < x3.2 then (ref10_great.k1 fu nx1 x2 x5) else some false
def ref10_great.W1 (fu : Nat) (x2 : List T_Val) (x3 : Int × Int) (x5 : Int) : Option Bool :=
  cloop (fun next s => ref10_great.L1 fu x2 x3 next s) fu x5
def ref10_great (fu : Nat) (x1 : Int) (x2 : List T_Val) : Option Bool :=
  chk (x1 = 45) <| (ref10_told fu 45).bind fun x3 => ref10_great.W1 fu x2 x3 x3.1
def ref04_Axis.k1 (fu : Nat) (x1 : Int) (x2 : Int) : Option (Int × Int) :=
  if 0 ≤ x1 then (if x1 < x2 then (some (x1, 0)) else some (0, 2)) else some (0, 2)
def ref04_Axis (fu : Nat) (x1 : Int) (x2 : Int) : Option (Int × Int) :=
  if x2 < 0 then (some (0, 2)) else jn 1 () (fun (t : Unit) => ref04_Axis.k1 fu x1 x2) <| if x1 < 0 then (if (wk .i64 (0 - x2)) ≤ x1 then (some (wk .i64 (x1 + x2), 0)) else ref04_Axis.k1 fu x1 x2) else ref04_Axis.k1 fu x1 x2
def ref10_one (fu : Nat) (x1 : List Int) : Option ((List (List Int)) × Int) :=
  chk ((x1.length : Int) * 8 ≤ 140737488355328) <| some ([x1], 0)
def ref10_transposed.k1 (fu : Nat) (x3 : Bool) (x4 : List Int) : Option ((List (List Int)) × Int) :=
  (ref10_one fu x4).bind fun x5 => some (x5.1, x5.2)
def ref10_transposed.k2 (fu : Nat) (nx1 : Bool → (List Int) → Int → Option ((List (List Int)) × Int)) (x2 : List Int) (x11 : List Int) (x12 : Int) (x17 : Bool) (x18 : Int) : Option ((List (List Int)) × Int) :=
  (at? x2 x18).bind fun x19 => chk ((x11.length + 1 : Int) * 8 ≤ 140737488355328) <| nx1 x17 (x11 ++ ([x19])) (wk .i64 (x12 + 1))
def ref10_transposed.L1 (fu : Nat) (x1 : T_Setting) (x2 : List Int) (nx1 : Bool → (List Int) → Int → Option ((List (List Int)) × Int)) (x10 : Bool) (x11 : List Int) (x12 : Int) : Option ((List (List Int)) × Int) :=
  if x12 < (x2.length : Int) then (jn 2 () (fun (t : Bool × Int) => ref10_transposed.k2 fu nx1 x2 x11 x12 t.1 t.2) <| if x10 = true then ((at? x1.fPerm x12).bind fun x20 => ref10_transposed.k2 fu nx1 x2 x11 x12 true x20) else ref10_transposed.k2 fu nx1 x2 x11 x12 false (wk .i64 ((wk .i64 ((x2.length : Int) - 1)) - x12))) else ref10_transposed.k1 fu x10 x11
def ref10_transposed.W1 (fu : Nat) (x1 : T_Setting) (x2 : List Int) (x10 : Bool) (x11 : List Int) (x12 : Int) : Option ((List (List Int)) × Int) :=
  cloop (fun next s => ref10_transposed.L1 fu x1 x2 (fun x10 x11 x12 => next (x10, x11, x12)) s.1 s.2.1 s.2.2) fu (x10, x11, x12)
def ref10_transposed (fu : Nat) (x1 : T_Setting) (x2 : List Int) : Option ((List (List Int)) × Int) :=
  jn 1 () (fun (t : Bool × (List Int)) => ref10_transposed.k1 fu t.1 t.2) <| ref10_transposed.W1 fu x1 x2 x1.fHasPerm ([] : List Int) 0
def ref10_moves (fu : Nat) (x1 : Int) (x2 : T_Setting) (x3 : List T_Val) (x4 : Int) : Option ((List (List Int)) × Int) :=
  chk (x1 = 45) <| (at? x3 0).bind fun x5 => (ref04_Axis fu x2.fAxis (x5.fDims.length : Int)).bind fun x6 => (ref10_transposed fu x2 x5.fDims).bind fun x7 => some (x7.1, x7.2)
def ref10_dims (fu : Nat) (x1 : Int) (x2 : T_Setting) (x3 : List T_Val) (x4 : Int) : Option ((List (List Int)) × Int) :=
  chk (x1 = 45) <| (at? x3 0).bind fun x5 => (ref10_moves fu 45 x2 x3 x4).bind fun x6 => some (x6.1, x6.2)
def ref10_made.k1 (fu : Nat) (x3 : List T_Val) : Option Int :=
  (ref10_at fu x3 0).bind fun x4 => some x4.fType
def ref10_made (fu : Nat) (x1 : Int) (x2 : T_Setting) (x3 : List T_Val) : Option Int :=
  chk (x1 = 45) <| jn 1 () (fun (t : Unit) => ref10_made.k1 fu x3) <| ref10_made.k1 fu x3
def ref10_Node.L1 (fu : Nat) (x2 : T_Setting) (x3 : List T_Val) (x12 : (List (List Int)) × Int) (nx1 : (List T_Val) → Int → Option ((List T_Val) × Int)) (x16 : List T_Val) (x17 : Int) : Option ((List T_Val) × Int) :=
  if x17 < (x12.1.length : Int) then ((at? x12.1 x17).bind fun x21 => (ref04_Size fu x21).bind fun x22 => if x22.2 = 0 then ((ref10_made fu 45 x2 x3).bind fun x23 => chk ((x16.length + 1 : Int) * 144 ≤ 140737488355328) <| nx1 (x16 ++ ([T_Val.mk x23 x21 false (T_Tensor.mk 0 ([]) ([]) ([]) ([]))])) (wk .i64 (x17 + 1))) else some ([], 4)) else some (x16, 0)
def ref10_Node.W1 (fu : Nat) (x2 : T_Setting) (x3 : List T_Val) (x12 : (List (List Int)) × Int) (x16 : List T_Val) (x17 : Int) : Option ((List T_Val) × Int) :=
  cloop (fun next s => ref10_Node.L1 fu x2 x3 x12 (fun x16 x17 => next (x16, x17)) s.1 s.2) fu (x16, x17)
def ref10_Node (fu : Nat) (x1 : Int) (x2 : T_Setting) (x3 : List T_Val) (x4 : Int) : Option ((List T_Val) × Int) :=
  chk (x1 = 45) <| (ref10_given fu 45 x3 x4).bind fun x5 => if x5 = true then ((ref10_sized fu x3).bind fun x6 => if x6 = true then ((ref10_types fu 45 x2 x3).bind fun x7 => if x7 = true then ((ref10_attrs fu 45 x2 x3).bind fun x8 => if x8 = true then ((ref10_consts fu 45 x3).bind fun x9 => if x9 = true then ((ref10_lists fu 45 x3).bind fun x10 => if x10 = true then ((ref10_great fu 45 x3).bind fun x11 => if x11 = true then (some ([], 4)) else (ref10_dims fu 45 x2 x3 x4).bind fun x12 => if x12.2 = 0 then (ref10_Node.W1 fu x2 x3 x12 ([] : List T_Val) 0) else some ([], x12.2)) else some ([], 3)) else some ([], 15)) else some ([], 14)) else some ([], 5)) else some ([], 4)) else some ([], 1)
def ref01_Abs (fu : Nat) (x1 : Int) : Option Int :=
  some (Int.tmod x1 2147483648)
def ref01_IsNone (fu : Nat) (x1 : Int) : Option Bool :=
  (ref01_Abs fu x1).bind fun x2 => some (decide (2139095040 < x2))
def ref01_Canon (fu : Nat) (x1 : Int) : Option Int :=
  (ref01_IsNone fu x1).bind fun x2 => if x2 = true then (some 2143289344) else some x1
def ref05_Canon.L1 (fu : Nat) (x2 : T_Tensor) (nx1 : (List Int) → Int → Option T_Tensor) (x5 : List Int) (x6 : Int) : Option T_Tensor :=
  if x6 < (x5.length : Int) then ((at? x5 x6).bind fun x9 => (ref01_Canon fu x9).bind fun x10 => chk (0 ≤ x6 ∧ x6 < (x5.length : Int)) <| nx1 (x5.set x6.toNat x10) (wk .i64 (x6 + 1))) else some (T_Tensor.mk x2.fType x2.fDims x5 x2.fI x2.fB)
def ref05_Canon.W1 (fu : Nat) (x2 : T_Tensor) (x5 : List Int) (x6 : Int) : Option T_Tensor :=
  cloop (fun next s => ref05_Canon.L1 fu x2 (fun x5 x6 => next (x5, x6)) s.1 s.2) fu (x5, x6)
def ref05_Canon (fu : Nat) (x1 : T_Tensor) : Option T_Tensor :=
  (ref05_Copy fu x1).bind fun x2 => ref05_Canon.W1 fu x2 x2.fF 0
def ref11_Canons.L1 (fu : Nat) (x1 : List T_Tensor) (nx1 : (List T_Tensor) → Int → Option (List T_Tensor)) (x4 : List T_Tensor) (x5 : Int) : Option (List T_Tensor) :=
  if x5 < (x1.length : Int) then ((at? x1 x5).bind fun x8 => (ref05_Canon fu x8).bind fun x9 => chk ((x4.length + 1 : Int) * 104 ≤ 140737488355328) <| nx1 (x4 ++ ([x9])) (wk .i64 (x5 + 1))) else some x4
def ref11_Canons.W1 (fu : Nat) (x1 : List T_Tensor) (x4 : List T_Tensor) (x5 : Int) : Option (List T_Tensor) :=
  cloop (fun next s => ref11_Canons.L1 fu x1 (fun x4 x5 => next (x4, x5)) s.1 s.2) fu (x4, x5)
def ref11_Canons (fu : Nat) (x1 : List T_Tensor) : Option (List T_Tensor) :=
  ref11_Canons.W1 fu x1 ([] : List T_Tensor) 0
def ref12_job_ranged (fu : Nat) (x1 : T_ref12_job) : Option Bool :=
  chk (x1.fop = 45) <| some true
def ref05_New (fu : Nat) (x1 : Int) (x2 : List Int) : Option (T_Tensor × Int) :=
  (ref05_Known fu x1).bind fun x3 => if x3 = true then ((ref04_Size fu x2).bind fun x4 => if x4.2 = 0 then (chk ((x2.length : Int) * 8 ≤ 140737488355328) <| if x1 = 1 then (chk (0 ≤ x4.1 ∧ x4.1 * 4 ≤ 140737488355328) <| some (T_Tensor.mk x1 x2 (List.replicate x4.1.toNat (0 : Int)) ([]) ([]), 0)) else if x1 = 7 then (chk (0 ≤ x4.1 ∧ x4.1 * 8 ≤ 140737488355328) <| some (T_Tensor.mk x1 x2 ([]) (List.replicate x4.1.toNat (0 : Int)) ([]), 0)) else chk (0 ≤ x4.1 ∧ x4.1 * 1 ≤ 140737488355328) <| some (T_Tensor.mk x1 x2 ([]) ([]) (List.replicate x4.1.toNat (false : Bool)), 0)) else some (T_Tensor.mk 0 ([]) ([]) ([]) ([]), x4.2)) else some (T_Tensor.mk 0 ([]) ([]) ([]) ([]), 5)
def ref04_Index.L1 (fu : Nat) (x1 : List Int) (nx1 : (List Int) → Int → Int → Option ((List Int) × Int)) (x5 : List Int) (x6 : Int) (x7 : Int) : Option ((List Int) × Int) :=
  if 0 ≤ x7 then ((at? x1 x7).bind fun x9 => chk (x9 ≠ 0) <| chk (0 ≤ x7 ∧ x7 < (x5.length : Int)) <| nx1 (x5.set x7.toNat (Int.tmod x6 x9)) (wk .i64 (Int.tdiv x6 x9)) (wk .i64 (x7 - 1))) else some (x5, 0)
def ref04_Index.W1 (fu : Nat) (x1 : List Int) (x5 : List Int) (x6 : Int) (x7 : Int) : Option ((List Int) × Int) :=
  cloop (fun next s => ref04_Index.L1 fu x1 (fun x5 x6 x7 => next (x5, x6, x7)) s.1 s.2.1 s.2.2) fu (x5, x6, x7)
def ref04_Index.k1 (fu : Nat) (x1 : List Int) (x2 : Int) : Option ((List Int) × Int) :=
  chk (0 ≤ (x1.length : Int) ∧ (x1.length : Int) * 8 ≤ 140737488355328) <| ref04_Index.W1 fu x1 (List.replicate (x1.length : Int).toNat (0 : Int)) x2 (wk .i64 ((x1.length : Int) - 1))
def ref04_Index (fu : Nat) (x1 : List Int) (x2 : Int) : Option ((List Int) × Int) :=
  (ref04_Size fu x1).bind fun x3 => if x3.2 = 0 then (jn 1 () (fun (t : Unit) => ref04_Index.k1 fu x1 x2) <| if x2 < 0 then (some ([], 2)) else if x3.1 ≤ x2 then (some ([], 2)) else ref04_Index.k1 fu x1 x2) else some ([], x3.2)
def ref04_Offset.k1 (fu : Nat) (nx1 : Int → Int → Option (Int × Int)) (x1 : List Int) (x2 : List Int) (x8 : Int) (x9 : Int) : Option (Int × Int) :=
  (at? x1 x9).bind fun x14 => (at? x2 x9).bind fun x15 => nx1 (wk .i64 ((wk .i64 (x8 * x14)) + x15)) (wk .i64 (x9 + 1))
def ref04_Offset.L1 (fu : Nat) (x1 : List Int) (x2 : List Int) (nx1 : Int → Int → Option (Int × Int)) (x8 : Int) (x9 : Int) : Option (Int × Int) :=
  if x9 < (x1.length : Int) then (jn 1 () (fun (t : Unit) => ref04_Offset.k1 fu nx1 x1 x2 x8 x9) <| (at? x2 x9).bind fun x16 => if x16 < 0 then (some (0, 2)) else (at? x1 x9).bind fun x17 => if x17 ≤ x16 then (some (0, 2)) else ref04_Offset.k1 fu nx1 x1 x2 x8 x9) else some (x8, 0)
def ref04_Offset.W1 (fu : Nat) (x1 : List Int) (x2 : List Int) (x8 : Int) (x9 : Int) : Option (Int × Int) :=
  cloop (fun next s => ref04_Offset.L1 fu x1 x2 (fun x8 x9 => next (x8, x9)) s.1 s.2) fu (x8, x9)
def ref04_Offset (fu : Nat) (x1 : List Int) (x2 : List Int) : Option (Int × Int) :=
  (ref04_Size fu x1).bind fun x3 => if x3.2 = 0 then (if (x2.length : Int) = (x1.length : Int) then (ref04_Offset.W1 fu x1 x2 0 0) else some (0, 2)) else some (0, x3.2)
def ref12_offset (fu : Nat) (x1 : List Int) (x2 : List Int) : Option Int :=
  (ref04_Offset fu x1 x2).bind fun x3 => some x3.1
def ref12_job_transpose.k1 (fu : Nat) (x1 : T_ref12_job) (x3 : List Int) (x4 : Bool) : Option Int :=
  (ref12_offset fu x1.fd x3).bind fun x5 => some x5
def ref12_job_transpose.k2 (fu : Nat) (nx1 : (List Int) → Bool → Int → Option Int) (x2 : List Int) (x10 : List Int) (x12 : Int) (x17 : Bool) (x18 : Int) : Option Int :=
  (at? x2 x12).bind fun x19 => chk (0 ≤ x18 ∧ x18 < (x10.length : Int)) <| nx1 (x10.set x18.toNat x19) x17 (wk .i64 (x12 + 1))
def ref12_job_transpose.L1 (fu : Nat) (x1 : T_ref12_job) (x2 : List Int) (nx1 : (List Int) → Bool → Int → Option Int) (x10 : List Int) (x11 : Bool) (x12 : Int) : Option Int :=
  if x12 < (x2.length : Int) then (jn 2 x1 (fun (t : Bool × Int) => ref12_job_transpose.k2 fu nx1 x2 x10 x12 t.1 t.2) <| if x11 = true then ((at? x1.fs.fPerm x12).bind fun x20 => ref12_job_transpose.k2 fu nx1 x2 x10 x12 true x20) else ref12_job_transpose.k2 fu nx1 x2 x10 x12 false (wk .i64 ((wk .i64 ((x2.length : Int) - 1)) - x12))) else ref12_job_transpose.k1 fu x1 x10 x11
def ref12_job_transpose.W1 (fu : Nat) (x1 : T_ref12_job) (x2 : List Int) (x10 : List Int) (x11 : Bool) (x12 : Int) : Option Int :=
  cloop (fun next s => ref12_job_transpose.L1 fu x1 x2 (fun x10 x11 x12 => next (x10, x11, x12)) s.1 s.2.1 s.2.2) fu (x10, x11, x12)
def ref12_job_transpose (fu : Nat) (x1 : T_ref12_job) (x2 : List Int) : Option Int :=
  chk (x1.fop = 45) <| chk (0 ≤ (x2.length : Int) ∧ (x2.length : Int) * 8 ≤ 140737488355328) <| jn 1 x1 (fun (t : (List Int) × Bool) => ref12_job_transpose.k1 fu x1 t.1 t.2) <| ref12_job_transpose.W1 fu x1 x2 (List.replicate (x2.length : Int).toNat (0 : Int)) x1.fs.fHasPerm 0
def ref12_job_place (fu : Nat) (x1 : T_ref12_job) (x2 : Int) : Option Int :=
  chk (x1.fop = 45) <| (ref04_Index fu x1.fout x2).bind fun x3 => (ref12_job_transpose fu (T_ref12_job.mk 45 x1.fs x1.fin x1.fvals x1.fd x1.faxis x1.fout x1.ffrom) x3.1).bind fun x4 => some x4
def ref12_job_one.c2 (fu : Nat) (nx1 : (List Int) → (List Int) → (List Bool) → Int → Option T_Tensor) (x12 : List Int) (x13 : List Int) (x14 : List Bool) (x15 : Int) (x24 : List Int) (x25 : List Int) (x26 : List Bool) : Option T_Tensor :=
  chk (x12.length = x24.length) <| chk (x13.length = x25.length) <| chk (x14.length = x26.length) <| nx1 x24 x25 x26 (wk .i64 (x15 + 1))
def ref12_job_one.L1 (fu : Nat) (x1 : T_ref12_job) (x2 : T_Tensor) (x3 : T_Tensor × Int) (x4 : Int × Int) (nx1 : (List Int) → (List Int) → (List Bool) → Int → Option T_Tensor) (x12 : List Int) (x13 : List Int) (x14 : List Bool) (x15 : Int) : Option T_Tensor :=
  if x15 < x4.1 then ((ref12_job_place fu (T_ref12_job.mk 45 x1.fs x1.fin x1.fvals x1.fd x1.faxis x1.fout x1.ffrom) x15).bind fun x23 => if 0 ≤ x23 then (jc 2 () (fun (t : (List Int) × (List Int) × (List Bool)) => ref12_job_one.c2 fu nx1 x12 x13 x14 x15 t.1 t.2.1 t.2.2) <| if x3.1.fType = 1 then ((at? x2.fF x23).bind fun x27 => chk (0 ≤ x15 ∧ x15 < (x12.length : Int)) <| ref12_job_one.c2 fu nx1 x12 x13 x14 x15 (x12.set x15.toNat x27) x13 x14) else if x3.1.fType = 7 then ((at? x2.fI x23).bind fun x28 => chk (0 ≤ x15 ∧ x15 < (x13.length : Int)) <| ref12_job_one.c2 fu nx1 x12 x13 x14 x15 x12 (x13.set x15.toNat x28) x14) else (at? x2.fB x23).bind fun x29 => chk (0 ≤ x15 ∧ x15 < (x14.length : Int)) <| ref12_job_one.c2 fu nx1 x12 x13 x14 x15 x12 x13 (x14.set x15.toNat x29)) else nx1 x12 x13 x14 (wk .i64 (x15 + 1))) else some (T_Tensor.mk x3.1.fType x3.1.fDims x12 x13 x14)
def ref12_job_one.W1 (fu : Nat) (x1 : T_ref12_job) (x2 : T_Tensor) (x3 : T_Tensor × Int) (x4 : Int × Int) (x12 : List Int) (x13 : List Int) (x14 : List Bool) (x15 : Int) : Option T_Tensor :=
  cloop (fun next s => ref12_job_one.L1 fu x1 x2 x3 x4 (fun x12 x13 x14 x15 => next (x12, x13, x14, x15)) s.1 s.2.1 s.2.2.1 s.2.2.2) fu (x12, x13, x14, x15)
def ref12_job_one.k1 (fu : Nat) (x1 : T_ref12_job) : Option T_Tensor :=
  (at? x1.fin 0).bind fun x2 => (ref05_New fu x2.fType x1.fout).bind fun x3 => (ref04_Size fu x1.fout).bind fun x4 => ref12_job_one.W1 fu x1 x2 x3 x4 x3.1.fF x3.1.fI x3.1.fB 0
def ref12_job_one (fu : Nat) (x1 : T_ref12_job) : Option T_Tensor :=
  chk (x1.fop = 45) <| jn 1 () (fun (t : Unit) => ref12_job_one.k1 fu x1) <| ref12_job_one.k1 fu x1
def ref12_Do.L1 (fu : Nat) (x2 : T_Setting) (x7 : List T_Val) (x8 : (List T_Val) × Int) (x9 : T_Tensor) (x10 : Int × Int) (x11 : List T_Tensor) (nx1 : (List Int) → (List T_Tensor) → Int → Option ((List T_Tensor) × Int)) (x15 : List Int) (x16 : List T_Tensor) (x17 : Int) : Option ((List T_Tensor) × Int) :=
  if x17 < (x8.1.length : Int) then ((at? x8.1 x17).bind fun x20 => (ref12_job_one fu (T_ref12_job.mk 45 x2 x11 x7 x9.fDims x10.1 x20.fDims 0)).bind fun x21 => chk ((x16.length + 1 : Int) * 104 ≤ 140737488355328) <| nx1 x20.fDims (x16 ++ ([x21])) (wk .i64 (x17 + 1))) else some (x16, 0)
def ref12_Do.W1 (fu : Nat) (x2 : T_Setting) (x7 : List T_Val) (x8 : (List T_Val) × Int) (x9 : T_Tensor) (x10 : Int × Int) (x11 : List T_Tensor) (x15 : List Int) (x16 : List T_Tensor) (x17 : Int) : Option ((List T_Tensor) × Int) :=
  cloop (fun next s => ref12_Do.L1 fu x2 x7 x8 x9 x10 x11 (fun x15 x16 x17 => next (x15, x16, x17)) s.1 s.2.1 s.2.2) fu (x15, x16, x17)
def ref12_Do (fu : Nat) (x1 : Int) (x2 : T_Setting) (x3 : List T_Tensor) (x4 : Int) : Option ((List T_Tensor) × Int) :=
  chk (x1 = 45) <| (ref12_Has fu 45).bind fun x5 => if x5 = true then ((ref11_Right fu x3).bind fun x6 => if x6 = 0 then ((ref11_Vals fu x3).bind fun x7 => (ref10_Node fu 45 x2 x7 x4).bind fun x8 => if x8.2 = 0 then ((at? x3 0).bind fun x9 => (ref04_Axis fu x2.fAxis (x9.fDims.length : Int)).bind fun x10 => (ref11_Canons fu x3).bind fun x11 => (ref12_job_ranged fu (T_ref12_job.mk 45 x2 x11 x7 x9.fDims x10.1 ([]) 0)).bind fun x12 => if x12 = true then (ref12_Do.W1 fu x2 x7 x8 x9 x10 x11 ([]) ([] : List T_Tensor) 0) else some ([], 11)) else some ([], x8.2)) else some ([], x6)) else some ([], 1)
def law14_turned (fu : Nat) (x1 : T_Tensor) : Option (T_Tensor × Bool) :=
  (ref12_Do fu 45 (T_Setting.mk 0 ([]) false false false false false ([]) false 0 0 0 false false false 0 0 false false 0 ([]) ([]) ([]) ([]) 0 false false 0 0 0 false (T_Tensor.mk 0 ([]) ([]) ([]) ([]))) ([x1]) 1).bind fun x2 => if x2.2 = 0 then ((at? x2.1 0).bind fun x3 => some (x3, true)) else some (T_Tensor.mk 0 ([]) ([]) ([]) ([]), false)
def ref04_SameInts.L1 (fu : Nat) (x1 : List Int) (x2 : List Int) (nx1 : Int → Option Bool) (x5 : Int) : Option Bool :=
  if x5 < (x1.length : Int) then ((at? x1 x5).bind fun x8 => (at? x2 x5).bind fun x9 => if x8 = x9 then (nx1 (wk .i64 (x5 + 1))) else some false) else some true
def ref04_SameInts.W1 (fu : Nat) (x1 : List Int) (x2 : List Int) (x5 : Int) : Option Bool :=
  cloop (fun next s => ref04_SameInts.L1 fu x1 x2 next s) fu x5
def ref04_SameInts (fu : Nat) (x1 : List Int) (x2 : List Int) : Option Bool :=
  if (x1.length : Int) = (x2.length : Int) then (ref04_SameInts.W1 fu x1 x2 0) else some false
def ref05_Same.L1 (fu : Nat) (x1 : T_Tensor) (x2 : T_Tensor) (nx1 : Int → Option Bool) (x5 : Int) : Option Bool :=
  if x5 < (x1.fB.length : Int) then ((at? x1.fB x5).bind fun x8 => (at? x2.fB x5).bind fun x9 => if (x8 == x9) = true then (nx1 (wk .i64 (x5 + 1))) else some false) else some true
def ref05_Same.W1 (fu : Nat) (x1 : T_Tensor) (x2 : T_Tensor) (x5 : Int) : Option Bool :=
  cloop (fun next s => ref05_Same.L1 fu x1 x2 next s) fu x5
def ref05_Same.k3 (fu : Nat) (x1 : T_Tensor) (x2 : T_Tensor) : Option Bool :=
  ref05_Same.W1 fu x1 x2 0
def ref05_Same.L2 (fu : Nat) (x1 : T_Tensor) (x2 : T_Tensor) (nx2 : Int → Option Bool) (x12 : Int) : Option Bool :=
  if x12 < (x1.fI.length : Int) then ((at? x1.fI x12).bind fun x15 => (at? x2.fI x12).bind fun x16 => if x15 = x16 then (nx2 (wk .i64 (x12 + 1))) else some false) else ref05_Same.k3 fu x1 x2
def ref05_Same.W2 (fu : Nat) (x1 : T_Tensor) (x2 : T_Tensor) (x12 : Int) : Option Bool :=
  cloop (fun next s => ref05_Same.L2 fu x1 x2 next s) fu x12
def ref05_Same.k2 (fu : Nat) (x1 : T_Tensor) (x2 : T_Tensor) : Option Bool :=
  jn 3 () (fun (t : Unit) => ref05_Same.k3 fu x1 x2) <| ref05_Same.W2 fu x1 x2 0
def ref05_Same.L3 (fu : Nat) (x1 : T_Tensor) (x2 : T_Tensor) (nx3 : Int → Option Bool) (x19 : Int) : Option Bool :=
  if x19 < (x1.fF.length : Int) then ((at? x1.fF x19).bind fun x22 => (at? x2.fF x19).bind fun x23 => if x22 = x23 then (nx3 (wk .i64 (x19 + 1))) else some false) else ref05_Same.k2 fu x1 x2
def ref05_Same.W3 (fu : Nat) (x1 : T_Tensor) (x2 : T_Tensor) (x19 : Int) : Option Bool :=
  cloop (fun next s => ref05_Same.L3 fu x1 x2 next s) fu x19
def ref05_Same.k1 (fu : Nat) (x1 : T_Tensor) (x2 : T_Tensor) : Option Bool :=
  jn 2 () (fun (t : Unit) => ref05_Same.k2 fu x1 x2) <| ref05_Same.W3 fu x1 x2 0
def ref05_Same (fu : Nat) (x1 : T_Tensor) (x2 : T_Tensor) : Option Bool :=
  jn 1 () (fun (t : Unit) => ref05_Same.k1 fu x1 x2) <| if x1.fType = x2.fType then ((ref04_SameInts fu x1.fDims x2.fDims).bind fun x24 => if x24 = true then (if (x1.fF.length : Int) = (x2.fF.length : Int) then (if (x1.fI.length : Int) = (x2.fI.length : Int) then (if (x1.fB.length : Int) = (x2.fB.length : Int) then (ref05_Same.k1 fu x1 x2) else some false) else some false) else some false) else some false) else some false
def law14_MatTurned.k3 (fu : Nat) (x1 : T_Setting) (x3 : T_Tensor × Int) (x6 : List T_Tensor) : Option Bool :=
  (mat_Do fu 74 (T_Setting.mk x1.fAxis x1.fAxes x1.fHasAxes x1.fKeep x1.fNoop x1.fLast x1.fZero x1.fPerm x1.fHasPerm x1.fAlpha x1.fBeta x1.fEpsilon x1.fLow x1.fHigh x1.fFmod x1.fTo x1.fMode false false x1.fGroup x1.fKernel x1.fStrides x1.fPads x1.fDilations x1.fAuto x1.fCeil x1.fCount x1.fBlock x1.fStart x1.fEnd x1.fHasEnd x1.fValue) x6).bind fun x7 => if x7.2 = 0 then ((ref05_Same fu x3.1 x7.1).bind fun x8 => some x8) else some false
def law14_MatTurned.k2 (fu : Nat) (x1 : T_Setting) (x2 : List T_Tensor) (x3 : T_Tensor × Int) (x4 : Bool) (x5 : List T_Tensor) : Option Bool :=
  jn 3 () (fun (t : List T_Tensor) => law14_MatTurned.k3 fu x1 x3 t) <| if x1.fTransB = true then ((at? x2 1).bind fun x9 => (law14_turned fu x9).bind fun x10 => if x10.2 = true then (chk (0 ≤ 1 ∧ 1 < (x5.length : Int)) <| law14_MatTurned.k3 fu x1 x3 (x5.set (1 : Int).toNat x10.1)) else some false) else law14_MatTurned.k3 fu x1 x3 x5
def law14_MatTurned.k1 (fu : Nat) (x1 : T_Setting) (x2 : List T_Tensor) (x3 : T_Tensor × Int) : Option Bool :=
  chk ((x2.length : Int) * 104 ≤ 140737488355328) <| jn 2 () (fun (t : Bool × (List T_Tensor)) => law14_MatTurned.k2 fu x1 x2 x3 t.1 t.2) <| if x1.fTransA = true then ((at? x2 0).bind fun x11 => (law14_turned fu x11).bind fun x12 => if x12.2 = true then (chk (0 ≤ 0 ∧ 0 < (x2.length : Int)) <| law14_MatTurned.k2 fu x1 x2 x3 true (x2.set (0 : Int).toNat x12.1)) else some false) else law14_MatTurned.k2 fu x1 x2 x3 false x2
def law14_MatTurned (fu : Nat) (x1 : T_Setting) (x2 : List T_Tensor) : Option Bool :=
  (mat_Do fu 74 x1 x2).bind fun x3 => jn 1 () (fun (t : Unit) => law14_MatTurned.k1 fu x1 x2 x3) <| if x3.2 = 0 then (if (x2.length : Int) < 2 then (some (decide ((x3.1.fF.length : Int) = 0))) else law14_MatTurned.k1 fu x1 x2 x3) else some (decide ((x3.1.fF.length : Int) = 0))
end Go.Av
