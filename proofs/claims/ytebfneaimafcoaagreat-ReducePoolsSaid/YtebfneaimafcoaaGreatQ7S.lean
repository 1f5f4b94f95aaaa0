/- Plain functions, as the program has them; data of structs. Made by a program of mine. Conditions: none. -/
import Derived.Test.YtebfneaimafcoaaGreatAy
set_option linter.unusedVariables false
namespace Go.Av
structure T_Tensor where
  fType : Int
  fDims : List Int
  fF : List Int
  fI : List Int
  fB : List Bool
def c_T_Tensor (x : T_Tensor) : List AV := [.v (.int .i64 x.fType), .arr x.fDims.length (lm (ik .i64) x.fDims), .arr x.fF.length (lm (ik .u32) x.fF), .arr x.fI.length (lm (ik .i64) x.fI), .arr x.fB.length (lm (bk) x.fB)]
theorem c_T_Tensor_len : ∀ x, (c_T_Tensor x).length = 5 := fun _ => rfl
theorem c_T_Tensor_one : ∀ x, (c_T_Tensor x).all AV.one = true := fun _ => rfl
structure T_Setting where
  fAxis : Int
  fAxes : List Int
  fHasAxes : Bool
  fKeep : Bool
  fNoop : Bool
  fLast : Bool
  fZero : Bool
  fPerm : List Int
  fHasPerm : Bool
  fAlpha : Int
  fBeta : Int
  fEpsilon : Int
  fLow : Bool
  fHigh : Bool
  fFmod : Bool
  fTo : Int
  fMode : Int
  fTransA : Bool
  fTransB : Bool
  fGroup : Int
  fKernel : List Int
  fStrides : List Int
  fPads : List Int
  fDilations : List Int
  fAuto : Int
  fCeil : Bool
  fCount : Bool
  fBlock : Int
  fStart : Int
  fEnd : Int
  fHasEnd : Bool
  fValue : T_Tensor
def c_T_Setting (x : T_Setting) : List AV := [.v (.int .i64 x.fAxis), .arr x.fAxes.length (lm (ik .i64) x.fAxes), .v (.bool x.fHasAxes), .v (.bool x.fKeep), .v (.bool x.fNoop), .v (.bool x.fLast), .v (.bool x.fZero), .arr x.fPerm.length (lm (ik .i64) x.fPerm), .v (.bool x.fHasPerm), .v (.int .u32 x.fAlpha), .v (.int .u32 x.fBeta), .v (.int .u32 x.fEpsilon), .v (.bool x.fLow), .v (.bool x.fHigh), .v (.bool x.fFmod), .v (.int .i64 x.fTo), .v (.int .i64 x.fMode), .v (.bool x.fTransA), .v (.bool x.fTransB), .v (.int .i64 x.fGroup), .arr x.fKernel.length (lm (ik .i64) x.fKernel), .arr x.fStrides.length (lm (ik .i64) x.fStrides), .arr x.fPads.length (lm (ik .i64) x.fPads), .arr x.fDilations.length (lm (ik .i64) x.fDilations), .v (.int .i64 x.fAuto), .v (.bool x.fCeil), .v (.bool x.fCount), .v (.int .i64 x.fBlock), .v (.int .i64 x.fStart), .v (.int .i64 x.fEnd), .v (.bool x.fHasEnd), .v (.int .i64 x.fValue.fType), .arr x.fValue.fDims.length (lm (ik .i64) x.fValue.fDims), .arr x.fValue.fF.length (lm (ik .u32) x.fValue.fF), .arr x.fValue.fI.length (lm (ik .i64) x.fValue.fI), .arr x.fValue.fB.length (lm (bk) x.fValue.fB)]
theorem c_T_Setting_len : ∀ x, (c_T_Setting x).length = 36 := fun _ => rfl
theorem c_T_Setting_one : ∀ x, (c_T_Setting x).all AV.one = true := fun _ => rfl
structure T_Val where
  fType : Int
  fDims : List Int
  fConst : Bool
  fT : T_Tensor
def c_T_Val (x : T_Val) : List AV := [.v (.int .i64 x.fType), .arr x.fDims.length (lm (ik .i64) x.fDims), .v (.bool x.fConst), .v (.int .i64 x.fT.fType), .arr x.fT.fDims.length (lm (ik .i64) x.fT.fDims), .arr x.fT.fF.length (lm (ik .u32) x.fT.fF), .arr x.fT.fI.length (lm (ik .i64) x.fT.fI), .arr x.fT.fB.length (lm (bk) x.fT.fB)]
theorem c_T_Val_len : ∀ x, (c_T_Val x).length = 8 := fun _ => rfl
theorem c_T_Val_one : ∀ x, (c_T_Val x).all AV.one = true := fun _ => rfl
structure T_infer_ask where
  fop : Int
  fs : T_Setting
  fin : List T_Val
  fouts : Int
def c_T_infer_ask (x : T_infer_ask) : List AV := [.v (.int .i64 x.fop), .v (.int .i64 x.fs.fAxis), .arr x.fs.fAxes.length (lm (ik .i64) x.fs.fAxes), .v (.bool x.fs.fHasAxes), .v (.bool x.fs.fKeep), .v (.bool x.fs.fNoop), .v (.bool x.fs.fLast), .v (.bool x.fs.fZero), .arr x.fs.fPerm.length (lm (ik .i64) x.fs.fPerm), .v (.bool x.fs.fHasPerm), .v (.int .u32 x.fs.fAlpha), .v (.int .u32 x.fs.fBeta), .v (.int .u32 x.fs.fEpsilon), .v (.bool x.fs.fLow), .v (.bool x.fs.fHigh), .v (.bool x.fs.fFmod), .v (.int .i64 x.fs.fTo), .v (.int .i64 x.fs.fMode), .v (.bool x.fs.fTransA), .v (.bool x.fs.fTransB), .v (.int .i64 x.fs.fGroup), .arr x.fs.fKernel.length (lm (ik .i64) x.fs.fKernel), .arr x.fs.fStrides.length (lm (ik .i64) x.fs.fStrides), .arr x.fs.fPads.length (lm (ik .i64) x.fs.fPads), .arr x.fs.fDilations.length (lm (ik .i64) x.fs.fDilations), .v (.int .i64 x.fs.fAuto), .v (.bool x.fs.fCeil), .v (.bool x.fs.fCount), .v (.int .i64 x.fs.fBlock), .v (.int .i64 x.fs.fStart), .v (.int .i64 x.fs.fEnd), .v (.bool x.fs.fHasEnd), .v (.int .i64 x.fs.fValue.fType), .arr x.fs.fValue.fDims.length (lm (ik .i64) x.fs.fValue.fDims), .arr x.fs.fValue.fF.length (lm (ik .u32) x.fs.fValue.fF), .arr x.fs.fValue.fI.length (lm (ik .i64) x.fs.fValue.fI), .arr x.fs.fValue.fB.length (lm (bk) x.fs.fValue.fB), .arr x.fin.length (fm c_T_Val x.fin), .v (.int .i64 x.fouts)]
theorem c_T_infer_ask_len : ∀ x, (c_T_infer_ask x).length = 39 := fun _ => rfl
theorem c_T_infer_ask_one : ∀ x, (c_T_infer_ask x).all AV.one = true := fun _ => rfl
structure T_reduce_work where
  fop : Int
  fs : T_Setting
  fin : List T_Tensor
  fx : T_Tensor
  fout : T_Tensor
def c_T_reduce_work (x : T_reduce_work) : List AV := [.v (.int .i64 x.fop), .v (.int .i64 x.fs.fAxis), .arr x.fs.fAxes.length (lm (ik .i64) x.fs.fAxes), .v (.bool x.fs.fHasAxes), .v (.bool x.fs.fKeep), .v (.bool x.fs.fNoop), .v (.bool x.fs.fLast), .v (.bool x.fs.fZero), .arr x.fs.fPerm.length (lm (ik .i64) x.fs.fPerm), .v (.bool x.fs.fHasPerm), .v (.int .u32 x.fs.fAlpha), .v (.int .u32 x.fs.fBeta), .v (.int .u32 x.fs.fEpsilon), .v (.bool x.fs.fLow), .v (.bool x.fs.fHigh), .v (.bool x.fs.fFmod), .v (.int .i64 x.fs.fTo), .v (.int .i64 x.fs.fMode), .v (.bool x.fs.fTransA), .v (.bool x.fs.fTransB), .v (.int .i64 x.fs.fGroup), .arr x.fs.fKernel.length (lm (ik .i64) x.fs.fKernel), .arr x.fs.fStrides.length (lm (ik .i64) x.fs.fStrides), .arr x.fs.fPads.length (lm (ik .i64) x.fs.fPads), .arr x.fs.fDilations.length (lm (ik .i64) x.fs.fDilations), .v (.int .i64 x.fs.fAuto), .v (.bool x.fs.fCeil), .v (.bool x.fs.fCount), .v (.int .i64 x.fs.fBlock), .v (.int .i64 x.fs.fStart), .v (.int .i64 x.fs.fEnd), .v (.bool x.fs.fHasEnd), .v (.int .i64 x.fs.fValue.fType), .arr x.fs.fValue.fDims.length (lm (ik .i64) x.fs.fValue.fDims), .arr x.fs.fValue.fF.length (lm (ik .u32) x.fs.fValue.fF), .arr x.fs.fValue.fI.length (lm (ik .i64) x.fs.fValue.fI), .arr x.fs.fValue.fB.length (lm (bk) x.fs.fValue.fB), .arr x.fin.length (fm c_T_Tensor x.fin), .v (.int .i64 x.fx.fType), .arr x.fx.fDims.length (lm (ik .i64) x.fx.fDims), .arr x.fx.fF.length (lm (ik .u32) x.fx.fF), .arr x.fx.fI.length (lm (ik .i64) x.fx.fI), .arr x.fx.fB.length (lm (bk) x.fx.fB), .v (.int .i64 x.fout.fType), .arr x.fout.fDims.length (lm (ik .i64) x.fout.fDims), .arr x.fout.fF.length (lm (ik .u32) x.fout.fF), .arr x.fout.fI.length (lm (ik .i64) x.fout.fI), .arr x.fout.fB.length (lm (bk) x.fout.fB)]
theorem c_T_reduce_work_len : ∀ x, (c_T_reduce_work x).length = 48 := fun _ => rfl
theorem c_T_reduce_work_one : ∀ x, (c_T_reduce_work x).all AV.one = true := fun _ => rfl
structure T_soft_number where
  fneg : Bool
  fnan : Bool
  finf : Bool
  fexp : Int
  fsig : Int
def c_T_soft_number (x : T_soft_number) : List AV := [.v (.bool x.fneg), .v (.bool x.fnan), .v (.bool x.finf), .v (.int .i64 x.fexp), .v (.int .u64 x.fsig)]
theorem c_T_soft_number_len : ∀ x, (c_T_soft_number x).length = 5 := fun _ => rfl
theorem c_T_soft_number_one : ∀ x, (c_T_soft_number x).all AV.one = true := fun _ => rfl
def reduce_Has (fu : Nat) (x1 : Int) : Option Bool :=
  spl (x1 = 78) (some (decide ((78 : Int) ≤ 80))) (chk (x1 = 77) <| some (decide ((77 : Int) ≤ 80)))
def tens_Width (fu : Nat) (x1 : Int) : Option Int :=
  if x1 = 1 then (some 4) else if x1 = 7 then (some 8) else if x1 = 9 then (some 1) else some 0
def tens_known (fu : Nat) (x1 : Int) : Option Bool :=
  (tens_Width fu x1).bind fun x2 => some (decide (0 < x2))
def slices_IndexFunc_int.L1 (fu : Nat) (p1 : Int → Option Bool) (x1 : List Int) (nx1 : Int → Option Int) (x4 : Int) : Option Int :=
  if x4 < (x1.length : Int) then ((at? x1 x4).bind fun x7 => (p1 x7).bind fun x8 => if x8 = true then (some x4) else nx1 (wk .i64 (x4 + 1))) else some (-1)
def slices_IndexFunc_int.W1 (fu : Nat) (p1 : Int → Option Bool) (x1 : List Int) (x4 : Int) : Option Int :=
  cloop (fun next s => slices_IndexFunc_int.L1 fu p1 x1 next s) fu x4
def slices_IndexFunc_int (fu : Nat) (x1 : List Int) (p1 : Int → Option Bool) : Option Int :=
  slices_IndexFunc_int.W1 fu p1 x1 0
def slices_ContainsFunc_int (fu : Nat) (x1 : List Int) (p1 : Int → Option Bool) : Option Bool :=
  (slices_IndexFunc_int fu x1 p1).bind fun x2 => some (decide (0 ≤ x2))
def shape_Size_1 (fu : Nat) (x1 : Int) : Option Bool :=
  some (decide (x1 < 0))
def shape_Size_2 (fu : Nat) (x1 : Int) : Option Bool :=
  some (decide (4096 < x1))
def slices_Index_int.L1 (fu : Nat) (x1 : List Int) (x2 : Int) (nx1 : Int → Option Int) (x4 : Int) : Option Int :=
  if x4 < (x1.length : Int) then ((at? x1 x4).bind fun x6 => if x2 = x6 then (some x4) else nx1 (wk .i64 (x4 + 1))) else some (-1)
def slices_Index_int.W1 (fu : Nat) (x1 : List Int) (x2 : Int) (x4 : Int) : Option Int :=
  cloop (fun next s => slices_Index_int.L1 fu x1 x2 next s) fu x4
def slices_Index_int (fu : Nat) (x1 : List Int) (x2 : Int) : Option Int :=
  slices_Index_int.W1 fu x1 x2 0
def slices_Contains_int (fu : Nat) (x1 : List Int) (x2 : Int) : Option Bool :=
  (slices_Index_int fu x1 x2).bind fun x3 => some (decide (0 ≤ x3))
def shape_Size.L1 (fu : Nat) (x1 : List Int) (nx1 : Int → Int → Option (Int × Int)) (x5 : Int) (x6 : Int) : Option (Int × Int) :=
  if x6 < (x1.length : Int) then ((at? x1 x6).bind fun x8 => chk (x5 ≠ 0) <| if (wk .i64 (Int.tdiv 4096 x5)) < x8 then (some (0, 4)) else nx1 (wk .i64 (x5 * x8)) (wk .i64 (x6 + 1))) else some (x5, 0)
def shape_Size.W1 (fu : Nat) (x1 : List Int) (x5 : Int) (x6 : Int) : Option (Int × Int) :=
  cloop (fun next s => shape_Size.L1 fu x1 (fun x5 x6 => next (x5, x6)) s.1 s.2) fu (x5, x6)
def shape_Size.k1 (fu : Nat) (x1 : List Int) : Option (Int × Int) :=
  (slices_Contains_int fu x1 0).bind fun x3 => if x3 = true then (some (0, 0)) else shape_Size.W1 fu x1 1 0
def shape_Size (fu : Nat) (x1 : List Int) : Option (Int × Int) :=
  (slices_ContainsFunc_int fu x1 (fun y0 => shape_Size_1 fu y0)).bind fun x2 => if x2 = true then (some (0, 1)) else jn 1 () (fun (t : Unit) => shape_Size.k1 fu x1) <| if 8 < (x1.length : Int) then (some (0, 4)) else (slices_ContainsFunc_int fu x1 (fun y0 => shape_Size_2 fu y0)).bind fun x9 => if x9 = true then (some (0, 4)) else shape_Size.k1 fu x1
def tens_Check.k1 (fu : Nat) (x1 : T_Tensor) (x3 : Int × Int) (x4 : Int) : Option Int :=
  if x4 = x3.1 then (if (wk .i64 ((wk .i64 ((x1.fF.length : Int) + (x1.fI.length : Int))) + (x1.fB.length : Int))) = x3.1 then (some 0) else some 3) else some 3
def tens_Check (fu : Nat) (x1 : T_Tensor) : Option Int :=
  (tens_known fu x1.fType).bind fun x2 => if x2 = true then ((shape_Size fu x1.fDims).bind fun x3 => if x3.2 = 0 then (jn 1 () (fun (t : Int) => tens_Check.k1 fu x1 x3 t) <| if x1.fType = 7 then (tens_Check.k1 fu x1 x3 (x1.fI.length : Int)) else if x1.fType = 9 then (tens_Check.k1 fu x1 x3 (x1.fB.length : Int)) else tens_Check.k1 fu x1 x3 (x1.fF.length : Int)) else some x3.2) else some 5
def tens_own_int (fu : Nat) (x1 : List Int) : Option (List Int) :=
  chk ((x1.length : Int) * 8 ≤ 140737488355328) <| some x1
def tens_own_uint32 (fu : Nat) (x1 : List Int) : Option (List Int) :=
  chk ((x1.length : Int) * 4 ≤ 140737488355328) <| some x1
def tens_own_int64 (fu : Nat) (x1 : List Int) : Option (List Int) :=
  chk ((x1.length : Int) * 8 ≤ 140737488355328) <| some x1
def tens_own_bool (fu : Nat) (x1 : List Bool) : Option (List Bool) :=
  chk ((x1.length : Int) * 1 ≤ 140737488355328) <| some x1
def tens_Copy (fu : Nat) (x1 : T_Tensor) : Option T_Tensor :=
  (tens_own_int fu x1.fDims).bind fun x2 => (tens_own_uint32 fu x1.fF).bind fun x3 => (tens_own_int64 fu x1.fI).bind fun x4 => (tens_own_bool fu x1.fB).bind fun x5 => some (T_Tensor.mk x1.fType x2 x3 x4 x5)
def soft_Abs (fu : Nat) (x1 : Int) : Option Int :=
  some (bandn .u32 x1 2147483648)
def soft_NaN (fu : Nat) (x1 : Int) : Option Bool :=
  (soft_Abs fu x1).bind fun x2 => some (decide (2139095040 < x2))
def soft_Canon (fu : Nat) (x1 : Int) : Option Int :=
  (soft_NaN fu x1).bind fun x2 => if x2 = true then (some 2143289344) else some x1
def tens_Canon.L1 (fu : Nat) (x2 : T_Tensor) (nx1 : (List Int) → Int → Option T_Tensor) (x5 : List Int) (x6 : Int) : Option T_Tensor :=
  if x6 < ((x2.fF.length : Nat) : Int) then ((at? x5 x6).bind fun x9 => (soft_Canon fu x9).bind fun x10 => chk (0 ≤ x6 ∧ x6 < (x5.length : Int)) <| nx1 (x5.set x6.toNat x10) (wk .i64 (x6 + 1))) else some (T_Tensor.mk x2.fType x2.fDims x5 x2.fI x2.fB)
def tens_Canon.W1 (fu : Nat) (x2 : T_Tensor) (x5 : List Int) (x6 : Int) : Option T_Tensor :=
  cloop (fun next s => tens_Canon.L1 fu x2 (fun x5 x6 => next (x5, x6)) s.1 s.2) fu (x5, x6)
def tens_Canon (fu : Nat) (x1 : T_Tensor) : Option T_Tensor :=
  (tens_Copy fu x1).bind fun x2 => tens_Canon.W1 fu x2 x2.fF 0
def slices_Clone_int (fu : Nat) (x1 : List Int) : Option (List Int) :=
  chk ((x1.length : Int) * 8 ≤ 140737488355328) <| some x1
def ewise_Vals.L1 (fu : Nat) (x1 : List T_Tensor) (nx1 : (List T_Val) → Int → Option (List T_Val)) (x5 : List T_Val) (x6 : Int) : Option (List T_Val) :=
  if x6 < (x1.length : Int) then ((at? x1 x6).bind fun x10 => if x10.fType = 0 then (chk ((x5.length + 1 : Int) * 144 ≤ 140737488355328) <| nx1 (x5 ++ ([T_Val.mk 0 ([]) false (T_Tensor.mk 0 ([]) ([]) ([]) ([]))])) (wk .i64 (x6 + 1))) else (slices_Clone_int fu x10.fDims).bind fun x11 => (tens_Copy fu x10).bind fun x12 => chk ((x5.length + 1 : Int) * 144 ≤ 140737488355328) <| nx1 (x5 ++ ([T_Val.mk x10.fType x11 true x12])) (wk .i64 (x6 + 1))) else some x5
def ewise_Vals.W1 (fu : Nat) (x1 : List T_Tensor) (x5 : List T_Val) (x6 : Int) : Option (List T_Val) :=
  cloop (fun next s => ewise_Vals.L1 fu x1 (fun x5 x6 => next (x5, x6)) s.1 s.2) fu (x5, x6)
def ewise_Vals (fu : Nat) (x1 : List T_Tensor) : Option (List T_Val) :=
  ewise_Vals.W1 fu x1 ([] : List T_Val) 0
def ops_Arity (fu : Nat) (x1 : Int) : Option (Int × Int × Int × Int) :=
  spl (x1 = 78) (some (1, 1, 1, 1)) <| chk (x1 = 77) <| some (1, 1, 1, 1)
def infer_ask_val (fu : Nat) (x1 : T_infer_ask) (x2 : Int) : Option T_Val :=
  spl (x1.fop = 78) (if x2 < (x1.fin.length : Int) then ((at? x1.fin x2).bind fun x3 => some x3) else some (T_Val.mk 0 ([]) false (T_Tensor.mk 0 ([]) ([]) ([]) ([])))) (chk (x1.fop = 77) <| if x2 < (x1.fin.length : Int) then ((at? x1.fin x2).bind fun x4 => some x4) else some (T_Val.mk 0 ([]) false (T_Tensor.mk 0 ([]) ([]) ([]) ([]))))
def infer_ask_has (fu : Nat) (x1 : T_infer_ask) (x2 : Int) : Option Bool :=
  spl (x1.fop = 78) ((infer_ask_val fu (T_infer_ask.mk 78 x1.fs x1.fin x1.fouts) x2).bind fun x3 => some (!(decide (x3.fType = 0)))) (chk (x1.fop = 77) <| (infer_ask_val fu (T_infer_ask.mk 77 x1.fs x1.fin x1.fouts) x2).bind fun x4 => some (!(decide (x4.fType = 0))))
def infer_ask_complete.L1 (fu : Nat) (x1 : T_infer_ask) (x2 : Int × Int × Int × Int) (nx1 : Int → Option Bool) (x4 : Int) : Option Bool :=
  if x4 < x2.1 then ((infer_ask_has fu (T_infer_ask.mk 78 x1.fs x1.fin x1.fouts) x4).bind fun x6 => if x6 = true then (nx1 (wk .i64 (x4 + 1))) else some false) else some true
def infer_ask_complete.W1 (fu : Nat) (x1 : T_infer_ask) (x2 : Int × Int × Int × Int) (x4 : Int) : Option Bool :=
  cloop (fun next s => infer_ask_complete.L1 fu x1 x2 next s) fu x4
def infer_ask_complete.k1 (fu : Nat) (x1 : T_infer_ask) (x2 : Int × Int × Int × Int) : Option Bool :=
  infer_ask_complete.W1 fu x1 x2 0
def infer_ask_complete.L2 (fu : Nat) (x1 : T_infer_ask) (x7 : Int × Int × Int × Int) (nx2 : Int → Option Bool) (x9 : Int) : Option Bool :=
  if x9 < x7.1 then ((infer_ask_has fu (T_infer_ask.mk 77 x1.fs x1.fin x1.fouts) x9).bind fun x11 => if x11 = true then (nx2 (wk .i64 (x9 + 1))) else some false) else some true
def infer_ask_complete.W2 (fu : Nat) (x1 : T_infer_ask) (x7 : Int × Int × Int × Int) (x9 : Int) : Option Bool :=
  cloop (fun next s => infer_ask_complete.L2 fu x1 x7 next s) fu x9
def infer_ask_complete.k2 (fu : Nat) (x1 : T_infer_ask) (x7 : Int × Int × Int × Int) : Option Bool :=
  infer_ask_complete.W2 fu x1 x7 0
def infer_ask_complete (fu : Nat) (x1 : T_infer_ask) : Option Bool :=
  spl (x1.fop = 78) ((ops_Arity fu 78).bind fun x2 => jn 1 () (fun (t : Unit) => infer_ask_complete.k1 fu x1 x2) <| if x2.2.2.1 = 0 then (some false) else if (x1.fin.length : Int) < x2.1 then (some false) else if x2.2.1 < (x1.fin.length : Int) then (some false) else if x1.fouts < x2.2.2.1 then (some false) else if x2.2.2.2 < x1.fouts then (some false) else infer_ask_complete.k1 fu x1 x2) (chk (x1.fop = 77) <| (ops_Arity fu 77).bind fun x7 => jn 2 () (fun (t : Unit) => infer_ask_complete.k2 fu x1 x7) <| if x7.2.2.1 = 0 then (some false) else if (x1.fin.length : Int) < x7.1 then (some false) else if x7.2.1 < (x1.fin.length : Int) then (some false) else if x1.fouts < x7.2.2.1 then (some false) else if x7.2.2.2 < x1.fouts then (some false) else infer_ask_complete.k2 fu x1 x7)
def infer_sorts.k5 (fu : Nat) : Option ByteArray :=
  some (⟨#[102]⟩ : ByteArray)
def infer_sorts.k4 (fu : Nat) : Option ByteArray :=
  jn 5 () (fun (t : Unit) => infer_sorts.k5 fu) <| infer_sorts.k5 fu
def infer_sorts.k3 (fu : Nat) : Option ByteArray :=
  jn 4 () (fun (t : Unit) => infer_sorts.k4 fu) <| infer_sorts.k4 fu
def infer_sorts.k2 (fu : Nat) : Option ByteArray :=
  jn 3 () (fun (t : Unit) => infer_sorts.k3 fu) <| infer_sorts.k3 fu
def infer_sorts.k1 (fu : Nat) : Option ByteArray :=
  jn 2 () (fun (t : Unit) => infer_sorts.k2 fu) <| infer_sorts.k2 fu
def infer_sorts.k10 (fu : Nat) : Option ByteArray :=
  some (⟨#[102]⟩ : ByteArray)
def infer_sorts.k9 (fu : Nat) : Option ByteArray :=
  jn 10 () (fun (t : Unit) => infer_sorts.k10 fu) <| infer_sorts.k10 fu
def infer_sorts.k8 (fu : Nat) : Option ByteArray :=
  jn 9 () (fun (t : Unit) => infer_sorts.k9 fu) <| infer_sorts.k9 fu
def infer_sorts.k7 (fu : Nat) : Option ByteArray :=
  jn 8 () (fun (t : Unit) => infer_sorts.k8 fu) <| infer_sorts.k8 fu
def infer_sorts.k6 (fu : Nat) : Option ByteArray :=
  jn 7 () (fun (t : Unit) => infer_sorts.k7 fu) <| infer_sorts.k7 fu
def infer_sorts (fu : Nat) (x1 : Int) : Option ByteArray :=
  spl (x1 = 78) (jn 1 () (fun (t : Unit) => infer_sorts.k1 fu) <| infer_sorts.k1 fu) (chk (x1 = 77) <| jn 6 () (fun (t : Unit) => infer_sorts.k6 fu) <| infer_sorts.k6 fu)
def infer_ask_fits.k1 (fu : Nat) (x5 : Bool) : Option Bool :=
  some x5
def infer_ask_fits.k2 (fu : Nat) (x10 : Bool) : Option Bool :=
  some x10
def infer_ask_fits (fu : Nat) (x1 : T_infer_ask) (x2 : Int) (x3 : Int) : Option Bool :=
  spl (x1.fop = 78) ((infer_ask_val fu (T_infer_ask.mk 78 x1.fs x1.fin x1.fouts) x2).bind fun x4 => if x3 = 110 then (jn 1 () (fun (t : Bool) => infer_ask_fits.k1 fu t) <| if x4.fType = 1 then (infer_ask_fits.k1 fu true) else infer_ask_fits.k1 fu (decide (x4.fType = 7))) else if x3 = 102 then (some (decide (x4.fType = 1))) else if x3 = 98 then (some (decide (x4.fType = 9))) else if x3 = 105 then (some (decide (x4.fType = 7))) else if x3 = 61 then ((infer_ask_val fu (T_infer_ask.mk 78 x1.fs x1.fin x1.fouts) 0).bind fun x6 => some (decide (x4.fType = x6.fType))) else if x3 = 43 then ((infer_ask_val fu (T_infer_ask.mk 78 x1.fs x1.fin x1.fouts) (wk .i64 (x2 - 1))).bind fun x7 => some (decide (x4.fType = x7.fType))) else (tens_Width fu x4.fType).bind fun x8 => some (decide (0 < x8))) (chk (x1.fop = 77) <| (infer_ask_val fu (T_infer_ask.mk 77 x1.fs x1.fin x1.fouts) x2).bind fun x9 => if x3 = 110 then (jn 2 () (fun (t : Bool) => infer_ask_fits.k2 fu t) <| if x9.fType = 1 then (infer_ask_fits.k2 fu true) else infer_ask_fits.k2 fu (decide (x9.fType = 7))) else if x3 = 102 then (some (decide (x9.fType = 1))) else if x3 = 98 then (some (decide (x9.fType = 9))) else if x3 = 105 then (some (decide (x9.fType = 7))) else if x3 = 61 then ((infer_ask_val fu (T_infer_ask.mk 77 x1.fs x1.fin x1.fouts) 0).bind fun x11 => some (decide (x9.fType = x11.fType))) else if x3 = 43 then ((infer_ask_val fu (T_infer_ask.mk 77 x1.fs x1.fin x1.fouts) (wk .i64 (x2 - 1))).bind fun x12 => some (decide (x9.fType = x12.fType))) else (tens_Width fu x9.fType).bind fun x13 => some (decide (0 < x13)))
def infer_ask_typed.k1 (fu : Nat) : Option Bool :=
  some true
def infer_ask_typed.L1 (fu : Nat) (x1 : T_infer_ask) (x2 : ByteArray) (nx1 : Int → Option Bool) (x8 : Int) : Option Bool :=
  if x8 < (x1.fin.length : Int) then ((infer_ask_has fu (T_infer_ask.mk 78 x1.fs x1.fin x1.fouts) x8).bind fun x14 => if x14 = true then ((infer_ask_val fu (T_infer_ask.mk 78 x1.fs x1.fin x1.fouts) x8).bind fun x15 => (tens_Width fu x15.fType).bind fun x16 => if x16 = 0 then (some false) else (sat? x2 (imin x8 (wk .i64 ((x2.size : Int) - 1)))).bind fun x17 => (infer_ask_fits fu (T_infer_ask.mk 78 x1.fs x1.fin x1.fouts) x8 x17).bind fun x18 => if x18 = true then (nx1 (wk .i64 (x8 + 1))) else some false) else nx1 (wk .i64 (x8 + 1))) else infer_ask_typed.k1 fu
def infer_ask_typed.W1 (fu : Nat) (x1 : T_infer_ask) (x2 : ByteArray) (x8 : Int) : Option Bool :=
  cloop (fun next s => infer_ask_typed.L1 fu x1 x2 next s) fu x8
def infer_ask_typed.k2 (fu : Nat) : Option Bool :=
  some true
def infer_ask_typed.L2 (fu : Nat) (x1 : T_infer_ask) (x19 : ByteArray) (nx2 : Int → Option Bool) (x25 : Int) : Option Bool :=
  if x25 < (x1.fin.length : Int) then ((infer_ask_has fu (T_infer_ask.mk 77 x1.fs x1.fin x1.fouts) x25).bind fun x31 => if x31 = true then ((infer_ask_val fu (T_infer_ask.mk 77 x1.fs x1.fin x1.fouts) x25).bind fun x32 => (tens_Width fu x32.fType).bind fun x33 => if x33 = 0 then (some false) else (sat? x19 (imin x25 (wk .i64 ((x19.size : Int) - 1)))).bind fun x34 => (infer_ask_fits fu (T_infer_ask.mk 77 x1.fs x1.fin x1.fouts) x25 x34).bind fun x35 => if x35 = true then (nx2 (wk .i64 (x25 + 1))) else some false) else nx2 (wk .i64 (x25 + 1))) else infer_ask_typed.k2 fu
def infer_ask_typed.W2 (fu : Nat) (x1 : T_infer_ask) (x19 : ByteArray) (x25 : Int) : Option Bool :=
  cloop (fun next s => infer_ask_typed.L2 fu x1 x19 next s) fu x25
def infer_ask_typed (fu : Nat) (x1 : T_infer_ask) : Option Bool :=
  spl (x1.fop = 78) ((infer_sorts fu 78).bind fun x2 => jn 1 () (fun (t : Unit) => infer_ask_typed.k1 fu) <| infer_ask_typed.W1 fu x1 x2 0) (chk (x1.fop = 77) <| (infer_sorts fu 77).bind fun x19 => jn 2 () (fun (t : Unit) => infer_ask_typed.k2 fu) <| infer_ask_typed.W2 fu x1 x19 0)
def infer_ask_dims (fu : Nat) (x1 : T_infer_ask) (x2 : Int) : Option (List Int) :=
  spl (x1.fop = 78) ((infer_ask_val fu (T_infer_ask.mk 78 x1.fs x1.fin x1.fouts) x2).bind fun x3 => some x3.fDims) (chk (x1.fop = 77) <| (infer_ask_val fu (T_infer_ask.mk 77 x1.fs x1.fin x1.fouts) x2).bind fun x4 => some x4.fDims)
def infer_ask_rank (fu : Nat) (x1 : T_infer_ask) : Option Int :=
  spl (x1.fop = 78) ((infer_ask_dims fu (T_infer_ask.mk 78 x1.fs x1.fin x1.fouts) 0).bind fun x2 => some (x2.length : Int)) (chk (x1.fop = 77) <| (infer_ask_dims fu (T_infer_ask.mk 77 x1.fs x1.fin x1.fouts) 0).bind fun x3 => some (x3.length : Int))
def infer_many (fu : Nat) (x1 : List Int) (x2 : Int) : Option Bool :=
  if (x1.length : Int) = 0 then (some true) else some (decide ((x1.length : Int) = x2))
def infer_ask_frames (fu : Nat) (x1 : T_infer_ask) : Option Bool :=
  spl (x1.fop = 78) ((infer_many fu x1.fs.fStrides 2).bind fun x2 => if x2 = true then ((infer_many fu x1.fs.fDilations 2).bind fun x3 => if x3 = true then ((infer_many fu x1.fs.fPads 4).bind fun x4 => some x4) else some false) else some false) (chk (x1.fop = 77) <| (infer_many fu x1.fs.fStrides 2).bind fun x5 => if x5 = true then ((infer_many fu x1.fs.fDilations 2).bind fun x6 => if x6 = true then ((infer_many fu x1.fs.fPads 4).bind fun x7 => some x7) else some false) else some false)
def infer_ask_attributes.k2 (fu : Nat) : Option Bool :=
  some true
def infer_ask_attributes.k1 (fu : Nat) : Option Bool :=
  jn 2 () (fun (t : Unit) => infer_ask_attributes.k2 fu) <| infer_ask_attributes.k2 fu
def infer_ask_attributes.k4 (fu : Nat) (x1 : T_infer_ask) : Option Bool :=
  if (x1.fs.fKernel.length : Int) = 2 then ((infer_ask_frames fu (T_infer_ask.mk 77 x1.fs x1.fin x1.fouts)).bind fun x4 => some x4) else some false
def infer_ask_attributes.k3 (fu : Nat) (x1 : T_infer_ask) : Option Bool :=
  jn 4 () (fun (t : Unit) => infer_ask_attributes.k4 fu x1) <| infer_ask_attributes.k4 fu x1
def infer_ask_attributes (fu : Nat) (x1 : T_infer_ask) : Option Bool :=
  spl (x1.fop = 78) ((infer_ask_rank fu (T_infer_ask.mk 78 x1.fs x1.fin x1.fouts)).bind fun x2 => jn 1 () (fun (t : Unit) => infer_ask_attributes.k1 fu) <| infer_ask_attributes.k1 fu) (chk (x1.fop = 77) <| (infer_ask_rank fu (T_infer_ask.mk 77 x1.fs x1.fin x1.fouts)).bind fun x3 => jn 3 () (fun (t : Unit) => infer_ask_attributes.k3 fu x1) <| infer_ask_attributes.k3 fu x1)
def infer_ask_lists.k1 (fu : Nat) : Option (List T_Val) :=
  some ([])
def infer_ask_lists.k2 (fu : Nat) : Option (List T_Val) :=
  some ([])
def infer_ask_lists (fu : Nat) (x1 : T_infer_ask) : Option (List T_Val) :=
  spl (x1.fop = 78) (jn 1 () (fun (t : Unit) => infer_ask_lists.k1 fu) <| infer_ask_lists.k1 fu) (chk (x1.fop = 77) <| jn 2 () (fun (t : Unit) => infer_ask_lists.k2 fu) <| infer_ask_lists.k2 fu)
def slices_IndexFunc_api_Val_api_Val.L1 (fu : Nat) (p1 : T_Val → Option Bool) (x1 : List T_Val) (nx1 : Int → Option Int) (x4 : Int) : Option Int :=
  if x4 < (x1.length : Int) then ((at? x1 x4).bind fun x7 => (p1 x7).bind fun x8 => if x8 = true then (some x4) else nx1 (wk .i64 (x4 + 1))) else some (-1)
def slices_IndexFunc_api_Val_api_Val.W1 (fu : Nat) (p1 : T_Val → Option Bool) (x1 : List T_Val) (x4 : Int) : Option Int :=
  cloop (fun next s => slices_IndexFunc_api_Val_api_Val.L1 fu p1 x1 next s) fu x4
def slices_IndexFunc_api_Val_api_Val (fu : Nat) (x1 : List T_Val) (p1 : T_Val → Option Bool) : Option Int :=
  slices_IndexFunc_api_Val_api_Val.W1 fu p1 x1 0
def slices_ContainsFunc_api_Val_api_Val (fu : Nat) (x1 : List T_Val) (p1 : T_Val → Option Bool) : Option Bool :=
  (slices_IndexFunc_api_Val_api_Val fu x1 p1).bind fun x2 => some (decide (0 ≤ x2))
def slices_Equal_int.L1 (fu : Nat) (x1 : List Int) (x2 : List Int) (nx1 : Int → Option Bool) (x5 : Int) : Option Bool :=
  if x5 < (x1.length : Int) then ((at? x1 x5).bind fun x8 => (at? x2 x5).bind fun x9 => if x8 = x9 then (nx1 (wk .i64 (x5 + 1))) else some false) else some true
def slices_Equal_int.W1 (fu : Nat) (x1 : List Int) (x2 : List Int) (x5 : Int) : Option Bool :=
  cloop (fun next s => slices_Equal_int.L1 fu x1 x2 next s) fu x5
def slices_Equal_int (fu : Nat) (x1 : List Int) (x2 : List Int) : Option Bool :=
  if (x1.length : Int) = (x2.length : Int) then (slices_Equal_int.W1 fu x1 x2 0) else some false
def infer_held (fu : Nat) (x1 : T_Val) : Option Bool :=
  if x1.fConst = true then ((tens_Check fu x1.fT).bind fun x2 => if x2 = 0 then (if x1.fT.fType = x1.fType then ((slices_Equal_int fu x1.fT.fDims x1.fDims).bind fun x3 => some x3) else some false) else some false) else some false
def infer_ask_told_1 (fu : Nat) (x1 : T_Val) : Option Bool :=
  (infer_held fu x1).bind fun x2 => some (!x2)
def infer_ask_told_2 (fu : Nat) (x1 : T_Val) : Option Bool :=
  some (!(decide ((x1.fDims.length : Int) = 1)))
def slices_IndexFunc_int64.L1 (fu : Nat) (p1 : Int → Option Bool) (x1 : List Int) (nx1 : Int → Option Int) (x4 : Int) : Option Int :=
  if x4 < (x1.length : Int) then ((at? x1 x4).bind fun x7 => (p1 x7).bind fun x8 => if x8 = true then (some x4) else nx1 (wk .i64 (x4 + 1))) else some (-1)
def slices_IndexFunc_int64.W1 (fu : Nat) (p1 : Int → Option Bool) (x1 : List Int) (x4 : Int) : Option Int :=
  cloop (fun next s => slices_IndexFunc_int64.L1 fu p1 x1 next s) fu x4
def slices_IndexFunc_int64 (fu : Nat) (x1 : List Int) (p1 : Int → Option Bool) : Option Int :=
  slices_IndexFunc_int64.W1 fu p1 x1 0
def slices_ContainsFunc_int64 (fu : Nat) (x1 : List Int) (p1 : Int → Option Bool) : Option Bool :=
  (slices_IndexFunc_int64 fu x1 p1).bind fun x2 => some (decide (0 ≤ x2))
def infer_ask_told_3_1 (fu : Nat) (x1 : Int) : Option Bool :=
  some (decide (4096 < x1))
def infer_ask_told_3 (fu : Nat) (x1 : T_Val) : Option Bool :=
  (slices_ContainsFunc_int64 fu x1.fT.fI (fun y0 => infer_ask_told_3_1 fu y0)).bind fun x2 => some x2
def infer_ask_told (fu : Nat) (x1 : T_infer_ask) : Option Int :=
  spl (x1.fop = 78) ((infer_ask_lists fu (T_infer_ask.mk 78 x1.fs x1.fin x1.fouts)).bind fun x2 => (slices_ContainsFunc_api_Val_api_Val fu x2 (fun y0 => infer_ask_told_1 fu y0)).bind fun x3 => if x3 = true then (some 15) else (slices_ContainsFunc_api_Val_api_Val fu x2 (fun y0 => infer_ask_told_2 fu y0)).bind fun x4 => if x4 = true then (some 3) else (slices_ContainsFunc_api_Val_api_Val fu x2 (fun y0 => infer_ask_told_3 fu y0)).bind fun x5 => if x5 = true then (some 4) else some 0) (chk (x1.fop = 77) <| (infer_ask_lists fu (T_infer_ask.mk 77 x1.fs x1.fin x1.fouts)).bind fun x6 => (slices_ContainsFunc_api_Val_api_Val fu x6 (fun y0 => infer_ask_told_1 fu y0)).bind fun x7 => if x7 = true then (some 15) else (slices_ContainsFunc_api_Val_api_Val fu x6 (fun y0 => infer_ask_told_2 fu y0)).bind fun x8 => if x8 = true then (some 3) else (slices_ContainsFunc_api_Val_api_Val fu x6 (fun y0 => infer_ask_told_3 fu y0)).bind fun x9 => if x9 = true then (some 4) else some 0)
def infer_ask_wrong.k1 (fu : Nat) (x1 : T_infer_ask) : Option Int :=
  (infer_ask_typed fu (T_infer_ask.mk 78 x1.fs x1.fin x1.fouts)).bind fun x2 => if x2 = true then ((infer_ask_attributes fu (T_infer_ask.mk 78 x1.fs x1.fin x1.fouts)).bind fun x3 => if x3 = true then ((infer_ask_told fu (T_infer_ask.mk 78 x1.fs x1.fin x1.fouts)).bind fun x4 => some x4) else some 14) else some 5
def infer_ask_wrong.L1 (fu : Nat) (x1 : T_infer_ask) (nx1 : Int → Option Int) (x8 : Int) : Option Int :=
  if x8 < (x1.fin.length : Int) then ((at? x1.fin x8).bind fun x12 => (shape_Size fu x12.fDims).bind fun x13 => (infer_ask_has fu (T_infer_ask.mk 78 x1.fs x1.fin x1.fouts) x8).bind fun x14 => if x14 = true then (if x13.2 = 0 then (nx1 (wk .i64 (x8 + 1))) else some 4) else nx1 (wk .i64 (x8 + 1))) else infer_ask_wrong.k1 fu x1
def infer_ask_wrong.W1 (fu : Nat) (x1 : T_infer_ask) (x8 : Int) : Option Int :=
  cloop (fun next s => infer_ask_wrong.L1 fu x1 next s) fu x8
def infer_ask_wrong.k2 (fu : Nat) (x1 : T_infer_ask) : Option Int :=
  (infer_ask_typed fu (T_infer_ask.mk 77 x1.fs x1.fin x1.fouts)).bind fun x15 => if x15 = true then ((infer_ask_attributes fu (T_infer_ask.mk 77 x1.fs x1.fin x1.fouts)).bind fun x16 => if x16 = true then ((infer_ask_told fu (T_infer_ask.mk 77 x1.fs x1.fin x1.fouts)).bind fun x17 => some x17) else some 14) else some 5
def infer_ask_wrong.L2 (fu : Nat) (x1 : T_infer_ask) (nx2 : Int → Option Int) (x21 : Int) : Option Int :=
  if x21 < (x1.fin.length : Int) then ((at? x1.fin x21).bind fun x25 => (shape_Size fu x25.fDims).bind fun x26 => (infer_ask_has fu (T_infer_ask.mk 77 x1.fs x1.fin x1.fouts) x21).bind fun x27 => if x27 = true then (if x26.2 = 0 then (nx2 (wk .i64 (x21 + 1))) else some 4) else nx2 (wk .i64 (x21 + 1))) else infer_ask_wrong.k2 fu x1
def infer_ask_wrong.W2 (fu : Nat) (x1 : T_infer_ask) (x21 : Int) : Option Int :=
  cloop (fun next s => infer_ask_wrong.L2 fu x1 next s) fu x21
def infer_ask_wrong (fu : Nat) (x1 : T_infer_ask) : Option Int :=
  spl (x1.fop = 78) (jn 1 () (fun (t : Unit) => infer_ask_wrong.k1 fu x1) <| infer_ask_wrong.W1 fu x1 0) (chk (x1.fop = 77) <| jn 2 () (fun (t : Unit) => infer_ask_wrong.k2 fu x1) <| infer_ask_wrong.W2 fu x1 0)
def infer_misfit (fu : Nat) : Option ((List (List Int)) × Int) :=
  some ([], 3)
def slices_Repeat_int (fu : Nat) (x1 : List Int) (x2 : Int) : Option (List Int) :=
  chk (x1 = [1] ∧ x2 = 4) <| some [1, 1, 1, 1]
def infer_one (fu : Nat) (x1 : List Int) : Option ((List (List Int)) × Int) :=
  some ([x1], 0)
def shape_Axis (fu : Nat) (x1 : Int) (x2 : Int) : Option (Int × Int) :=
  if x2 < 0 then (some (0, 2)) else if 0 ≤ x1 then (if x1 < x2 then (some (x1, 0)) else some (0, 2)) else if (wk .i64 (0 - x2)) ≤ x1 then (some (wk .i64 (x2 + x1), 0)) else some (0, 2)
def infer_ask_axis (fu : Nat) (x1 : T_infer_ask) : Option Int :=
  spl (x1.fop = 78) ((infer_ask_rank fu (T_infer_ask.mk 78 x1.fs x1.fin x1.fouts)).bind fun x2 => (shape_Axis fu x1.fs.fAxis x2).bind fun x3 => some x3.1) (chk (x1.fop = 77) <| (infer_ask_rank fu (T_infer_ask.mk 77 x1.fs x1.fin x1.fouts)).bind fun x4 => (shape_Axis fu x1.fs.fAxis x4).bind fun x5 => some x5.1)
def infer_ask_normal.k1 (fu : Nat) (x2 : List Int) : Option ((List (List Int)) × Int) :=
  (slices_Repeat_int fu ([1]) (x2.length : Int)).bind fun x3 => chk (0 ≤ 2 ∧ 2 ≤ (x2.length : Int)) <| chk (0 < (subN x2 0 2).length ∧ (subN x2 0 2).length ≤ x3.length) <| (infer_one fu (cpL x3 (subN x2 0 2))).bind fun x4 => some (x4.1, x4.2)
def infer_ask_normal.k3 (fu : Nat) (x8 : List Int) : Option ((List (List Int)) × Int) :=
  (infer_one fu x8).bind fun x12 => some (x12.1, x12.2)
def infer_ask_normal.L1 (fu : Nat) (x1 : T_infer_ask) (x8 : List Int) (x9 : Int) (nx1 : Int → Option ((List (List Int)) × Int)) (x17 : Int) : Option ((List (List Int)) × Int) :=
  if x17 < (x1.fin.length : Int) then ((infer_ask_has fu (T_infer_ask.mk 77 x1.fs x1.fin x1.fouts) x17).bind fun x22 => if x22 = true then ((infer_ask_dims fu (T_infer_ask.mk 77 x1.fs x1.fin x1.fouts) x17).bind fun x23 => (slices_Equal_int fu x23 (subN x8 x9.toNat x8.length)).bind fun x24 => if x24 = true then (nx1 (wk .i64 (x17 + 1))) else (infer_misfit fu).bind fun x25 => some (x25.1, x25.2)) else nx1 (wk .i64 (x17 + 1))) else infer_ask_normal.k3 fu x8
def infer_ask_normal.W1 (fu : Nat) (x1 : T_infer_ask) (x8 : List Int) (x9 : Int) (x17 : Int) : Option ((List (List Int)) × Int) :=
  cloop (fun next s => infer_ask_normal.L1 fu x1 x8 x9 next s) fu x17
def infer_ask_normal.k2 (fu : Nat) (x1 : T_infer_ask) (x8 : List Int) : Option ((List (List Int)) × Int) :=
  (infer_ask_axis fu (T_infer_ask.mk 77 x1.fs x1.fin x1.fouts)).bind fun x9 => chk (0 ≤ x9 ∧ x9 ≤ (x8.length : Int)) <| (slices_Contains_int fu (subN x8 x9.toNat x8.length) 0).bind fun x10 => if x10 = true then ((infer_misfit fu).bind fun x11 => some (x11.1, x11.2)) else jn 3 () (fun (t : Unit) => infer_ask_normal.k3 fu x8) <| infer_ask_normal.W1 fu x1 x8 x9 1
def infer_ask_normal (fu : Nat) (x1 : T_infer_ask) : Option ((List (List Int)) × Int) :=
  spl (x1.fop = 78) ((infer_ask_dims fu (T_infer_ask.mk 78 x1.fs x1.fin x1.fouts) 0).bind fun x2 => jn 1 () (fun (t : Unit) => infer_ask_normal.k1 fu x2) <| if (x2.length : Int) < 3 then ((infer_misfit fu).bind fun x5 => some (x5.1, x5.2)) else chk (0 ≤ 2 ∧ 2 ≤ (x2.length : Int)) <| (slices_Contains_int fu (subN x2 2 x2.length) 0).bind fun x6 => if x6 = true then ((infer_misfit fu).bind fun x7 => some (x7.1, x7.2)) else infer_ask_normal.k1 fu x2) (chk (x1.fop = 77) <| (infer_ask_dims fu (T_infer_ask.mk 77 x1.fs x1.fin x1.fouts) 0).bind fun x8 => jn 2 () (fun (t : Unit) => infer_ask_normal.k2 fu x1 x8) <| infer_ask_normal.k2 fu x1 x8)
def infer_number (fu : Nat) (x1 : List Int) (x2 : Int) (x3 : Int) : Option Int :=
  if (x1.length : Int) = 0 then (some x3) else (at? x1 x2).bind fun x4 => some x4
def infer_ranged_1 (fu : Nat) (x1 : Int) (x2 : Int) : Option Bool :=
  if x1 < x2 then (some true) else some (decide (4096 < x1))
def infer_ranged (fu : Nat) (x1 : Int) (x2 : List Int) : Option Bool :=
  (slices_ContainsFunc_int fu x2 (fun y0 => infer_ranged_1 fu y0 x1)).bind fun x3 => some (!x3)
def infer_Window.k2 (fu : Nat) (x1 : Int) (x2 : Int) (x3 : Int) (x4 : Int) (x8 : Bool) (x9 : Int) (x10 : Int) : Option (Int × Int × Int) :=
  if (wk .i64 ((wk .i64 ((wk .i64 (x1 + x9)) + x10)) - (wk .i64 ((wk .i64 ((wk .i64 (x2 - 1)) * x4)) + 1)))) < 0 then (some (0, 0, 3)) else chk (x3 ≠ 0) <| if x8 = true then (if 0 < (Int.tmod (wk .i64 ((wk .i64 ((wk .i64 (x1 + x9)) + x10)) - (wk .i64 ((wk .i64 ((wk .i64 (x2 - 1)) * x4)) + 1)))) x3) then (if (wk .i64 ((wk .i64 ((wk .i64 (Int.tdiv (wk .i64 ((wk .i64 ((wk .i64 (x1 + x9)) + x10)) - (wk .i64 ((wk .i64 ((wk .i64 (x2 - 1)) * x4)) + 1)))) x3)) + 1)) * x3)) < (wk .i64 (x1 + x9)) then (some (wk .i64 ((wk .i64 ((wk .i64 (Int.tdiv (wk .i64 ((wk .i64 ((wk .i64 (x1 + x9)) + x10)) - (wk .i64 ((wk .i64 ((wk .i64 (x2 - 1)) * x4)) + 1)))) x3)) + 1)) + 1), x9, 0)) else some (wk .i64 ((wk .i64 (Int.tdiv (wk .i64 ((wk .i64 ((wk .i64 (x1 + x9)) + x10)) - (wk .i64 ((wk .i64 ((wk .i64 (x2 - 1)) * x4)) + 1)))) x3)) + 1), x9, 0)) else some (wk .i64 ((wk .i64 (Int.tdiv (wk .i64 ((wk .i64 ((wk .i64 (x1 + x9)) + x10)) - (wk .i64 ((wk .i64 ((wk .i64 (x2 - 1)) * x4)) + 1)))) x3)) + 1), x9, 0)) else some (wk .i64 ((wk .i64 (Int.tdiv (wk .i64 ((wk .i64 ((wk .i64 (x1 + x9)) + x10)) - (wk .i64 ((wk .i64 ((wk .i64 (x2 - 1)) * x4)) + 1)))) x3)) + 1), x9, 0)
def infer_Window.k1 (fu : Nat) (x1 : Int) (x2 : Int) (x3 : Int) (x4 : Int) (x5 : Int) (x6 : Int) (x7 : Int) (x8 : Bool) : Option (Int × Int × Int) :=
  jn 2 () (fun (t : Int × Int) => infer_Window.k2 fu x1 x2 x3 x4 x8 t.1 t.2) <| if x7 = 9 then (chk (x3 ≠ 0) <| if (wk .i64 (Int.tdiv (wk .i64 ((wk .i64 (x1 + x3)) - 1)) x3)) = 0 then (some (0, 0, 0)) else if x7 = 10 then (none) else some (wk .i64 (Int.tdiv (wk .i64 ((wk .i64 (x1 + x3)) - 1)) x3), wk .i64 (Int.tdiv (imax 0 (wk .i64 ((wk .i64 ((wk .i64 ((wk .i64 ((wk .i64 (Int.tdiv (wk .i64 ((wk .i64 (x1 + x3)) - 1)) x3)) - 1)) * x3)) + (wk .i64 ((wk .i64 ((wk .i64 (x2 - 1)) * x4)) + 1)))) - x1))) 2), 0)) else if x7 = 10 then (chk (x3 ≠ 0) <| if (wk .i64 (Int.tdiv (wk .i64 ((wk .i64 (x1 + x3)) - 1)) x3)) = 0 then (some (0, 0, 0)) else some (wk .i64 (Int.tdiv (wk .i64 ((wk .i64 (x1 + x3)) - 1)) x3), wk .i64 (Int.tdiv (wk .i64 ((imax 0 (wk .i64 ((wk .i64 ((wk .i64 ((wk .i64 ((wk .i64 (Int.tdiv (wk .i64 ((wk .i64 (x1 + x3)) - 1)) x3)) - 1)) * x3)) + (wk .i64 ((wk .i64 ((wk .i64 (x2 - 1)) * x4)) + 1)))) - x1))) + 1)) 2), 0)) else if x7 = 8 then (infer_Window.k2 fu x1 x2 x3 x4 x8 0 0) else infer_Window.k2 fu x1 x2 x3 x4 x8 x5 x6
def infer_Window (fu : Nat) (x1 : Int) (x2 : Int) (x3 : Int) (x4 : Int) (x5 : Int) (x6 : Int) (x7 : Int) (x8 : Bool) : Option (Int × Int × Int) :=
  jn 1 () (fun (t : Unit) => infer_Window.k1 fu x1 x2 x3 x4 x5 x6 x7 x8) <| (infer_ranged fu 0 ([x1, x5, x6])).bind fun x11 => if x11 = true then ((infer_ranged fu 1 ([x2, x3, x4])).bind fun x12 => if x12 = true then (infer_Window.k1 fu x1 x2 x3 x4 x5 x6 x7 x8) else some (0, 0, 1)) else some (0, 0, 1)
def infer_ask_windows.L1 (fu : Nat) (x1 : T_infer_ask) (x2 : List Int) (nx1 : (List Int) → Int → Option ((List Int) × Bool)) (x11 : List Int) (x12 : Int) : Option ((List Int) × Bool) :=
  if x12 < 2 then ((infer_ask_dims fu (T_infer_ask.mk 78 x1.fs x1.fin x1.fouts) 0).bind fun x21 => (at? x21 (wk .i64 (2 + x12))).bind fun x22 => (at? x2 x12).bind fun x23 => (infer_number fu x1.fs.fStrides x12 1).bind fun x24 => (infer_number fu x1.fs.fDilations x12 1).bind fun x25 => (infer_number fu x1.fs.fPads x12 0).bind fun x26 => (infer_number fu x1.fs.fPads (wk .i64 (2 + x12)) 0).bind fun x27 => (infer_Window fu x22 x23 x24 x25 x26 x27 x1.fs.fAuto x1.fs.fCeil).bind fun x28 => if x28.2.2 = 0 then (chk ((x11.length + 1 : Int) * 8 ≤ 140737488355328) <| nx1 (x11 ++ ([x28.1])) (wk .i64 (x12 + 1))) else some ([], false)) else some (x11, true)
def infer_ask_windows.W1 (fu : Nat) (x1 : T_infer_ask) (x2 : List Int) (x11 : List Int) (x12 : Int) : Option ((List Int) × Bool) :=
  cloop (fun next s => infer_ask_windows.L1 fu x1 x2 (fun x11 x12 => next (x11, x12)) s.1 s.2) fu (x11, x12)
def infer_ask_windows.L2 (fu : Nat) (x1 : T_infer_ask) (x2 : List Int) (nx2 : (List Int) → Int → Option ((List Int) × Bool)) (x37 : List Int) (x38 : Int) : Option ((List Int) × Bool) :=
  if x38 < 2 then ((infer_ask_dims fu (T_infer_ask.mk 77 x1.fs x1.fin x1.fouts) 0).bind fun x47 => (at? x47 (wk .i64 (2 + x38))).bind fun x48 => (at? x2 x38).bind fun x49 => (infer_number fu x1.fs.fStrides x38 1).bind fun x50 => (infer_number fu x1.fs.fDilations x38 1).bind fun x51 => (infer_number fu x1.fs.fPads x38 0).bind fun x52 => (infer_number fu x1.fs.fPads (wk .i64 (2 + x38)) 0).bind fun x53 => (infer_Window fu x48 x49 x50 x51 x52 x53 x1.fs.fAuto x1.fs.fCeil).bind fun x54 => if x54.2.2 = 0 then (chk ((x37.length + 1 : Int) * 8 ≤ 140737488355328) <| nx2 (x37 ++ ([x54.1])) (wk .i64 (x38 + 1))) else some ([], false)) else some (x37, true)
def infer_ask_windows.W2 (fu : Nat) (x1 : T_infer_ask) (x2 : List Int) (x37 : List Int) (x38 : Int) : Option ((List Int) × Bool) :=
  cloop (fun next s => infer_ask_windows.L2 fu x1 x2 (fun x37 x38 => next (x37, x38)) s.1 s.2) fu (x37, x38)
def infer_ask_windows (fu : Nat) (x1 : T_infer_ask) (x2 : List Int) : Option ((List Int) × Bool) :=
  spl (x1.fop = 78) (infer_ask_windows.W1 fu x1 x2 ([] : List Int) 0) (chk (x1.fop = 77) <| infer_ask_windows.W2 fu x1 x2 ([] : List Int) 0)
def infer_ask_pool (fu : Nat) (x1 : T_infer_ask) : Option ((List (List Int)) × Int) :=
  spl (x1.fop = 78) ((infer_ask_dims fu (T_infer_ask.mk 78 x1.fs x1.fin x1.fouts) 0).bind fun x2 => if (x2.length : Int) = 4 then ((infer_ask_windows fu (T_infer_ask.mk 78 x1.fs x1.fin x1.fouts) x1.fs.fKernel).bind fun x3 => if x3.2 = true then ((at? x2 0).bind fun x4 => (at? x2 1).bind fun x5 => (at? x3.1 0).bind fun x6 => (at? x3.1 1).bind fun x7 => (infer_one fu ([x4, x5, x6, x7])).bind fun x8 => some (x8.1, x8.2)) else (infer_misfit fu).bind fun x9 => some (x9.1, x9.2)) else (infer_misfit fu).bind fun x10 => some (x10.1, x10.2)) (chk (x1.fop = 77) <| (infer_ask_dims fu (T_infer_ask.mk 77 x1.fs x1.fin x1.fouts) 0).bind fun x11 => if (x11.length : Int) = 4 then ((infer_ask_windows fu (T_infer_ask.mk 77 x1.fs x1.fin x1.fouts) x1.fs.fKernel).bind fun x12 => if x12.2 = true then ((at? x11 0).bind fun x13 => (at? x11 1).bind fun x14 => (at? x12.1 0).bind fun x15 => (at? x12.1 1).bind fun x16 => (infer_one fu ([x13, x14, x15, x16])).bind fun x17 => some (x17.1, x17.2)) else (infer_misfit fu).bind fun x18 => some (x18.1, x18.2)) else (infer_misfit fu).bind fun x19 => some (x19.1, x19.2))
def infer_ask_shapes.k3 (fu : Nat) (x1 : T_infer_ask) : Option ((List (List Int)) × Int) :=
  (infer_ask_normal fu (T_infer_ask.mk 78 x1.fs x1.fin x1.fouts)).bind fun x3 => some (x3.1, x3.2)
def infer_ask_shapes.k2 (fu : Nat) (x1 : T_infer_ask) : Option ((List (List Int)) × Int) :=
  jn 3 () (fun (t : Unit) => infer_ask_shapes.k3 fu x1) <| infer_ask_shapes.k3 fu x1
def infer_ask_shapes.k1 (fu : Nat) (x1 : T_infer_ask) : Option ((List (List Int)) × Int) :=
  jn 2 () (fun (t : Unit) => infer_ask_shapes.k2 fu x1) <| infer_ask_shapes.k2 fu x1
def infer_ask_shapes.k6 (fu : Nat) (x1 : T_infer_ask) : Option ((List (List Int)) × Int) :=
  (infer_ask_pool fu (T_infer_ask.mk 77 x1.fs x1.fin x1.fouts)).bind fun x5 => some (x5.1, x5.2)
def infer_ask_shapes.k5 (fu : Nat) (x1 : T_infer_ask) : Option ((List (List Int)) × Int) :=
  jn 6 () (fun (t : Unit) => infer_ask_shapes.k6 fu x1) <| infer_ask_shapes.k6 fu x1
def infer_ask_shapes.k4 (fu : Nat) (x1 : T_infer_ask) : Option ((List (List Int)) × Int) :=
  jn 5 () (fun (t : Unit) => infer_ask_shapes.k5 fu x1) <| infer_ask_shapes.k5 fu x1
def infer_ask_shapes (fu : Nat) (x1 : T_infer_ask) : Option ((List (List Int)) × Int) :=
  spl (x1.fop = 78) ((infer_ask_dims fu (T_infer_ask.mk 78 x1.fs x1.fin x1.fouts) 0).bind fun x2 => jn 1 () (fun (t : Unit) => infer_ask_shapes.k1 fu x1) <| infer_ask_shapes.k1 fu x1) (chk (x1.fop = 77) <| (infer_ask_dims fu (T_infer_ask.mk 77 x1.fs x1.fin x1.fouts) 0).bind fun x4 => jn 4 () (fun (t : Unit) => infer_ask_shapes.k4 fu x1) <| infer_ask_shapes.k4 fu x1)
def infer_ask_out.k1 (fu : Nat) (x1 : T_infer_ask) : Option Int :=
  (infer_ask_val fu (T_infer_ask.mk 78 x1.fs x1.fin x1.fouts) 0).bind fun x2 => some x2.fType
def infer_ask_out.k3 (fu : Nat) (x1 : T_infer_ask) : Option Int :=
  infer_ask_out.k1 fu x1
def infer_ask_out.k2 (fu : Nat) (x1 : T_infer_ask) : Option Int :=
  jn 3 () (fun (t : Unit) => infer_ask_out.k3 fu x1) <| infer_ask_out.k3 fu x1
def infer_ask_out.k4 (fu : Nat) (x1 : T_infer_ask) : Option Int :=
  (infer_ask_val fu (T_infer_ask.mk 77 x1.fs x1.fin x1.fouts) 0).bind fun x3 => some x3.fType
def infer_ask_out.k6 (fu : Nat) (x1 : T_infer_ask) : Option Int :=
  infer_ask_out.k4 fu x1
def infer_ask_out.k5 (fu : Nat) (x1 : T_infer_ask) : Option Int :=
  jn 6 () (fun (t : Unit) => infer_ask_out.k6 fu x1) <| infer_ask_out.k6 fu x1
def infer_ask_out (fu : Nat) (x1 : T_infer_ask) : Option Int :=
  spl (x1.fop = 78) (jn 1 () (fun (t : Unit) => infer_ask_out.k1 fu x1) <| jn 2 () (fun (t : Unit) => infer_ask_out.k2 fu x1) <| infer_ask_out.k2 fu x1) (chk (x1.fop = 77) <| jn 4 () (fun (t : Unit) => infer_ask_out.k4 fu x1) <| jn 5 () (fun (t : Unit) => infer_ask_out.k5 fu x1) <| infer_ask_out.k5 fu x1)
def infer_Node.L1 (fu : Nat) (x2 : T_Setting) (x3 : List T_Val) (x4 : Int) (x7 : (List (List Int)) × Int) (nx1 : (List T_Val) → Int → Option ((List T_Val) × Int)) (x12 : List T_Val) (x13 : Int) : Option ((List T_Val) × Int) :=
  if x13 < (x7.1.length : Int) then ((at? x7.1 x13).bind fun x18 => (shape_Size fu x18).bind fun x19 => if x19.2 = 0 then ((infer_ask_out fu (T_infer_ask.mk 78 x2 x3 x4)).bind fun x20 => (slices_Clone_int fu x18).bind fun x21 => chk ((x12.length + 1 : Int) * 144 ≤ 140737488355328) <| nx1 (x12 ++ ([T_Val.mk x20 x21 false (T_Tensor.mk 0 ([]) ([]) ([]) ([]))])) (wk .i64 (x13 + 1))) else some ([], 4)) else some (x12, 0)
def infer_Node.W1 (fu : Nat) (x2 : T_Setting) (x3 : List T_Val) (x4 : Int) (x7 : (List (List Int)) × Int) (x12 : List T_Val) (x13 : Int) : Option ((List T_Val) × Int) :=
  cloop (fun next s => infer_Node.L1 fu x2 x3 x4 x7 (fun x12 x13 => next (x12, x13)) s.1 s.2) fu (x12, x13)
def infer_Node.L2 (fu : Nat) (x2 : T_Setting) (x3 : List T_Val) (x4 : Int) (x24 : (List (List Int)) × Int) (nx2 : (List T_Val) → Int → Option ((List T_Val) × Int)) (x29 : List T_Val) (x30 : Int) : Option ((List T_Val) × Int) :=
  if x30 < (x24.1.length : Int) then ((at? x24.1 x30).bind fun x35 => (shape_Size fu x35).bind fun x36 => if x36.2 = 0 then ((infer_ask_out fu (T_infer_ask.mk 77 x2 x3 x4)).bind fun x37 => (slices_Clone_int fu x35).bind fun x38 => chk ((x29.length + 1 : Int) * 144 ≤ 140737488355328) <| nx2 (x29 ++ ([T_Val.mk x37 x38 false (T_Tensor.mk 0 ([]) ([]) ([]) ([]))])) (wk .i64 (x30 + 1))) else some ([], 4)) else some (x29, 0)
def infer_Node.W2 (fu : Nat) (x2 : T_Setting) (x3 : List T_Val) (x4 : Int) (x24 : (List (List Int)) × Int) (x29 : List T_Val) (x30 : Int) : Option ((List T_Val) × Int) :=
  cloop (fun next s => infer_Node.L2 fu x2 x3 x4 x24 (fun x29 x30 => next (x29, x30)) s.1 s.2) fu (x29, x30)
def infer_Node (fu : Nat) (x1 : Int) (x2 : T_Setting) (x3 : List T_Val) (x4 : Int) : Option ((List T_Val) × Int) :=
  spl (x1 = 78) ((infer_ask_complete fu (T_infer_ask.mk 78 x2 x3 x4)).bind fun x5 => if x5 = true then ((infer_ask_wrong fu (T_infer_ask.mk 78 x2 x3 x4)).bind fun x6 => if x6 = 0 then ((infer_ask_shapes fu (T_infer_ask.mk 78 x2 x3 x4)).bind fun x7 => if x7.2 = 0 then (infer_Node.W1 fu x2 x3 x4 x7 ([] : List T_Val) 0) else some ([], x7.2)) else some ([], x6)) else some ([], 1)) (chk (x1 = 77) <| (infer_ask_complete fu (T_infer_ask.mk 77 x2 x3 x4)).bind fun x22 => if x22 = true then ((infer_ask_wrong fu (T_infer_ask.mk 77 x2 x3 x4)).bind fun x23 => if x23 = 0 then ((infer_ask_shapes fu (T_infer_ask.mk 77 x2 x3 x4)).bind fun x24 => if x24.2 = 0 then (infer_Node.W2 fu x2 x3 x4 x24 ([] : List T_Val) 0) else some ([], x24.2)) else some ([], x23)) else some ([], 1))
def tens_New (fu : Nat) (x1 : Int) (x2 : List Int) : Option (T_Tensor × Int) :=
  (tens_known fu x1).bind fun x3 => if x3 = true then ((shape_Size fu x2).bind fun x4 => if x4.2 = 0 then ((slices_Clone_int fu x2).bind fun x5 => if x1 = 1 then (chk (0 ≤ x4.1 ∧ x4.1 * 4 ≤ 140737488355328) <| some (T_Tensor.mk x1 x5 (List.replicate x4.1.toNat (0 : Int)) ([]) ([]), 0)) else if x1 = 7 then (chk (0 ≤ x4.1 ∧ x4.1 * 8 ≤ 140737488355328) <| some (T_Tensor.mk x1 x5 ([]) (List.replicate x4.1.toNat (0 : Int)) ([]), 0)) else chk (0 ≤ x4.1 ∧ x4.1 * 1 ≤ 140737488355328) <| some (T_Tensor.mk x1 x5 ([]) ([]) (List.replicate x4.1.toNat (false : Bool)), 0)) else some (T_Tensor.mk 0 ([]) ([]) ([]) ([]), x4.2)) else some (T_Tensor.mk 0 ([]) ([]) ([]) ([]), 5)
def shape_Axes.k2 (fu : Nat) (x3 : List Bool) (x4 : Bool) : Option ((List Bool) × Int) :=
  if x4 = true then (some ([], 1)) else some (x3, 0)
def shape_Axes.L1 (fu : Nat) (x1 : List Int) (x2 : Int) (nx1 : (List Bool) → Bool → Int → Option ((List Bool) × Int)) (x8 : List Bool) (x9 : Bool) (x10 : Int) : Option ((List Bool) × Int) :=
  if x10 < (x1.length : Int) then ((at? x1 x10).bind fun x14 => (shape_Axis fu x14 x2).bind fun x15 => if x15.2 = 0 then (if x9 = true then (chk (0 ≤ x15.1 ∧ x15.1 < (x8.length : Int)) <| nx1 (x8.set x15.1.toNat true) true (wk .i64 (x10 + 1))) else (at? x8 x15.1).bind fun x16 => chk (0 ≤ x15.1 ∧ x15.1 < (x8.length : Int)) <| nx1 (x8.set x15.1.toNat true) x16 (wk .i64 (x10 + 1))) else some ([], x15.2)) else shape_Axes.k2 fu x8 x9
def shape_Axes.W1 (fu : Nat) (x1 : List Int) (x2 : Int) (x8 : List Bool) (x9 : Bool) (x10 : Int) : Option ((List Bool) × Int) :=
  cloop (fun next s => shape_Axes.L1 fu x1 x2 (fun x8 x9 x10 => next (x8, x9, x10)) s.1 s.2.1 s.2.2) fu (x8, x9, x10)
def shape_Axes.k1 (fu : Nat) (x1 : List Int) (x2 : Int) : Option ((List Bool) × Int) :=
  chk (0 ≤ x2 ∧ x2 * 1 ≤ 140737488355328) <| jn 2 () (fun (t : (List Bool) × Bool) => shape_Axes.k2 fu t.1 t.2) <| shape_Axes.W1 fu x1 x2 (List.replicate x2.toNat (false : Bool)) false 0
def shape_Axes (fu : Nat) (x1 : List Int) (x2 : Int) : Option ((List Bool) × Int) :=
  jn 1 () (fun (t : Unit) => shape_Axes.k1 fu x1 x2) <| if x2 < 0 then (some ([], 1)) else if 8 < x2 then (some ([], 1)) else shape_Axes.k1 fu x1 x2
def reduce_work_over.L1 (fu : Nat) (x3 : (List Bool) × Int) (nx1 : (List Bool) → Int → Option (List Bool)) (x4 : List Bool) (x5 : Int) : Option (List Bool) :=
  if x5 < ((x3.1.length : Nat) : Int) then (chk (0 ≤ x5 ∧ x5 < (x4.length : Int)) <| nx1 (x4.set x5.toNat true) (wk .i64 (x5 + 1))) else some x4
def reduce_work_over.W1 (fu : Nat) (x3 : (List Bool) × Int) (x4 : List Bool) (x5 : Int) : Option (List Bool) :=
  cloop (fun next s => reduce_work_over.L1 fu x3 (fun x4 x5 => next (x4, x5)) s.1 s.2) fu (x4, x5)
def reduce_work_over.k1 (fu : Nat) (x1 : T_reduce_work) (x2 : List Int) : Option (List Bool) :=
  (shape_Axes fu x2 (x1.fx.fDims.length : Int)).bind fun x3 => if (x2.length : Int) = 0 then (reduce_work_over.W1 fu x3 x3.1 0) else some x3.1
def reduce_work_over.L2 (fu : Nat) (x1 : T_reduce_work) (nx2 : (List Int) → Int → Option (List Bool)) (x6 : List Int) (x7 : Int) : Option (List Bool) :=
  if x7 < (x1.fx.fDims.length : Int) then (chk ((x6.length + 1 : Int) * 8 ≤ 140737488355328) <| nx2 (x6 ++ ([x7])) (wk .i64 (x7 + 1))) else reduce_work_over.k1 fu x1 x6
def reduce_work_over.W2 (fu : Nat) (x1 : T_reduce_work) (x6 : List Int) (x7 : Int) : Option (List Bool) :=
  cloop (fun next s => reduce_work_over.L2 fu x1 (fun x6 x7 => next (x6, x7)) s.1 s.2) fu (x6, x7)
def reduce_work_over.L3 (fu : Nat) (x8 : (List Bool) × Int) (nx3 : (List Bool) → Int → Option (List Bool)) (x9 : List Bool) (x10 : Int) : Option (List Bool) :=
  if x10 < ((x8.1.length : Nat) : Int) then (chk (0 ≤ x10 ∧ x10 < (x9.length : Int)) <| nx3 (x9.set x10.toNat true) (wk .i64 (x10 + 1))) else some x9
def reduce_work_over.W3 (fu : Nat) (x8 : (List Bool) × Int) (x9 : List Bool) (x10 : Int) : Option (List Bool) :=
  cloop (fun next s => reduce_work_over.L3 fu x8 (fun x9 x10 => next (x9, x10)) s.1 s.2) fu (x9, x10)
def reduce_work_over.k2 (fu : Nat) (x1 : T_reduce_work) : Option (List Bool) :=
  (shape_Axes fu x1.fs.fAxes (x1.fx.fDims.length : Int)).bind fun x8 => if (x1.fs.fAxes.length : Int) = 0 then (reduce_work_over.W3 fu x8 x8.1 0) else some x8.1
def reduce_work_over (fu : Nat) (x1 : T_reduce_work) : Option (List Bool) :=
  spl (x1.fop = 78) (jn 1 () (fun (t : List Int) => reduce_work_over.k1 fu x1 t) <| reduce_work_over.W2 fu x1 ([] : List Int) 2) (chk (x1.fop = 77) <| jn 2 () (fun (t : Unit) => reduce_work_over.k2 fu x1) <| reduce_work_over.k2 fu x1)
def shape_strides.L1 (fu : Nat) (x1 : List Int) (nx1 : (List Int) → Int → Int → Option (List Int)) (x3 : List Int) (x4 : Int) (x5 : Int) : Option (List Int) :=
  if 0 ≤ x5 then (chk (0 ≤ x5 ∧ x5 < (x3.length : Int)) <| (at? x1 x5).bind fun x7 => nx1 (x3.set x5.toNat x4) (wk .i64 (x4 * x7)) (wk .i64 (x5 - 1))) else some x3
def shape_strides.W1 (fu : Nat) (x1 : List Int) (x3 : List Int) (x4 : Int) (x5 : Int) : Option (List Int) :=
  cloop (fun next s => shape_strides.L1 fu x1 (fun x3 x4 x5 => next (x3, x4, x5)) s.1 s.2.1 s.2.2) fu (x3, x4, x5)
def shape_strides (fu : Nat) (x1 : List Int) : Option (List Int) :=
  chk (0 ≤ (x1.length : Int) ∧ (x1.length : Int) * 8 ≤ 140737488355328) <| shape_strides.W1 fu x1 (List.replicate (x1.length : Int).toNat (0 : Int)) 1 (wk .i64 ((x1.length : Int) - 1))
def shape_Strides (fu : Nat) (x1 : List Int) : Option ((List Int) × Int) :=
  (shape_Size fu x1).bind fun x2 => if x2.2 = 0 then ((shape_strides fu x1).bind fun x3 => some (x3, 0)) else some ([], x2.2)
def reduce_places.L3 (fu : Nat) (nx2 : (List Int) → Int → Option (List Int)) (x2 : List Int) (x25 : Int) (x47 : Int) (x55 : Int) (x62 : Int) (nx3 : (List Int) → Int → Option (List Int)) (x64 : List Int) (x65 : Int) : Option (List Int) :=
  if x65 < x47 then ((at? x2 x25).bind fun x67 => chk ((x64.length + 1 : Int) * 8 ≤ 140737488355328) <| nx3 (x64 ++ ([wk .i64 (x62 + (wk .i64 (x65 * x67)))])) (wk .i64 (x65 + 1))) else nx2 x64 (wk .i64 (x55 + 1))
def reduce_places.W3 (fu : Nat) (nx2 : (List Int) → Int → Option (List Int)) (x2 : List Int) (x25 : Int) (x47 : Int) (x55 : Int) (x62 : Int) (x64 : List Int) (x65 : Int) : Option (List Int) :=
  cloop (fun next s => reduce_places.L3 fu nx2 x2 x25 x47 x55 x62 (fun x64 x65 => next (x64, x65)) s.1 s.2) fu (x64, x65)
def reduce_places.L2 (fu : Nat) (nx1 : (List Int) → Int → Option (List Int)) (x2 : List Int) (x24 : List Int) (x25 : Int) (x47 : Int) (nx2 : (List Int) → Int → Option (List Int)) (x54 : List Int) (x55 : Int) : Option (List Int) :=
  if x55 < (x24.length : Int) then ((at? x24 x55).bind fun x62 => reduce_places.W3 fu nx2 x2 x25 x47 x55 x62 x54 0) else nx1 x54 (wk .i64 (x25 + 1))
def reduce_places.W2 (fu : Nat) (nx1 : (List Int) → Int → Option (List Int)) (x2 : List Int) (x24 : List Int) (x25 : Int) (x47 : Int) (x54 : List Int) (x55 : Int) : Option (List Int) :=
  cloop (fun next s => reduce_places.L2 fu nx1 x2 x24 x25 x47 (fun x54 x55 => next (x54, x55)) s.1 s.2) fu (x54, x55)
def reduce_places.L1 (fu : Nat) (x1 : List Int) (x2 : List Int) (nx1 : (List Int) → Int → Option (List Int)) (x24 : List Int) (x25 : Int) : Option (List Int) :=
  if x25 < (x1.length : Int) then ((at? x1 x25).bind fun x47 => reduce_places.W2 fu nx1 x2 x24 x25 x47 ([] : List Int) 0) else some x24
def reduce_places.W1 (fu : Nat) (x1 : List Int) (x2 : List Int) (x24 : List Int) (x25 : Int) : Option (List Int) :=
  cloop (fun next s => reduce_places.L1 fu x1 x2 (fun x24 x25 => next (x24, x25)) s.1 s.2) fu (x24, x25)
def reduce_places (fu : Nat) (x1 : List Int) (x2 : List Int) : Option (List Int) :=
  reduce_places.W1 fu x1 x2 ([0]) 0
def rowL (steps : List Int) (x : Int) : List Int := steps.map fun s => wk .i64 (x + s)
def rowsL (steps : List Int) : Nat → List Int → List (Int × List Int)
  | _, [] => []
  | k, x :: xs => ((k : Int), rowL steps x) :: rowsL steps (k + 1) xs
def reduce_rowsIt (fu : Nat) (outer far steps : List Int) : Option (List (Int × List Int)) :=
  (reduce_places fu outer far).bind fun fs => chk (fs.length < fu ∧ steps.length < fu ∧ fs.length ≤ 140737488355328 ∧ steps.length * 8 ≤ 140737488355328) <| some (rowsL steps 0 fs)
def reduce_at_uint32.L1 (fu : Nat) (x1 : List Int) (x2 : List Int) (nx1 : (List Int) → Int → Option (List Int)) (x5 : List Int) (x6 : Int) : Option (List Int) :=
  if x6 < (x2.length : Int) then ((at? x2 x6).bind fun x9 => (at? x1 x9).bind fun x10 => chk ((x5.length + 1 : Int) * 4 ≤ 140737488355328) <| nx1 (x5 ++ ([x10])) (wk .i64 (x6 + 1))) else some x5
def reduce_at_uint32.W1 (fu : Nat) (x1 : List Int) (x2 : List Int) (x5 : List Int) (x6 : Int) : Option (List Int) :=
  cloop (fun next s => reduce_at_uint32.L1 fu x1 x2 (fun x5 x6 => next (x5, x6)) s.1 s.2) fu (x5, x6)
def reduce_at_uint32 (fu : Nat) (x1 : List Int) (x2 : List Int) : Option (List Int) :=
  reduce_at_uint32.W1 fu x1 x2 ([] : List Int) 0
def reduce_fold_uint32.L1 (fu : Nat) (p2 : Int → Int → Option Int) (x1 : List Int) (nx1 : Int → Int → Option Int) (x5 : Int) (x6 : Int) : Option Int :=
  if x6 < (x1.length : Int) then ((at? x1 x6).bind fun x9 => (p2 x5 x9).bind fun x10 => nx1 x10 (wk .i64 (x6 + 1))) else some x5
def reduce_fold_uint32.W1 (fu : Nat) (p2 : Int → Int → Option Int) (x1 : List Int) (x5 : Int) (x6 : Int) : Option Int :=
  cloop (fun next s => reduce_fold_uint32.L1 fu p2 x1 (fun x5 x6 => next (x5, x6)) s.1 s.2) fu (x5, x6)
def reduce_fold_uint32 (fu : Nat) (x1 : List Int) (x2 : Int) (p2 : Int → Int → Option Int) : Option Int :=
  reduce_fold_uint32.W1 fu p2 x1 x2 0
def soft_open (fu : Nat) (x1 : Int) : Option T_soft_number :=
  if (wk .i64 (band .u32 (shrk .u32 x1 23) 255)) = 255 then (some (T_soft_number.mk (decide ((shrk .u32 x1 31) = 1)) (!(decide ((wk .u64 (band .u32 x1 8388607)) = 0))) (decide ((wk .u64 (band .u32 x1 8388607)) = 0)) 0 0)) else if (wk .i64 (band .u32 (shrk .u32 x1 23) 255)) = 0 then (some (T_soft_number.mk (decide ((shrk .u32 x1 31) = 1)) false false (-149) (wk .u64 (band .u32 x1 8388607)))) else some (T_soft_number.mk (decide ((shrk .u32 x1 31) = 1)) false false (wk .i64 ((wk .i64 (band .u32 (shrk .u32 x1 23) 255)) - 150)) (bor .u64 (wk .u64 (band .u32 x1 8388607)) 8388608))
def soft_sign (fu : Nat) (x1 : Bool) : Option Int :=
  if x1 = true then (some 2147483648) else some 0
def soft_nought (fu : Nat) (x1 : Int) : Option Int :=
  chk (x1 = 0) <| (soft_sign fu (decide ((0 : Int) = 2))).bind fun x2 => some x2
def math_bits_Len64.k2 (fu : Nat) (x4 : Int) (x5 : Int) : Option Int :=
  if 256 ≤ x4 then ((sat? (⟨((([0, 1, 2, 2, 3, 3, 3, 3, 4, 4, 4, 4, 4, 4, 4, 4, 5, 5, 5, 5, 5, 5, 5, 5, 5, 5, 5, 5, 5, 5, 5, 5, 6, 6, 6, 6, 6, 6, 6, 6, 6, 6, 6, 6, 6, 6, 6, 6, 6, 6, 6, 6, 6, 6, 6, 6, 6, 6, 6, 6, 6, 6, 6, 6]).append ([7, 7, 7, 7, 7, 7, 7, 7, 7, 7, 7, 7, 7, 7, 7, 7, 7, 7, 7, 7, 7, 7, 7, 7, 7, 7, 7, 7, 7, 7, 7, 7, 7, 7, 7, 7, 7, 7, 7, 7, 7, 7, 7, 7, 7, 7, 7, 7, 7, 7, 7, 7, 7, 7, 7, 7, 7, 7, 7, 7, 7, 7, 7, 7])).append (([8, 8, 8, 8, 8, 8, 8, 8, 8, 8, 8, 8, 8, 8, 8, 8, 8, 8, 8, 8, 8, 8, 8, 8, 8, 8, 8, 8, 8, 8, 8, 8, 8, 8, 8, 8, 8, 8, 8, 8, 8, 8, 8, 8, 8, 8, 8, 8, 8, 8, 8, 8, 8, 8, 8, 8, 8, 8, 8, 8, 8, 8, 8, 8]).append ([8, 8, 8, 8, 8, 8, 8, 8, 8, 8, 8, 8, 8, 8, 8, 8, 8, 8, 8, 8, 8, 8, 8, 8, 8, 8, 8, 8, 8, 8, 8, 8, 8, 8, 8, 8, 8, 8, 8, 8, 8, 8, 8, 8, 8, 8, 8, 8, 8, 8, 8, 8, 8, 8, 8, 8, 8, 8, 8, 8, 8, 8, 8, 8]))).toArray⟩ : ByteArray) (wk .u8 (shrk .u64 x4 8))).bind fun x6 => some (wk .i64 ((wk .i64 (x5 + 8)) + (wk .i64 x6)))) else (sat? (⟨((([0, 1, 2, 2, 3, 3, 3, 3, 4, 4, 4, 4, 4, 4, 4, 4, 5, 5, 5, 5, 5, 5, 5, 5, 5, 5, 5, 5, 5, 5, 5, 5, 6, 6, 6, 6, 6, 6, 6, 6, 6, 6, 6, 6, 6, 6, 6, 6, 6, 6, 6, 6, 6, 6, 6, 6, 6, 6, 6, 6, 6, 6, 6, 6]).append ([7, 7, 7, 7, 7, 7, 7, 7, 7, 7, 7, 7, 7, 7, 7, 7, 7, 7, 7, 7, 7, 7, 7, 7, 7, 7, 7, 7, 7, 7, 7, 7, 7, 7, 7, 7, 7, 7, 7, 7, 7, 7, 7, 7, 7, 7, 7, 7, 7, 7, 7, 7, 7, 7, 7, 7, 7, 7, 7, 7, 7, 7, 7, 7])).append (([8, 8, 8, 8, 8, 8, 8, 8, 8, 8, 8, 8, 8, 8, 8, 8, 8, 8, 8, 8, 8, 8, 8, 8, 8, 8, 8, 8, 8, 8, 8, 8, 8, 8, 8, 8, 8, 8, 8, 8, 8, 8, 8, 8, 8, 8, 8, 8, 8, 8, 8, 8, 8, 8, 8, 8, 8, 8, 8, 8, 8, 8, 8, 8]).append ([8, 8, 8, 8, 8, 8, 8, 8, 8, 8, 8, 8, 8, 8, 8, 8, 8, 8, 8, 8, 8, 8, 8, 8, 8, 8, 8, 8, 8, 8, 8, 8, 8, 8, 8, 8, 8, 8, 8, 8, 8, 8, 8, 8, 8, 8, 8, 8, 8, 8, 8, 8, 8, 8, 8, 8, 8, 8, 8, 8, 8, 8, 8, 8]))).toArray⟩ : ByteArray) (wk .u8 x4)).bind fun x7 => some (wk .i64 (x5 + (wk .i64 x7)))
def math_bits_Len64.k1 (fu : Nat) (x2 : Int) (x3 : Int) : Option Int :=
  jn 2 () (fun (t : Int × Int) => math_bits_Len64.k2 fu t.1 t.2) <| if 65536 ≤ x2 then (math_bits_Len64.k2 fu (shrk .u64 x2 16) (wk .i64 (x3 + 16))) else math_bits_Len64.k2 fu x2 x3
def math_bits_Len64 (fu : Nat) (x1 : Int) : Option Int :=
  jn 1 () (fun (t : Int × Int) => math_bits_Len64.k1 fu t.1 t.2) <| if 4294967296 ≤ x1 then (math_bits_Len64.k1 fu (shrk .u64 x1 32) 32) else math_bits_Len64.k1 fu x1 0
def soft_outwards (fu : Nat) (x1 : Int) (x2 : Bool) : Option Bool :=
  chk (x1 = 0) <| some false
def soft_tiny (fu : Nat) (x1 : Int) (x2 : Bool) : Option Int :=
  chk (x1 = 0) <| (soft_outwards fu 0 x2).bind fun x3 => if x3 = true then ((soft_sign fu x2).bind fun x4 => some (bor .u32 x4 1)) else (soft_sign fu x2).bind fun x5 => some x5
def soft_huge.k1 (fu : Nat) (x2 : Bool) : Option Int :=
  (soft_sign fu x2).bind fun x3 => some (bor .u32 x3 2139095040)
def soft_huge (fu : Nat) (x1 : Int) (x2 : Bool) : Option Int :=
  chk (x1 = 0) <| jn 1 () (fun (t : Unit) => soft_huge.k1 fu x2) <| soft_huge.k1 fu x2
def soft_Round.k3 (fu : Nat) (x2 : Bool) (x3 : Int) (x6 : Int) (x11 : Int) : Option Int :=
  if x11 = 0 then ((soft_sign fu x2).bind fun x12 => some x12) else if 104 < (wk .i64 (x3 + (imax (wk .i64 (x6 - 24)) (wk .i64 ((-149) - x3))))) then ((soft_huge fu 0 x2).bind fun x13 => some x13) else if 2139095040 ≤ (wk .u64 ((shlk .u64 (wk .u64 (wk .i64 ((wk .i64 (x3 + (imax (wk .i64 (x6 - 24)) (wk .i64 ((-149) - x3))))) + 149))) 23) + x11)) then ((soft_huge fu 0 x2).bind fun x14 => some x14) else (soft_sign fu x2).bind fun x15 => some (bor .u32 x15 (wk .u32 (wk .u64 ((shlk .u64 (wk .u64 (wk .i64 ((wk .i64 (x3 + (imax (wk .i64 (x6 - 24)) (wk .i64 ((-149) - x3))))) + 149))) 23) + x11))))
def soft_Round.k2 (fu : Nat) (x2 : Bool) (x3 : Int) (x6 : Int) (x7 : Int) (x8 : Bool) (x9 : Bool) (x10 : Bool) : Option Int :=
  jn 3 () (fun (t : Int) => soft_Round.k3 fu x2 x3 x6 t) <| if x8 = true then (soft_Round.k3 fu x2 x3 x6 (wk .u64 (x7 + 1))) else if x9 = true then (if (band .u64 x7 1) = 1 then (soft_Round.k3 fu x2 x3 x6 (wk .u64 (x7 + 1))) else soft_Round.k3 fu x2 x3 x6 x7) else soft_Round.k3 fu x2 x3 x6 x7
def soft_Round.k4 (fu : Nat) (x2 : Bool) (x3 : Int) (x4 : Int) (x5 : Bool) (x6 : Int) (x16 : Bool) : Option Int :=
  if (band .u64 x4 (wk .u64 ((shlk .u64 1 (imax (wk .i64 (x6 - 24)) (wk .i64 ((-149) - x3)))) - 1))) = (shlk .u64 1 (wk .i64 ((imax (wk .i64 (x6 - 24)) (wk .i64 ((-149) - x3))) - 1))) then (if (band .u64 x4 (wk .u64 ((shlk .u64 1 (imax (wk .i64 (x6 - 24)) (wk .i64 ((-149) - x3)))) - 1))) = 0 then (soft_Round.k2 fu x2 x3 x6 (shrk .u64 x4 (imax (wk .i64 (x6 - 24)) (wk .i64 ((-149) - x3)))) x16 (!x5) x5) else soft_Round.k2 fu x2 x3 x6 (shrk .u64 x4 (imax (wk .i64 (x6 - 24)) (wk .i64 ((-149) - x3)))) x16 (!x5) true) else if (band .u64 x4 (wk .u64 ((shlk .u64 1 (imax (wk .i64 (x6 - 24)) (wk .i64 ((-149) - x3)))) - 1))) = 0 then (soft_Round.k2 fu x2 x3 x6 (shrk .u64 x4 (imax (wk .i64 (x6 - 24)) (wk .i64 ((-149) - x3)))) x16 false x5) else soft_Round.k2 fu x2 x3 x6 (shrk .u64 x4 (imax (wk .i64 (x6 - 24)) (wk .i64 ((-149) - x3)))) x16 false true
def soft_Round.k1 (fu : Nat) (x2 : Bool) (x3 : Int) (x4 : Int) (x5 : Bool) (x6 : Int) : Option Int :=
  jn 2 () (fun (t : Int × Bool × Bool × Bool) => soft_Round.k2 fu x2 x3 x6 t.1 t.2.1 t.2.2.1 t.2.2.2) <| if (imax (wk .i64 (x6 - 24)) (wk .i64 ((-149) - x3))) ≤ 0 then (chk (0 ≤ (wk .i64 (0 - (imax (wk .i64 (x6 - 24)) (wk .i64 ((-149) - x3)))))) <| soft_Round.k2 fu x2 x3 x6 (shlk .u64 x4 (wk .i64 (0 - (imax (wk .i64 (x6 - 24)) (wk .i64 ((-149) - x3)))))) false false x5) else if x6 < (imax (wk .i64 (x6 - 24)) (wk .i64 ((-149) - x3))) then (soft_Round.k2 fu x2 x3 x6 0 false false true) else chk (0 ≤ (imax (wk .i64 (x6 - 24)) (wk .i64 ((-149) - x3)))) <| chk (0 ≤ (wk .i64 ((imax (wk .i64 (x6 - 24)) (wk .i64 ((-149) - x3))) - 1))) <| jn 4 () (fun (t : Bool) => soft_Round.k4 fu x2 x3 x4 x5 x6 t) <| if (shlk .u64 1 (wk .i64 ((imax (wk .i64 (x6 - 24)) (wk .i64 ((-149) - x3))) - 1))) < (band .u64 x4 (wk .u64 ((shlk .u64 1 (imax (wk .i64 (x6 - 24)) (wk .i64 ((-149) - x3)))) - 1))) then (soft_Round.k4 fu x2 x3 x4 x5 x6 true) else if (band .u64 x4 (wk .u64 ((shlk .u64 1 (imax (wk .i64 (x6 - 24)) (wk .i64 ((-149) - x3)))) - 1))) = (shlk .u64 1 (wk .i64 ((imax (wk .i64 (x6 - 24)) (wk .i64 ((-149) - x3))) - 1))) then (soft_Round.k4 fu x2 x3 x4 x5 x6 x5) else soft_Round.k4 fu x2 x3 x4 x5 x6 false
def soft_Round (fu : Nat) (x1 : Int) (x2 : Bool) (x3 : Int) (x4 : Int) (x5 : Bool) : Option Int :=
  chk (x1 = 0) <| (math_bits_Len64 fu x4).bind fun x6 => jn 1 () (fun (t : Unit) => soft_Round.k1 fu x2 x3 x4 x5 x6) <| if x6 = 0 then (if x5 = true then ((soft_tiny fu 0 x2).bind fun x17 => some x17) else (soft_sign fu x2).bind fun x18 => some x18) else if x3 < (-300) then ((soft_tiny fu 0 x2).bind fun x19 => some x19) else if 200 < x3 then ((soft_huge fu 0 x2).bind fun x20 => some x20) else soft_Round.k1 fu x2 x3 x4 x5 x6
def soft_AddBy.k3 (fu : Nat) (x6 : Bool) (x9 : Bool) (x12 : Int) (x13 : Int) (x14 : Int) (x15 : Bool) : Option Int :=
  if (x6 == x9) = true then ((soft_Round fu 0 x6 x12 (wk .u64 (x13 + x14)) x15).bind fun x16 => some x16) else if x15 = true then ((soft_Round fu 0 x6 x12 (wk .u64 ((wk .u64 (x13 - x14)) - 1)) true).bind fun x17 => some x17) else if x13 = x14 then ((soft_nought fu 0).bind fun x18 => some x18) else if x14 < x13 then ((soft_Round fu 0 x6 x12 (wk .u64 (x13 - x14)) false).bind fun x19 => some x19) else (soft_Round fu 0 x9 x12 (wk .u64 (x14 - x13)) false).bind fun x20 => some x20
def soft_AddBy.k2 (fu : Nat) (x6 : Bool) (x7 : Int) (x8 : Int) (x9 : Bool) (x10 : Int) (x11 : Int) : Option Int :=
  jn 3 () (fun (t : Int × Int × Int × Bool) => soft_AddBy.k3 fu x6 x9 t.1 t.2.1 t.2.2.1 t.2.2.2) <| if (wk .i64 (x7 - x10)) ≤ 38 then (chk (0 ≤ (wk .i64 (x7 - x10))) <| soft_AddBy.k3 fu x6 x9 x10 (shlk .u64 x8 (wk .i64 (x7 - x10))) x11 false) else chk (0 ≤ (wk .i64 ((wk .i64 (x7 - x10)) - 38))) <| soft_AddBy.k3 fu x6 x9 (wk .i64 (x7 - 38)) (shlk .u64 x8 38) (shrk .u64 x11 (wk .i64 ((wk .i64 (x7 - x10)) - 38))) (!(decide ((shlk .u64 (shrk .u64 x11 (wk .i64 ((wk .i64 (x7 - x10)) - 38))) (wk .i64 ((wk .i64 (x7 - x10)) - 38))) = x11)))
def soft_AddBy.k1 (fu : Nat) (x4 : T_soft_number) (x5 : T_soft_number) : Option Int :=
  jn 2 () (fun (t : Bool × Int × Int × Bool × Int × Int) => soft_AddBy.k2 fu t.1 t.2.1 t.2.2.1 t.2.2.2.1 t.2.2.2.2.1 t.2.2.2.2.2) <| if x4.fexp < x5.fexp then (soft_AddBy.k2 fu x5.fneg x5.fexp x5.fsig x4.fneg x4.fexp x4.fsig) else soft_AddBy.k2 fu x4.fneg x4.fexp x4.fsig x5.fneg x5.fexp x5.fsig
def soft_AddBy (fu : Nat) (x1 : Int) (x2 : Int) (x3 : Int) : Option Int :=
  chk (x1 = 0) <| (soft_open fu x2).bind fun x4 => (soft_open fu x3).bind fun x5 => jn 1 () (fun (t : Unit) => soft_AddBy.k1 fu x4 x5) <| if x4.fnan = true then (some 2143289344) else if x5.fnan = true then (some 2143289344) else if x4.finf = true then (if x5.finf = true then (if (x4.fneg == x5.fneg) = true then (some x2) else some 2143289344) else some x2) else if x5.finf = true then (some x3) else if x4.fsig = 0 then (if x5.fsig = 0 then (if x2 = x3 then (some x2) else (soft_nought fu 0).bind fun x21 => some x21) else soft_AddBy.k1 fu x4 x5) else soft_AddBy.k1 fu x4 x5
def soft_Add (fu : Nat) (x1 : Int) (x2 : Int) : Option Int :=
  (soft_AddBy fu 0 x1 x2).bind fun x3 => some x3
def reduce_Sum (fu : Nat) (x1 : List Int) : Option Int :=
  (reduce_fold_uint32 fu x1 0 (fun y0 y1 => soft_Add fu y0 y1)).bind fun x2 => some x2
def round_FromIntBy (fu : Nat) (x1 : Int) (x2 : Int) : Option Int :=
  chk (x1 = 0) <| if x2 < 0 then ((soft_Round fu 0 true 0 (wk .u64 (0 - (wk .u64 x2))) false).bind fun x3 => some x3) else (soft_Round fu 0 false 0 (wk .u64 x2) false).bind fun x4 => some x4
def round_FromInt (fu : Nat) (x1 : Int) : Option Int :=
  (round_FromIntBy fu 0 x1).bind fun x2 => some x2
def soft_number_full (fu : Nat) (x1 : T_soft_number) : Option T_soft_number :=
  (math_bits_Len64 fu x1.fsig).bind fun x2 => chk (0 ≤ (wk .i64 (24 - x2))) <| some (T_soft_number.mk x1.fneg x1.fnan x1.finf (wk .i64 (x1.fexp - (wk .i64 (24 - x2)))) (shlk .u64 x1.fsig (wk .i64 (24 - x2))))
def soft_DivBy.k2 (fu : Nat) (x4 : T_soft_number) (x5 : T_soft_number) : Option Int :=
  (soft_number_full fu (T_soft_number.mk x4.fneg false false x4.fexp x4.fsig)).bind fun x10 => (soft_number_full fu (T_soft_number.mk x5.fneg false false x5.fexp x5.fsig)).bind fun x11 => chk (x11.fsig ≠ 0) <| (soft_Round fu 0 (!(x4.fneg == x5.fneg)) (wk .i64 ((wk .i64 (x10.fexp - x11.fexp)) - 38)) (wk .u64 (Int.tdiv (shlk .u64 x10.fsig 38) x11.fsig)) (!(decide ((Int.tmod (shlk .u64 x10.fsig 38) x11.fsig) = 0)))).bind fun x12 => some x12
def soft_DivBy.k1 (fu : Nat) (x4 : T_soft_number) (x5 : T_soft_number) (x6 : Bool) (x7 : Bool) (x8 : Bool) (x9 : Bool) : Option Int :=
  jn 2 () (fun (t : Unit) => soft_DivBy.k2 fu x4 x5) <| if x4.fnan = true then (some 2143289344) else if x5.fnan = true then (some 2143289344) else if x6 = true then (if x7 = true then (some 2143289344) else if x8 = true then (if x9 = true then (some 2143289344) else (soft_sign fu (!(x4.fneg == x5.fneg))).bind fun x13 => some (bor .u32 x13 2139095040)) else (soft_sign fu (!(x4.fneg == x5.fneg))).bind fun x14 => some (bor .u32 x14 2139095040)) else if x8 = true then (if x9 = true then (some 2143289344) else if x7 = true then ((soft_sign fu (!(x4.fneg == x5.fneg))).bind fun x15 => some x15) else (soft_sign fu (!(x4.fneg == x5.fneg))).bind fun x16 => some x16) else if x9 = true then ((soft_sign fu (!(x4.fneg == x5.fneg))).bind fun x17 => some (bor .u32 x17 2139095040)) else if x7 = true then ((soft_sign fu (!(x4.fneg == x5.fneg))).bind fun x18 => some x18) else soft_DivBy.k2 fu x4 x5
def soft_DivBy (fu : Nat) (x1 : Int) (x2 : Int) (x3 : Int) : Option Int :=
  chk (x1 = 0) <| (soft_open fu x2).bind fun x4 => (soft_open fu x3).bind fun x5 => jn 1 () (fun (t : Bool × Bool × Bool × Bool) => soft_DivBy.k1 fu x4 x5 t.1 t.2.1 t.2.2.1 t.2.2.2) <| if x4.finf = true then (if x5.finf = true then (soft_DivBy.k1 fu x4 x5 true true false false) else soft_DivBy.k1 fu x4 x5 true false false (decide (x5.fsig = 0))) else if x5.finf = true then (soft_DivBy.k1 fu x4 x5 false true (decide (x4.fsig = 0)) false) else soft_DivBy.k1 fu x4 x5 false false (decide (x4.fsig = 0)) (decide (x5.fsig = 0))
def soft_Div (fu : Nat) (x1 : Int) (x2 : Int) : Option Int :=
  (soft_DivBy fu 0 x1 x2).bind fun x3 => some x3
def reduce_mean (fu : Nat) (x1 : List Int) : Option Int :=
  (reduce_Sum fu x1).bind fun x2 => (round_FromInt fu (x1.length : Int)).bind fun x3 => (soft_Div fu x2 x3).bind fun x4 => some x4
def reduce_at_int64.L1 (fu : Nat) (x1 : List Int) (x2 : List Int) (nx1 : (List Int) → Int → Option (List Int)) (x5 : List Int) (x6 : Int) : Option (List Int) :=
  if x6 < (x2.length : Int) then ((at? x2 x6).bind fun x9 => (at? x1 x9).bind fun x10 => chk ((x5.length + 1 : Int) * 8 ≤ 140737488355328) <| nx1 (x5 ++ ([x10])) (wk .i64 (x6 + 1))) else some x5
def reduce_at_int64.W1 (fu : Nat) (x1 : List Int) (x2 : List Int) (x5 : List Int) (x6 : Int) : Option (List Int) :=
  cloop (fun next s => reduce_at_int64.L1 fu x1 x2 (fun x5 x6 => next (x5, x6)) s.1 s.2) fu (x5, x6)
def reduce_at_int64 (fu : Nat) (x1 : List Int) (x2 : List Int) : Option (List Int) :=
  reduce_at_int64.W1 fu x1 x2 ([] : List Int) 0
def reduce_fold_int64.L1 (fu : Nat) (p2 : Int → Int → Option Int) (x1 : List Int) (nx1 : Int → Int → Option Int) (x5 : Int) (x6 : Int) : Option Int :=
  if x6 < (x1.length : Int) then ((at? x1 x6).bind fun x9 => (p2 x5 x9).bind fun x10 => nx1 x10 (wk .i64 (x6 + 1))) else some x5
def reduce_fold_int64.W1 (fu : Nat) (p2 : Int → Int → Option Int) (x1 : List Int) (x5 : Int) (x6 : Int) : Option Int :=
  cloop (fun next s => reduce_fold_int64.L1 fu p2 x1 (fun x5 x6 => next (x5, x6)) s.1 s.2) fu (x5, x6)
def reduce_fold_int64 (fu : Nat) (x1 : List Int) (x2 : Int) (p2 : Int → Int → Option Int) : Option Int :=
  reduce_fold_int64.W1 fu p2 x1 x2 0
def reduce_intOf_4_1 (fu : Nat) (x1 : Int) (x2 : Int) : Option Int :=
  some (wk .i64 (x1 * x2))
def reduce_intOf_4 (fu : Nat) (x1 : List Int) : Option Int :=
  (reduce_fold_int64 fu x1 1 (fun y0 y1 => reduce_intOf_4_1 fu y0 y1)).bind fun x2 => some x2
def shape_Index.L1 (fu : Nat) (x4 : List Int) (nx1 : (List Int) → Int → Int → Option ((List Int) × Int)) (x6 : List Int) (x7 : Int) (x8 : Int) : Option ((List Int) × Int) :=
  if x8 < (x4.length : Int) then ((at? x4 x8).bind fun x10 => chk (x10 ≠ 0) <| chk (0 ≤ x8 ∧ x8 < (x6.length : Int)) <| nx1 (x6.set x8.toNat (wk .i64 (Int.tdiv x7 x10))) (Int.tmod x7 x10) (wk .i64 (x8 + 1))) else some (x6, 0)
def shape_Index.W1 (fu : Nat) (x4 : List Int) (x6 : List Int) (x7 : Int) (x8 : Int) : Option ((List Int) × Int) :=
  cloop (fun next s => shape_Index.L1 fu x4 (fun x6 x7 x8 => next (x6, x7, x8)) s.1 s.2.1 s.2.2) fu (x6, x7, x8)
def shape_Index.k1 (fu : Nat) (x1 : List Int) (x2 : Int) : Option ((List Int) × Int) :=
  chk (0 ≤ (x1.length : Int) ∧ (x1.length : Int) * 8 ≤ 140737488355328) <| (shape_strides fu x1).bind fun x4 => shape_Index.W1 fu x4 (List.replicate (x1.length : Int).toNat (0 : Int)) x2 0
def shape_Index (fu : Nat) (x1 : List Int) (x2 : Int) : Option ((List Int) × Int) :=
  (shape_Size fu x1).bind fun x3 => if x3.2 = 0 then (jn 1 () (fun (t : Unit) => shape_Index.k1 fu x1 x2) <| if x2 < 0 then (some ([], 2)) else if x3.1 ≤ x2 then (some ([], 2)) else shape_Index.k1 fu x1 x2) else some ([], x3.2)
def reduce_number (fu : Nat) (x1 : List Int) (x2 : Int) (x3 : Int) : Option Int :=
  if (x1.length : Int) = 0 then (some x3) else (at? x1 x2).bind fun x4 => some x4
def reduce_work_line.L1 (fu : Nat) (x3 : Int) (x4 : Int) (x5 : Int) (x6 : Int) (x7 : Int) (x10 : Int × Int × Int) (nx1 : (List Int) → Int → Option (List Int)) (x11 : List Int) (x12 : Int) : Option (List Int) :=
  if x12 < x5 then (if 0 ≤ (wk .i64 ((wk .i64 ((wk .i64 (x3 * x7)) + (wk .i64 (x12 * x6)))) - x10.2.1)) then (if (wk .i64 ((wk .i64 ((wk .i64 (x3 * x7)) + (wk .i64 (x12 * x6)))) - x10.2.1)) < x4 then (chk ((x11.length + 1 : Int) * 8 ≤ 140737488355328) <| nx1 (x11 ++ ([wk .i64 ((wk .i64 ((wk .i64 (x3 * x7)) + (wk .i64 (x12 * x6)))) - x10.2.1)])) (wk .i64 (x12 + 1))) else nx1 x11 (wk .i64 (x12 + 1))) else nx1 x11 (wk .i64 (x12 + 1))) else some x11
def reduce_work_line.W1 (fu : Nat) (x3 : Int) (x4 : Int) (x5 : Int) (x6 : Int) (x7 : Int) (x10 : Int × Int × Int) (x11 : List Int) (x12 : Int) : Option (List Int) :=
  cloop (fun next s => reduce_work_line.L1 fu x3 x4 x5 x6 x7 x10 (fun x11 x12 => next (x11, x12)) s.1 s.2) fu (x11, x12)
def reduce_work_line.L2 (fu : Nat) (x3 : Int) (x13 : Int) (x14 : Int) (x15 : Int) (x16 : Int) (x19 : Int × Int × Int) (nx2 : (List Int) → Int → Option (List Int)) (x20 : List Int) (x21 : Int) : Option (List Int) :=
  if x21 < x14 then (if 0 ≤ (wk .i64 ((wk .i64 ((wk .i64 (x3 * x16)) + (wk .i64 (x21 * x15)))) - x19.2.1)) then (if (wk .i64 ((wk .i64 ((wk .i64 (x3 * x16)) + (wk .i64 (x21 * x15)))) - x19.2.1)) < x13 then (chk ((x20.length + 1 : Int) * 8 ≤ 140737488355328) <| nx2 (x20 ++ ([wk .i64 ((wk .i64 ((wk .i64 (x3 * x16)) + (wk .i64 (x21 * x15)))) - x19.2.1)])) (wk .i64 (x21 + 1))) else nx2 x20 (wk .i64 (x21 + 1))) else nx2 x20 (wk .i64 (x21 + 1))) else some x20
def reduce_work_line.W2 (fu : Nat) (x3 : Int) (x13 : Int) (x14 : Int) (x15 : Int) (x16 : Int) (x19 : Int × Int × Int) (x20 : List Int) (x21 : Int) : Option (List Int) :=
  cloop (fun next s => reduce_work_line.L2 fu x3 x13 x14 x15 x16 x19 (fun x20 x21 => next (x20, x21)) s.1 s.2) fu (x20, x21)
def reduce_work_line (fu : Nat) (x1 : T_reduce_work) (x2 : Int) (x3 : Int) : Option (List Int) :=
  spl (x1.fop = 78) ((at? x1.fx.fDims (wk .i64 (2 + x2))).bind fun x4 => (at? x1.fs.fKernel x2).bind fun x5 => (reduce_number fu x1.fs.fDilations x2 1).bind fun x6 => (reduce_number fu x1.fs.fStrides x2 1).bind fun x7 => (reduce_number fu x1.fs.fPads x2 0).bind fun x8 => (reduce_number fu x1.fs.fPads (wk .i64 (2 + x2)) 0).bind fun x9 => (infer_Window fu x4 x5 x7 x6 x8 x9 x1.fs.fAuto x1.fs.fCeil).bind fun x10 => reduce_work_line.W1 fu x3 x4 x5 x6 x7 x10 ([] : List Int) 0) (chk (x1.fop = 77) <| (at? x1.fx.fDims (wk .i64 (2 + x2))).bind fun x13 => (at? x1.fs.fKernel x2).bind fun x14 => (reduce_number fu x1.fs.fDilations x2 1).bind fun x15 => (reduce_number fu x1.fs.fStrides x2 1).bind fun x16 => (reduce_number fu x1.fs.fPads x2 0).bind fun x17 => (reduce_number fu x1.fs.fPads (wk .i64 (2 + x2)) 0).bind fun x18 => (infer_Window fu x13 x14 x16 x15 x17 x18 x1.fs.fAuto x1.fs.fCeil).bind fun x19 => reduce_work_line.W2 fu x3 x13 x14 x15 x16 x19 ([] : List Int) 0)
def reduce_Do.R1 (fu : Nat) (x8 : T_Tensor) (x10 : T_Tensor × Int) (nr1 : (List Int) → (List Int) → Option (T_Tensor × Int)) (x19 : Int) (x20 : List Int) (x25 : List Int) (x26 : List Int) : Option (T_Tensor × Int) :=
  chk (x10.1.fF.length = x25.length) <| chk (x10.1.fI.length = x26.length) <| if x8.fType = 1 then ((reduce_at_uint32 fu x8.fF x20).bind fun x31 => (reduce_mean fu x31).bind fun x32 => chk (0 ≤ x19 ∧ x19 < (x25.length : Int)) <| nr1 (x25.set x19.toNat x32) x26) else (reduce_at_int64 fu x8.fI x20).bind fun x33 => (reduce_intOf_4 fu x33).bind fun x34 => chk (0 ≤ x19 ∧ x19 < (x26.length : Int)) <| nr1 x25 (x26.set x19.toNat x34)
def reduce_Do.E1 (fu : Nat) (x10 : T_Tensor × Int) (x25 : List Int) (x26 : List Int) : Option (T_Tensor × Int) :=
  chk (x10.1.fF.length = x25.length) <| chk (x10.1.fI.length = x26.length) <| some (T_Tensor.mk x10.1.fType x10.1.fDims x25 x26 x10.1.fB, 0)
def reduce_Do.k2 (fu : Nat) (x8 : T_Tensor) (x10 : T_Tensor × Int) (x13 : List Int) (x14 : List Int) (x15 : List Int) (x16 : List Int) : Option (T_Tensor × Int) :=
  (reduce_places fu x13 x15).bind fun x17 => (reduce_rowsIt fu x14 x16 x17).bind fun x18 => lloop (fun y next (s : (List Int) × (List Int)) => reduce_Do.R1 fu x8 x10 (fun u0 u1 => next (u0, u1)) y.1 y.2 s.1 s.2) (fun (s : (List Int) × (List Int)) => reduce_Do.E1 fu x10 s.1 s.2) x18 (x10.1.fF, x10.1.fI)
def reduce_Do.L1 (fu : Nat) (x8 : T_Tensor) (x10 : T_Tensor × Int) (x11 : List Bool) (x12 : (List Int) × Int) (nx1 : (List Int) → (List Int) → (List Int) → (List Int) → Int → Option (T_Tensor × Int)) (x39 : List Int) (x40 : List Int) (x41 : List Int) (x42 : List Int) (x43 : Int) : Option (T_Tensor × Int) :=
  if x43 < (x8.fDims.length : Int) then ((at? x8.fDims x43).bind fun x48 => (at? x11 x43).bind fun x49 => if x49 = true then (chk ((x39.length + 1 : Int) * 8 ≤ 140737488355328) <| (at? x12.1 x43).bind fun x50 => chk ((x41.length + 1 : Int) * 8 ≤ 140737488355328) <| nx1 (x39 ++ ([x48])) x40 (x41 ++ ([x50])) x42 (wk .i64 (x43 + 1))) else chk ((x40.length + 1 : Int) * 8 ≤ 140737488355328) <| (at? x12.1 x43).bind fun x51 => chk ((x42.length + 1 : Int) * 8 ≤ 140737488355328) <| nx1 x39 (x40 ++ ([x48])) x41 (x42 ++ ([x51])) (wk .i64 (x43 + 1))) else reduce_Do.k2 fu x8 x10 x39 x40 x41 x42
def reduce_Do.W1 (fu : Nat) (x8 : T_Tensor) (x10 : T_Tensor × Int) (x11 : List Bool) (x12 : (List Int) × Int) (x39 : List Int) (x40 : List Int) (x41 : List Int) (x42 : List Int) (x43 : Int) : Option (T_Tensor × Int) :=
  cloop (fun next s => reduce_Do.L1 fu x8 x10 x11 x12 (fun x39 x40 x41 x42 x43 => next (x39, x40, x41, x42, x43)) s.1 s.2.1 s.2.2.1 s.2.2.2.1 s.2.2.2.2) fu (x39, x40, x41, x42, x43)
def reduce_Do.k1 (fu : Nat) (x2 : T_Setting) (x3 : List T_Tensor) (x5 : List T_Tensor) : Option (T_Tensor × Int) :=
  (ewise_Vals fu x3).bind fun x6 => (infer_Node fu 78 x2 x6 1).bind fun x7 => if x7.2 = 0 then ((at? x5 0).bind fun x8 => (at? x7.1 0).bind fun x9 => (tens_New fu x9.fType x9.fDims).bind fun x10 => (reduce_work_over fu (T_reduce_work.mk 78 x2 x5 x8 x10.1)).bind fun x11 => (shape_Strides fu x8.fDims).bind fun x12 => jn 2 () (fun (t : (List Int) × (List Int) × (List Int) × (List Int)) => reduce_Do.k2 fu x8 x10 t.1 t.2.1 t.2.2.1 t.2.2.2) <| reduce_Do.W1 fu x8 x10 x11 x12 ([] : List Int) ([] : List Int) ([] : List Int) ([] : List Int) 0) else some (T_Tensor.mk 0 ([]) ([]) ([]) ([]), x7.2)
def reduce_Do.L2 (fu : Nat) (x2 : T_Setting) (x3 : List T_Tensor) (nx2 : (List T_Tensor) → Int → Option (T_Tensor × Int)) (x56 : List T_Tensor) (x57 : Int) : Option (T_Tensor × Int) :=
  if x57 < (x3.length : Int) then ((at? x3 x57).bind fun x62 => if x62.fType = 0 then ((tens_Canon fu x62).bind fun x63 => chk ((x56.length + 1 : Int) * 104 ≤ 140737488355328) <| nx2 (x56 ++ ([x63])) (wk .i64 (x57 + 1))) else (tens_Check fu x62).bind fun x64 => if x64 = 0 then ((tens_Canon fu x62).bind fun x65 => chk ((x56.length + 1 : Int) * 104 ≤ 140737488355328) <| nx2 (x56 ++ ([x65])) (wk .i64 (x57 + 1))) else some (T_Tensor.mk 0 ([]) ([]) ([]) ([]), x64)) else reduce_Do.k1 fu x2 x3 x56
def reduce_Do.W2 (fu : Nat) (x2 : T_Setting) (x3 : List T_Tensor) (x56 : List T_Tensor) (x57 : Int) : Option (T_Tensor × Int) :=
  cloop (fun next s => reduce_Do.L2 fu x2 x3 (fun x56 x57 => next (x56, x57)) s.1 s.2) fu (x56, x57)
def reduce_Do.k5 (fu : Nat) (nx3 : Bool → (List Int) → Int → Option (T_Tensor × Int)) (x72 : T_Tensor × Int) (x135 : List Int) (x136 : Int) (x202 : List Int) (x204 : Bool) (x205 : Int) : Option (T_Tensor × Int) :=
  (reduce_Sum fu x202).bind fun x206 => (round_FromInt fu x205).bind fun x207 => (soft_Div fu x206 x207).bind fun x208 => chk (0 ≤ x136 ∧ x136 < ((x72.1.fF.length : Nat) : Int)) <| chk (0 ≤ x136 ∧ x136 < (x135.length : Int)) <| nx3 x204 (x135.set x136.toNat x208) (wk .i64 (x136 + 1))
def reduce_Do.k4 (fu : Nat) (nx3 : Bool → (List Int) → Int → Option (T_Tensor × Int)) (x2 : T_Setting) (x72 : T_Tensor × Int) (x134 : Bool) (x135 : List Int) (x136 : Int) (x202 : List Int) (x203 : List Int) : Option (T_Tensor × Int) :=
  jn 5 () (fun (t : Bool × Int) => reduce_Do.k5 fu nx3 x72 x135 x136 x202 t.1 t.2) <| if x134 = true then ((at? x2.fKernel 0).bind fun x209 => (at? x2.fKernel 1).bind fun x210 => reduce_Do.k5 fu nx3 x72 x135 x136 x202 true (wk .i64 (x209 * x210))) else reduce_Do.k5 fu nx3 x72 x135 x136 x202 false (x202.length : Int)
def reduce_Do.L5 (fu : Nat) (nx4 : (List Int) → Int → Option (T_Tensor × Int)) (x70 : T_Tensor) (x73 : (List Int) × Int) (x198 : Int) (x199 : Int) (x200 : Int) (x201 : Int) (x228 : Int) (x243 : Int) (x245 : List Int) (nx5 : (List Int) → Int → Option (T_Tensor × Int)) (x249 : List Int) (x250 : Int) : Option (T_Tensor × Int) :=
  if x250 < (x245.length : Int) then ((at? x245 x250).bind fun x254 => (at? x73.1 2).bind fun x255 => (at? x70.fF (wk .i64 ((wk .i64 ((wk .i64 ((wk .i64 (x198 * x199)) + (wk .i64 (x200 * x201)))) + (wk .i64 (x243 * x255)))) + x254))).bind fun x256 => chk ((x249.length + 1 : Int) * 4 ≤ 140737488355328) <| nx5 (x249 ++ ([x256])) (wk .i64 (x250 + 1))) else nx4 x249 (wk .i64 (x228 + 1))
def reduce_Do.W5 (fu : Nat) (nx4 : (List Int) → Int → Option (T_Tensor × Int)) (x70 : T_Tensor) (x73 : (List Int) × Int) (x198 : Int) (x199 : Int) (x200 : Int) (x201 : Int) (x228 : Int) (x243 : Int) (x245 : List Int) (x249 : List Int) (x250 : Int) : Option (T_Tensor × Int) :=
  cloop (fun next s => reduce_Do.L5 fu nx4 x70 x73 x198 x199 x200 x201 x228 x243 x245 (fun x249 x250 => next (x249, x250)) s.1 s.2) fu (x249, x250)
def reduce_Do.L4 (fu : Nat) (nx3 : Bool → (List Int) → Int → Option (T_Tensor × Int)) (x2 : T_Setting) (x67 : List T_Tensor) (x70 : T_Tensor) (x72 : T_Tensor × Int) (x73 : (List Int) × Int) (x134 : Bool) (x135 : List Int) (x136 : Int) (x197 : (List Int) × Int) (x198 : Int) (x199 : Int) (x200 : Int) (x201 : Int) (x212 : List Int) (nx4 : (List Int) → Int → Option (T_Tensor × Int)) (x227 : List Int) (x228 : Int) : Option (T_Tensor × Int) :=
  if x228 < (x212.length : Int) then ((at? x212 x228).bind fun x243 => (at? x197.1 3).bind fun x244 => (reduce_work_line fu (T_reduce_work.mk 77 (T_Setting.mk x2.fAxis x2.fAxes x2.fHasAxes x2.fKeep x2.fNoop x2.fLast x2.fZero x2.fPerm x2.fHasPerm x2.fAlpha x2.fBeta x2.fEpsilon x2.fLow x2.fHigh x2.fFmod x2.fTo x2.fMode x2.fTransA x2.fTransB x2.fGroup x2.fKernel x2.fStrides x2.fPads x2.fDilations x2.fAuto x2.fCeil x134 x2.fBlock x2.fStart x2.fEnd x2.fHasEnd x2.fValue) x67 x70 (T_Tensor.mk x72.1.fType x72.1.fDims x135 x72.1.fI x72.1.fB)) 1 x244).bind fun x245 => reduce_Do.W5 fu nx4 x70 x73 x198 x199 x200 x201 x228 x243 x245 x227 0) else reduce_Do.k4 fu nx3 x2 x72 x134 x135 x136 x227 x212
def reduce_Do.W4 (fu : Nat) (nx3 : Bool → (List Int) → Int → Option (T_Tensor × Int)) (x2 : T_Setting) (x67 : List T_Tensor) (x70 : T_Tensor) (x72 : T_Tensor × Int) (x73 : (List Int) × Int) (x134 : Bool) (x135 : List Int) (x136 : Int) (x197 : (List Int) × Int) (x198 : Int) (x199 : Int) (x200 : Int) (x201 : Int) (x212 : List Int) (x227 : List Int) (x228 : Int) : Option (T_Tensor × Int) :=
  cloop (fun next s => reduce_Do.L4 fu nx3 x2 x67 x70 x72 x73 x134 x135 x136 x197 x198 x199 x200 x201 x212 (fun x227 x228 => next (x227, x228)) s.1 s.2) fu (x227, x228)
def reduce_Do.L3 (fu : Nat) (x2 : T_Setting) (x67 : List T_Tensor) (x70 : T_Tensor) (x72 : T_Tensor × Int) (x73 : (List Int) × Int) (nx3 : Bool → (List Int) → Int → Option (T_Tensor × Int)) (x134 : Bool) (x135 : List Int) (x136 : Int) : Option (T_Tensor × Int) :=
  chk (x72.1.fF.length = x135.length) <| if x136 < (x135.length : Int) then ((shape_Index fu x72.1.fDims x136).bind fun x197 => (at? x197.1 0).bind fun x198 => (at? x73.1 0).bind fun x199 => (at? x197.1 1).bind fun x200 => (at? x73.1 1).bind fun x201 => jn 4 () (fun (t : (List Int) × (List Int)) => reduce_Do.k4 fu nx3 x2 x72 x134 x135 x136 t.1 t.2) <| (at? x197.1 2).bind fun x211 => (reduce_work_line fu (T_reduce_work.mk 77 (T_Setting.mk x2.fAxis x2.fAxes x2.fHasAxes x2.fKeep x2.fNoop x2.fLast x2.fZero x2.fPerm x2.fHasPerm x2.fAlpha x2.fBeta x2.fEpsilon x2.fLow x2.fHigh x2.fFmod x2.fTo x2.fMode x2.fTransA x2.fTransB x2.fGroup x2.fKernel x2.fStrides x2.fPads x2.fDilations x2.fAuto x2.fCeil x134 x2.fBlock x2.fStart x2.fEnd x2.fHasEnd x2.fValue) x67 x70 (T_Tensor.mk x72.1.fType x72.1.fDims x135 x72.1.fI x72.1.fB)) 0 x211).bind fun x212 => reduce_Do.W4 fu nx3 x2 x67 x70 x72 x73 x134 x135 x136 x197 x198 x199 x200 x201 x212 ([] : List Int) 0) else some (T_Tensor.mk x72.1.fType x72.1.fDims x135 x72.1.fI x72.1.fB, 0)
def reduce_Do.W3 (fu : Nat) (x2 : T_Setting) (x67 : List T_Tensor) (x70 : T_Tensor) (x72 : T_Tensor × Int) (x73 : (List Int) × Int) (x134 : Bool) (x135 : List Int) (x136 : Int) : Option (T_Tensor × Int) :=
  cloop (fun next s => reduce_Do.L3 fu x2 x67 x70 x72 x73 (fun x134 x135 x136 => next (x134, x135, x136)) s.1 s.2.1 s.2.2) fu (x134, x135, x136)
def reduce_Do.k3 (fu : Nat) (x2 : T_Setting) (x3 : List T_Tensor) (x67 : List T_Tensor) : Option (T_Tensor × Int) :=
  (ewise_Vals fu x3).bind fun x68 => (infer_Node fu 77 x2 x68 1).bind fun x69 => if x69.2 = 0 then ((at? x67 0).bind fun x70 => (at? x69.1 0).bind fun x71 => (tens_New fu x71.fType x71.fDims).bind fun x72 => (shape_Strides fu x70.fDims).bind fun x73 => reduce_Do.W3 fu x2 x67 x70 x72 x73 x2.fCount x72.1.fF 0) else some (T_Tensor.mk 0 ([]) ([]) ([]) ([]), x69.2)
def reduce_Do.L6 (fu : Nat) (x2 : T_Setting) (x3 : List T_Tensor) (nx6 : (List T_Tensor) → Int → Option (T_Tensor × Int)) (x261 : List T_Tensor) (x262 : Int) : Option (T_Tensor × Int) :=
  if x262 < (x3.length : Int) then ((at? x3 x262).bind fun x267 => if x267.fType = 0 then ((tens_Canon fu x267).bind fun x268 => chk ((x261.length + 1 : Int) * 104 ≤ 140737488355328) <| nx6 (x261 ++ ([x268])) (wk .i64 (x262 + 1))) else (tens_Check fu x267).bind fun x269 => if x269 = 0 then ((tens_Canon fu x267).bind fun x270 => chk ((x261.length + 1 : Int) * 104 ≤ 140737488355328) <| nx6 (x261 ++ ([x270])) (wk .i64 (x262 + 1))) else some (T_Tensor.mk 0 ([]) ([]) ([]) ([]), x269)) else reduce_Do.k3 fu x2 x3 x261
def reduce_Do.W6 (fu : Nat) (x2 : T_Setting) (x3 : List T_Tensor) (x261 : List T_Tensor) (x262 : Int) : Option (T_Tensor × Int) :=
  cloop (fun next s => reduce_Do.L6 fu x2 x3 (fun x261 x262 => next (x261, x262)) s.1 s.2) fu (x261, x262)
def reduce_Do (fu : Nat) (x1 : Int) (x2 : T_Setting) (x3 : List T_Tensor) : Option (T_Tensor × Int) :=
  spl (x1 = 78) ((reduce_Has fu 78).bind fun x4 => if x4 = true then (jn 1 () (fun (t : List T_Tensor) => reduce_Do.k1 fu x2 x3 t) <| reduce_Do.W2 fu x2 x3 ([] : List T_Tensor) 0) else some (T_Tensor.mk 0 ([]) ([]) ([]) ([]), 1)) (chk (x1 = 77) <| (reduce_Has fu 77).bind fun x66 => if x66 = true then (jn 3 () (fun (t : List T_Tensor) => reduce_Do.k3 fu x2 x3 t) <| reduce_Do.W6 fu x2 x3 ([] : List T_Tensor) 0) else some (T_Tensor.mk 0 ([]) ([]) ([]) ([]), 1))
def ref04_SameInts.L1 (fu : Nat) (x1 : List Int) (x2 : List Int) (nx1 : Int → Option Bool) (x5 : Int) : Option Bool :=
  if x5 < (x1.length : Int) then ((at? x1 x5).bind fun x8 => (at? x2 x5).bind fun x9 => if x8 = x9 then (nx1 (wk .i64 (x5 + 1))) else some false) else some true
def ref04_SameInts.W1 (fu : Nat) (x1 : List Int) (x2 : List Int) (x5 : Int) : Option Bool :=
  cloop (fun next s => ref04_SameInts.L1 fu x1 x2 next s) fu x5
def ref04_SameInts (fu : Nat) (x1 : List Int) (x2 : List Int) : Option Bool :=
  if (x1.length : Int) = (x2.length : Int) then (ref04_SameInts.W1 fu x1 x2 0) else some false
def ref05_Same.L1 (fu : Nat) (x1 : T_Tensor) (x2 : T_Tensor) (nx1 : Int → Option Bool) (x5 : Int) : Option Bool :=
  if x5 < (x1.fB.length : Int) then ((at? x1.fB x5).bind fun x8 => (at? x2.fB x5).bind fun x9 => if (x8 == x9) = true then (nx1 (wk .i64 (x5 + 1))) else some false) else some true
def ref05_Same.W1 (fu : Nat) (x1 : T_Tensor) (x2 : T_Tensor) (x5 : Int) : Option Bool :=
  cloop (fun next s => ref05_Same.L1 fu x1 x2 next s) fu x5
def ref05_Same.k3 (fu : Nat) (x1 : T_Tensor) (x2 : T_Tensor) : Option Bool :=
  ref05_Same.W1 fu x1 x2 0
def ref05_Same.L2 (fu : Nat) (x1 : T_Tensor) (x2 : T_Tensor) (nx2 : Int → Option Bool) (x12 : Int) : Option Bool :=
  if x12 < (x1.fI.length : Int) then ((at? x1.fI x12).bind fun x15 => (at? x2.fI x12).bind fun x16 => if x15 = x16 then (nx2 (wk .i64 (x12 + 1))) else some false) else ref05_Same.k3 fu x1 x2
def ref05_Same.W2 (fu : Nat) (x1 : T_Tensor) (x2 : T_Tensor) (x12 : Int) : Option Bool :=
  cloop (fun next s => ref05_Same.L2 fu x1 x2 next s) fu x12
def ref05_Same.k2 (fu : Nat) (x1 : T_Tensor) (x2 : T_Tensor) : Option Bool :=
  jn 3 () (fun (t : Unit) => ref05_Same.k3 fu x1 x2) <| ref05_Same.W2 fu x1 x2 0
def ref05_Same.L3 (fu : Nat) (x1 : T_Tensor) (x2 : T_Tensor) (nx3 : Int → Option Bool) (x19 : Int) : Option Bool :=
  if x19 < (x1.fF.length : Int) then ((at? x1.fF x19).bind fun x22 => (at? x2.fF x19).bind fun x23 => if x22 = x23 then (nx3 (wk .i64 (x19 + 1))) else some false) else ref05_Same.k2 fu x1 x2
def ref05_Same.W3 (fu : Nat) (x1 : T_Tensor) (x2 : T_Tensor) (x19 : Int) : Option Bool :=
  cloop (fun next s => ref05_Same.L3 fu x1 x2 next s) fu x19
def ref05_Same.k1 (fu : Nat) (x1 : T_Tensor) (x2 : T_Tensor) : Option Bool :=
  jn 2 () (fun (t : Unit) => ref05_Same.k2 fu x1 x2) <| ref05_Same.W3 fu x1 x2 0
def ref05_Same (fu : Nat) (x1 : T_Tensor) (x2 : T_Tensor) : Option Bool :=
  jn 1 () (fun (t : Unit) => ref05_Same.k1 fu x1 x2) <| if x1.fType = x2.fType then ((ref04_SameInts fu x1.fDims x2.fDims).bind fun x24 => if x24 = true then (if (x1.fF.length : Int) = (x2.fF.length : Int) then (if (x1.fI.length : Int) = (x2.fI.length : Int) then (if (x1.fB.length : Int) = (x2.fB.length : Int) then (ref05_Same.k1 fu x1 x2) else some false) else some false) else some false) else some false) else some false
def law13_ReducePools.k1 (fu : Nat) (x2 : T_Tensor × Int) : Option Bool :=
  some (decide ((x2.1.fF.length : Int) = 0))
def law13_ReducePools (fu : Nat) (x1 : T_Tensor) : Option Bool :=
  if (x1.fDims.length : Int) = 4 then ((reduce_Do fu 78 (T_Setting.mk 0 ([]) false false false false false ([]) false 0 0 0 false false false 0 0 false false 0 ([]) ([]) ([]) ([]) 0 false false 0 0 0 false (T_Tensor.mk 0 ([]) ([]) ([]) ([]))) ([x1])).bind fun x2 => (at? x1.fDims 2).bind fun x3 => (at? x1.fDims 3).bind fun x4 => (reduce_Do fu 77 (T_Setting.mk 0 ([]) false false false false false ([]) false 0 0 0 false false false 0 0 false false 0 ([x3, x4]) ([]) ([]) ([]) 0 false false 0 0 0 false (T_Tensor.mk 0 ([]) ([]) ([]) ([]))) ([x1])).bind fun x5 => if x2.2 = 0 then (if x5.2 = 0 then ((ref05_Same fu x2.1 x5.1).bind fun x6 => some x6) else some false) else jn 1 x2 (fun (t : Unit) => law13_ReducePools.k1 fu x2) <| law13_ReducePools.k1 fu x2) else some true
end Go.Av
