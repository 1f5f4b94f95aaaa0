/- Plain functions, as the program has them; data of structs. Made by a program of mine. Conditions: none. -/
import Derived.Test.YtnpnomlnajgbcaaGreatAu
set_option linter.unusedVariables false
namespace Go.Av
structure T_Tensor where
  fType : Int
  fDims : List Int
  fF : List Int
  fI : List Int
  fB : List Bool
def c_T_Tensor (x : T_Tensor) : List AV := [.v (.int .i64 x.fType), .arr x.fDims.length (lm (ik .i64) x.fDims), .arr x.fF.length (lm (ik .u32) x.fF), .arr x.fI.length (lm (ik .i64) x.fI), .arr x.fB.length (lm (bk) x.fB)]
theorem c_T_Tensor_len : ∀ x, (c_T_Tensor x).length = 5 := fun _ => rfl
theorem c_T_Tensor_one : ∀ x, (c_T_Tensor x).all AV.one = true := fun _ => rfl
structure T_Setting where
  fAxis : Int
  fAxes : List Int
  fHasAxes : Bool
  fKeep : Bool
  fNoop : Bool
  fLast : Bool
  fZero : Bool
  fPerm : List Int
  fHasPerm : Bool
  fAlpha : Int
  fBeta : Int
  fEpsilon : Int
  fLow : Bool
  fHigh : Bool
  fFmod : Bool
  fTo : Int
  fMode : Int
  fTransA : Bool
  fTransB : Bool
  fGroup : Int
  fKernel : List Int
  fStrides : List Int
  fPads : List Int
  fDilations : List Int
  fAuto : Int
  fCeil : Bool
  fCount : Bool
  fBlock : Int
  fStart : Int
  fEnd : Int
  fHasEnd : Bool
  fValue : T_Tensor
def c_T_Setting (x : T_Setting) : List AV := [.v (.int .i64 x.fAxis), .arr x.fAxes.length (lm (ik .i64) x.fAxes), .v (.bool x.fHasAxes), .v (.bool x.fKeep), .v (.bool x.fNoop), .v (.bool x.fLast), .v (.bool x.fZero), .arr x.fPerm.length (lm (ik .i64) x.fPerm), .v (.bool x.fHasPerm), .v (.int .u32 x.fAlpha), .v (.int .u32 x.fBeta), .v (.int .u32 x.fEpsilon), .v (.bool x.fLow), .v (.bool x.fHigh), .v (.bool x.fFmod), .v (.int .i64 x.fTo), .v (.int .i64 x.fMode), .v (.bool x.fTransA), .v (.bool x.fTransB), .v (.int .i64 x.fGroup), .arr x.fKernel.length (lm (ik .i64) x.fKernel), .arr x.fStrides.length (lm (ik .i64) x.fStrides), .arr x.fPads.length (lm (ik .i64) x.fPads), .arr x.fDilations.length (lm (ik .i64) x.fDilations), .v (.int .i64 x.fAuto), .v (.bool x.fCeil), .v (.bool x.fCount), .v (.int .i64 x.fBlock), .v (.int .i64 x.fStart), .v (.int .i64 x.fEnd), .v (.bool x.fHasEnd), .v (.int .i64 x.fValue.fType), .arr x.fValue.fDims.length (lm (ik .i64) x.fValue.fDims), .arr x.fValue.fF.length (lm (ik .u32) x.fValue.fF), .arr x.fValue.fI.length (lm (ik .i64) x.fValue.fI), .arr x.fValue.fB.length (lm (bk) x.fValue.fB)]
theorem c_T_Setting_len : ∀ x, (c_T_Setting x).length = 36 := fun _ => rfl
theorem c_T_Setting_one : ∀ x, (c_T_Setting x).all AV.one = true := fun _ => rfl
structure T_Val where
  fType : Int
  fDims : List Int
  fConst : Bool
  fT : T_Tensor
def c_T_Val (x : T_Val) : List AV := [.v (.int .i64 x.fType), .arr x.fDims.length (lm (ik .i64) x.fDims), .v (.bool x.fConst), .v (.int .i64 x.fT.fType), .arr x.fT.fDims.length (lm (ik .i64) x.fT.fDims), .arr x.fT.fF.length (lm (ik .u32) x.fT.fF), .arr x.fT.fI.length (lm (ik .i64) x.fT.fI), .arr x.fT.fB.length (lm (bk) x.fT.fB)]
theorem c_T_Val_len : ∀ x, (c_T_Val x).length = 8 := fun _ => rfl
theorem c_T_Val_one : ∀ x, (c_T_Val x).all AV.one = true := fun _ => rfl
structure T_infer_ask where
  fop : Int
  fs : T_Setting
  fin : List T_Val
  fouts : Int
def c_T_infer_ask (x : T_infer_ask) : List AV := [.v (.int .i64 x.fop), .v (.int .i64 x.fs.fAxis), .arr x.fs.fAxes.length (lm (ik .i64) x.fs.fAxes), .v (.bool x.fs.fHasAxes), .v (.bool x.fs.fKeep), .v (.bool x.fs.fNoop), .v (.bool x.fs.fLast), .v (.bool x.fs.fZero), .arr x.fs.fPerm.length (lm (ik .i64) x.fs.fPerm), .v (.bool x.fs.fHasPerm), .v (.int .u32 x.fs.fAlpha), .v (.int .u32 x.fs.fBeta), .v (.int .u32 x.fs.fEpsilon), .v (.bool x.fs.fLow), .v (.bool x.fs.fHigh), .v (.bool x.fs.fFmod), .v (.int .i64 x.fs.fTo), .v (.int .i64 x.fs.fMode), .v (.bool x.fs.fTransA), .v (.bool x.fs.fTransB), .v (.int .i64 x.fs.fGroup), .arr x.fs.fKernel.length (lm (ik .i64) x.fs.fKernel), .arr x.fs.fStrides.length (lm (ik .i64) x.fs.fStrides), .arr x.fs.fPads.length (lm (ik .i64) x.fs.fPads), .arr x.fs.fDilations.length (lm (ik .i64) x.fs.fDilations), .v (.int .i64 x.fs.fAuto), .v (.bool x.fs.fCeil), .v (.bool x.fs.fCount), .v (.int .i64 x.fs.fBlock), .v (.int .i64 x.fs.fStart), .v (.int .i64 x.fs.fEnd), .v (.bool x.fs.fHasEnd), .v (.int .i64 x.fs.fValue.fType), .arr x.fs.fValue.fDims.length (lm (ik .i64) x.fs.fValue.fDims), .arr x.fs.fValue.fF.length (lm (ik .u32) x.fs.fValue.fF), .arr x.fs.fValue.fI.length (lm (ik .i64) x.fs.fValue.fI), .arr x.fs.fValue.fB.length (lm (bk) x.fs.fValue.fB), .arr x.fin.length (fm c_T_Val x.fin), .v (.int .i64 x.fouts)]
theorem c_T_infer_ask_len : ∀ x, (c_T_infer_ask x).length = 39 := fun _ => rfl
theorem c_T_infer_ask_one : ∀ x, (c_T_infer_ask x).all AV.one = true := fun _ => rfl
structure T_moves_move where
  fop : Int
  fs : T_Setting
  fin : List T_Tensor
  fx : T_Tensor
  faxis : Int
def c_T_moves_move (x : T_moves_move) : List AV := [.v (.int .i64 x.fop), .v (.int .i64 x.fs.fAxis), .arr x.fs.fAxes.length (lm (ik .i64) x.fs.fAxes), .v (.bool x.fs.fHasAxes), .v (.bool x.fs.fKeep), .v (.bool x.fs.fNoop), .v (.bool x.fs.fLast), .v (.bool x.fs.fZero), .arr x.fs.fPerm.length (lm (ik .i64) x.fs.fPerm), .v (.bool x.fs.fHasPerm), .v (.int .u32 x.fs.fAlpha), .v (.int .u32 x.fs.fBeta), .v (.int .u32 x.fs.fEpsilon), .v (.bool x.fs.fLow), .v (.bool x.fs.fHigh), .v (.bool x.fs.fFmod), .v (.int .i64 x.fs.fTo), .v (.int .i64 x.fs.fMode), .v (.bool x.fs.fTransA), .v (.bool x.fs.fTransB), .v (.int .i64 x.fs.fGroup), .arr x.fs.fKernel.length (lm (ik .i64) x.fs.fKernel), .arr x.fs.fStrides.length (lm (ik .i64) x.fs.fStrides), .arr x.fs.fPads.length (lm (ik .i64) x.fs.fPads), .arr x.fs.fDilations.length (lm (ik .i64) x.fs.fDilations), .v (.int .i64 x.fs.fAuto), .v (.bool x.fs.fCeil), .v (.bool x.fs.fCount), .v (.int .i64 x.fs.fBlock), .v (.int .i64 x.fs.fStart), .v (.int .i64 x.fs.fEnd), .v (.bool x.fs.fHasEnd), .v (.int .i64 x.fs.fValue.fType), .arr x.fs.fValue.fDims.length (lm (ik .i64) x.fs.fValue.fDims), .arr x.fs.fValue.fF.length (lm (ik .u32) x.fs.fValue.fF), .arr x.fs.fValue.fI.length (lm (ik .i64) x.fs.fValue.fI), .arr x.fs.fValue.fB.length (lm (bk) x.fs.fValue.fB), .arr x.fin.length (fm c_T_Tensor x.fin), .v (.int .i64 x.fx.fType), .arr x.fx.fDims.length (lm (ik .i64) x.fx.fDims), .arr x.fx.fF.length (lm (ik .u32) x.fx.fF), .arr x.fx.fI.length (lm (ik .i64) x.fx.fI), .arr x.fx.fB.length (lm (bk) x.fx.fB), .v (.int .i64 x.faxis)]
theorem c_T_moves_move_len : ∀ x, (c_T_moves_move x).length = 44 := fun _ => rfl
theorem c_T_moves_move_one : ∀ x, (c_T_moves_move x).all AV.one = true := fun _ => rfl
def law12_list (fu : Nat) (x1 : List Int) : Option T_Tensor :=
  some (T_Tensor.mk 7 ([(x1.length : Int)]) ([]) x1 ([]))
def moves_Has (fu : Nat) (x1 : Int) : Option Bool :=
  spl (x1 = 48) (some (!(decide ((48 : Int) = 61)))) (chk (x1 = 47) <| some (!(decide ((47 : Int) = 61))))
def tens_Width (fu : Nat) (x1 : Int) : Option Int :=
  if x1 = 1 then (some 4) else if x1 = 7 then (some 8) else if x1 = 9 then (some 1) else some 0
def tens_known (fu : Nat) (x1 : Int) : Option Bool :=
  (tens_Width fu x1).bind fun x2 => some (decide (0 < x2))
def slices_IndexFunc_int.L1 (fu : Nat) (p1 : Int → Option Bool) (x1 : List Int) (nx1 : Int → Option Int) (x4 : Int) : Option Int :=
  if x4 < (x1.length : Int) then ((at? x1 x4).bind fun x7 => (p1 x7).bind fun x8 => if x8 = true then (some x4) else nx1 (wk .i64 (x4 + 1))) else some (-1)
def slices_IndexFunc_int.W1 (fu : Nat) (p1 : Int → Option Bool) (x1 : List Int) (x4 : Int) : Option Int :=
  cloop (fun next s => slices_IndexFunc_int.L1 fu p1 x1 next s) fu x4
def slices_IndexFunc_int (fu : Nat) (x1 : List Int) (p1 : Int → Option Bool) : Option Int :=
  slices_IndexFunc_int.W1 fu p1 x1 0
def slices_ContainsFunc_int (fu : Nat) (x1 : List Int) (p1 : Int → Option Bool) : Option Bool :=
  (slices_IndexFunc_int fu x1 p1).bind fun x2 => some (decide (0 ≤ x2))
def shape_Size_1 (fu : Nat) (x1 : Int) : Option Bool :=
  some (decide (x1 < 0))
def shape_Size_2 (fu : Nat) (x1 : Int) : Option Bool :=
  some (decide (4096 < x1))
def slices_Index_int.L1 (fu : Nat) (x1 : List Int) (x2 : Int) (nx1 : Int → Option Int) (x4 : Int) : Option Int :=
  if x4 < (x1.length : Int) then ((at? x1 x4).bind fun x6 => if x2 = x6 then (some x4) else nx1 (wk .i64 (x4 + 1))) else some (-1)
def slices_Index_int.W1 (fu : Nat) (x1 : List Int) (x2 : Int) (x4 : Int) : Option Int :=
  cloop (fun next s => slices_Index_int.L1 fu x1 x2 next s) fu x4
def slices_Index_int (fu : Nat) (x1 : List Int) (x2 : Int) : Option Int :=
  slices_Index_int.W1 fu x1 x2 0
def slices_Contains_int (fu : Nat) (x1 : List Int) (x2 : Int) : Option Bool :=
  (slices_Index_int fu x1 x2).bind fun x3 => some (decide (0 ≤ x3))
def shape_Size.L1 (fu : Nat) (x1 : List Int) (nx1 : Int → Int → Option (Int × Int)) (x5 : Int) (x6 : Int) : Option (Int × Int) :=
  if x6 < (x1.length : Int) then ((at? x1 x6).bind fun x8 => chk (x5 ≠ 0) <| if (wk .i64 (Int.tdiv 4096 x5)) < x8 then (some (0, 4)) else nx1 (wk .i64 (x5 * x8)) (wk .i64 (x6 + 1))) else some (x5, 0)
def shape_Size.W1 (fu : Nat) (x1 : List Int) (x5 : Int) (x6 : Int) : Option (Int × Int) :=
  cloop (fun next s => shape_Size.L1 fu x1 (fun x5 x6 => next (x5, x6)) s.1 s.2) fu (x5, x6)
def shape_Size.k1 (fu : Nat) (x1 : List Int) : Option (Int × Int) :=
  (slices_Contains_int fu x1 0).bind fun x3 => if x3 = true then (some (0, 0)) else shape_Size.W1 fu x1 1 0
def shape_Size (fu : Nat) (x1 : List Int) : Option (Int × Int) :=
  (slices_ContainsFunc_int fu x1 (fun y0 => shape_Size_1 fu y0)).bind fun x2 => if x2 = true then (some (0, 1)) else jn 1 () (fun (t : Unit) => shape_Size.k1 fu x1) <| if 8 < (x1.length : Int) then (some (0, 4)) else (slices_ContainsFunc_int fu x1 (fun y0 => shape_Size_2 fu y0)).bind fun x9 => if x9 = true then (some (0, 4)) else shape_Size.k1 fu x1
def tens_Check.k1 (fu : Nat) (x1 : T_Tensor) (x3 : Int × Int) (x4 : Int) : Option Int :=
  if x4 = x3.1 then (if (wk .i64 ((wk .i64 ((x1.fF.length : Int) + (x1.fI.length : Int))) + (x1.fB.length : Int))) = x3.1 then (some 0) else some 3) else some 3
def tens_Check (fu : Nat) (x1 : T_Tensor) : Option Int :=
  (tens_known fu x1.fType).bind fun x2 => if x2 = true then ((shape_Size fu x1.fDims).bind fun x3 => if x3.2 = 0 then (jn 1 () (fun (t : Int) => tens_Check.k1 fu x1 x3 t) <| if x1.fType = 7 then (tens_Check.k1 fu x1 x3 (x1.fI.length : Int)) else if x1.fType = 9 then (tens_Check.k1 fu x1 x3 (x1.fB.length : Int)) else tens_Check.k1 fu x1 x3 (x1.fF.length : Int)) else some x3.2) else some 5
def tens_own_int (fu : Nat) (x1 : List Int) : Option (List Int) :=
  chk ((x1.length : Int) * 8 ≤ 140737488355328) <| some x1
def tens_own_uint32 (fu : Nat) (x1 : List Int) : Option (List Int) :=
  chk ((x1.length : Int) * 4 ≤ 140737488355328) <| some x1
def tens_own_int64 (fu : Nat) (x1 : List Int) : Option (List Int) :=
  chk ((x1.length : Int) * 8 ≤ 140737488355328) <| some x1
def tens_own_bool (fu : Nat) (x1 : List Bool) : Option (List Bool) :=
  chk ((x1.length : Int) * 1 ≤ 140737488355328) <| some x1
def tens_Copy (fu : Nat) (x1 : T_Tensor) : Option T_Tensor :=
  (tens_own_int fu x1.fDims).bind fun x2 => (tens_own_uint32 fu x1.fF).bind fun x3 => (tens_own_int64 fu x1.fI).bind fun x4 => (tens_own_bool fu x1.fB).bind fun x5 => some (T_Tensor.mk x1.fType x2 x3 x4 x5)
def soft_Abs (fu : Nat) (x1 : Int) : Option Int :=
  some (bandn .u32 x1 2147483648)
def soft_NaN (fu : Nat) (x1 : Int) : Option Bool :=
  (soft_Abs fu x1).bind fun x2 => some (decide (2139095040 < x2))
def soft_Canon (fu : Nat) (x1 : Int) : Option Int :=
  (soft_NaN fu x1).bind fun x2 => if x2 = true then (some 2143289344) else some x1
def tens_Canon.L1 (fu : Nat) (x2 : T_Tensor) (nx1 : (List Int) → Int → Option T_Tensor) (x5 : List Int) (x6 : Int) : Option T_Tensor :=
  if x6 < ((x2.fF.length : Nat) : Int) then ((at? x5 x6).bind fun x9 => (soft_Canon fu x9).bind fun x10 => chk (0 ≤ x6 ∧ x6 < (x5.length : Int)) <| nx1 (x5.set x6.toNat x10) (wk .i64 (x6 + 1))) else some (T_Tensor.mk x2.fType x2.fDims x5 x2.fI x2.fB)
def tens_Canon.W1 (fu : Nat) (x2 : T_Tensor) (x5 : List Int) (x6 : Int) : Option T_Tensor :=
  cloop (fun next s => tens_Canon.L1 fu x2 (fun x5 x6 => next (x5, x6)) s.1 s.2) fu (x5, x6)
def tens_Canon (fu : Nat) (x1 : T_Tensor) : Option T_Tensor :=
  (tens_Copy fu x1).bind fun x2 => tens_Canon.W1 fu x2 x2.fF 0
def slices_Clone_int (fu : Nat) (x1 : List Int) : Option (List Int) :=
  chk ((x1.length : Int) * 8 ≤ 140737488355328) <| some x1
def ewise_Vals.L1 (fu : Nat) (x1 : List T_Tensor) (nx1 : (List T_Val) → Int → Option (List T_Val)) (x5 : List T_Val) (x6 : Int) : Option (List T_Val) :=
  if x6 < (x1.length : Int) then ((at? x1 x6).bind fun x10 => if x10.fType = 0 then (chk ((x5.length + 1 : Int) * 144 ≤ 140737488355328) <| nx1 (x5 ++ ([T_Val.mk 0 ([]) false (T_Tensor.mk 0 ([]) ([]) ([]) ([]))])) (wk .i64 (x6 + 1))) else (slices_Clone_int fu x10.fDims).bind fun x11 => (tens_Copy fu x10).bind fun x12 => chk ((x5.length + 1 : Int) * 144 ≤ 140737488355328) <| nx1 (x5 ++ ([T_Val.mk x10.fType x11 true x12])) (wk .i64 (x6 + 1))) else some x5
def ewise_Vals.W1 (fu : Nat) (x1 : List T_Tensor) (x5 : List T_Val) (x6 : Int) : Option (List T_Val) :=
  cloop (fun next s => ewise_Vals.L1 fu x1 (fun x5 x6 => next (x5, x6)) s.1 s.2) fu (x5, x6)
def ewise_Vals (fu : Nat) (x1 : List T_Tensor) : Option (List T_Val) :=
  ewise_Vals.W1 fu x1 ([] : List T_Val) 0
def ops_Arity (fu : Nat) (x1 : Int) : Option (Int × Int × Int × Int) :=
  spl (x1 = 48) (some (1, 2, 1, 64)) <| chk (x1 = 47) <| some (1, 64, 1, 1)
def infer_ask_val (fu : Nat) (x1 : T_infer_ask) (x2 : Int) : Option T_Val :=
  spl (x1.fop = 48) (if x2 < (x1.fin.length : Int) then ((at? x1.fin x2).bind fun x3 => some x3) else some (T_Val.mk 0 ([]) false (T_Tensor.mk 0 ([]) ([]) ([]) ([])))) (chk (x1.fop = 47) <| if x2 < (x1.fin.length : Int) then ((at? x1.fin x2).bind fun x4 => some x4) else some (T_Val.mk 0 ([]) false (T_Tensor.mk 0 ([]) ([]) ([]) ([]))))
def infer_ask_has (fu : Nat) (x1 : T_infer_ask) (x2 : Int) : Option Bool :=
  spl (x1.fop = 48) ((infer_ask_val fu (T_infer_ask.mk 48 x1.fs x1.fin x1.fouts) x2).bind fun x3 => some (!(decide (x3.fType = 0)))) (chk (x1.fop = 47) <| (infer_ask_val fu (T_infer_ask.mk 47 x1.fs x1.fin x1.fouts) x2).bind fun x4 => some (!(decide (x4.fType = 0))))
def infer_ask_complete.L1 (fu : Nat) (x1 : T_infer_ask) (x2 : Int × Int × Int × Int) (nx1 : Int → Option Bool) (x4 : Int) : Option Bool :=
  if x4 < x2.1 then ((infer_ask_has fu (T_infer_ask.mk 48 x1.fs x1.fin x1.fouts) x4).bind fun x6 => if x6 = true then (nx1 (wk .i64 (x4 + 1))) else some false) else some true
def infer_ask_complete.W1 (fu : Nat) (x1 : T_infer_ask) (x2 : Int × Int × Int × Int) (x4 : Int) : Option Bool :=
  cloop (fun next s => infer_ask_complete.L1 fu x1 x2 next s) fu x4
def infer_ask_complete.k1 (fu : Nat) (x1 : T_infer_ask) (x2 : Int × Int × Int × Int) : Option Bool :=
  infer_ask_complete.W1 fu x1 x2 0
def infer_ask_complete.L2 (fu : Nat) (x1 : T_infer_ask) (x7 : Int × Int × Int × Int) (nx2 : Int → Option Bool) (x9 : Int) : Option Bool :=
  if x9 < x7.1 then ((infer_ask_has fu (T_infer_ask.mk 47 x1.fs x1.fin x1.fouts) x9).bind fun x11 => if x11 = true then (nx2 (wk .i64 (x9 + 1))) else some false) else some true
def infer_ask_complete.W2 (fu : Nat) (x1 : T_infer_ask) (x7 : Int × Int × Int × Int) (x9 : Int) : Option Bool :=
  cloop (fun next s => infer_ask_complete.L2 fu x1 x7 next s) fu x9
def infer_ask_complete.k2 (fu : Nat) (x1 : T_infer_ask) (x7 : Int × Int × Int × Int) : Option Bool :=
  infer_ask_complete.W2 fu x1 x7 0
def infer_ask_complete (fu : Nat) (x1 : T_infer_ask) : Option Bool :=
  spl (x1.fop = 48) ((ops_Arity fu 48).bind fun x2 => jn 1 () (fun (t : Unit) => infer_ask_complete.k1 fu x1 x2) <| if x2.2.2.1 = 0 then (some false) else if (x1.fin.length : Int) < x2.1 then (some false) else if x2.2.1 < (x1.fin.length : Int) then (some false) else if x1.fouts < x2.2.2.1 then (some false) else if x2.2.2.2 < x1.fouts then (some false) else infer_ask_complete.k1 fu x1 x2) (chk (x1.fop = 47) <| (ops_Arity fu 47).bind fun x7 => jn 2 () (fun (t : Unit) => infer_ask_complete.k2 fu x1 x7) <| if x7.2.2.1 = 0 then (some false) else if (x1.fin.length : Int) < x7.1 then (some false) else if x7.2.1 < (x1.fin.length : Int) then (some false) else if x1.fouts < x7.2.2.1 then (some false) else if x7.2.2.2 < x1.fouts then (some false) else infer_ask_complete.k2 fu x1 x7)
def infer_sorts.k5 (fu : Nat) : Option ByteArray :=
  some (⟨#[97, 105]⟩ : ByteArray)
def infer_sorts.k4 (fu : Nat) : Option ByteArray :=
  jn 5 () (fun (t : Unit) => infer_sorts.k5 fu) <| infer_sorts.k5 fu
def infer_sorts.k3 (fu : Nat) : Option ByteArray :=
  jn 4 () (fun (t : Unit) => infer_sorts.k4 fu) <| infer_sorts.k4 fu
def infer_sorts.k2 (fu : Nat) : Option ByteArray :=
  jn 3 () (fun (t : Unit) => infer_sorts.k3 fu) <| infer_sorts.k3 fu
def infer_sorts.k1 (fu : Nat) : Option ByteArray :=
  jn 2 () (fun (t : Unit) => infer_sorts.k2 fu) <| infer_sorts.k2 fu
def infer_sorts.k8 (fu : Nat) : Option ByteArray :=
  some (⟨#[97, 61]⟩ : ByteArray)
def infer_sorts.k7 (fu : Nat) : Option ByteArray :=
  jn 8 () (fun (t : Unit) => infer_sorts.k8 fu) <| infer_sorts.k8 fu
def infer_sorts.k6 (fu : Nat) : Option ByteArray :=
  jn 7 () (fun (t : Unit) => infer_sorts.k7 fu) <| infer_sorts.k7 fu
def infer_sorts (fu : Nat) (x1 : Int) : Option ByteArray :=
  spl (x1 = 48) (jn 1 () (fun (t : Unit) => infer_sorts.k1 fu) <| infer_sorts.k1 fu) (chk (x1 = 47) <| jn 6 () (fun (t : Unit) => infer_sorts.k6 fu) <| infer_sorts.k6 fu)
def infer_ask_fits.k1 (fu : Nat) (x5 : Bool) : Option Bool :=
  some x5
def infer_ask_fits.k2 (fu : Nat) (x10 : Bool) : Option Bool :=
  some x10
def infer_ask_fits (fu : Nat) (x1 : T_infer_ask) (x2 : Int) (x3 : Int) : Option Bool :=
  spl (x1.fop = 48) ((infer_ask_val fu (T_infer_ask.mk 48 x1.fs x1.fin x1.fouts) x2).bind fun x4 => if x3 = 110 then (jn 1 () (fun (t : Bool) => infer_ask_fits.k1 fu t) <| if x4.fType = 1 then (infer_ask_fits.k1 fu true) else infer_ask_fits.k1 fu (decide (x4.fType = 7))) else if x3 = 102 then (some (decide (x4.fType = 1))) else if x3 = 98 then (some (decide (x4.fType = 9))) else if x3 = 105 then (some (decide (x4.fType = 7))) else if x3 = 61 then ((infer_ask_val fu (T_infer_ask.mk 48 x1.fs x1.fin x1.fouts) 0).bind fun x6 => some (decide (x4.fType = x6.fType))) else if x3 = 43 then ((infer_ask_val fu (T_infer_ask.mk 48 x1.fs x1.fin x1.fouts) (wk .i64 (x2 - 1))).bind fun x7 => some (decide (x4.fType = x7.fType))) else (tens_Width fu x4.fType).bind fun x8 => some (decide (0 < x8))) (chk (x1.fop = 47) <| (infer_ask_val fu (T_infer_ask.mk 47 x1.fs x1.fin x1.fouts) x2).bind fun x9 => if x3 = 110 then (jn 2 () (fun (t : Bool) => infer_ask_fits.k2 fu t) <| if x9.fType = 1 then (infer_ask_fits.k2 fu true) else infer_ask_fits.k2 fu (decide (x9.fType = 7))) else if x3 = 102 then (some (decide (x9.fType = 1))) else if x3 = 98 then (some (decide (x9.fType = 9))) else if x3 = 105 then (some (decide (x9.fType = 7))) else if x3 = 61 then ((infer_ask_val fu (T_infer_ask.mk 47 x1.fs x1.fin x1.fouts) 0).bind fun x11 => some (decide (x9.fType = x11.fType))) else if x3 = 43 then ((infer_ask_val fu (T_infer_ask.mk 47 x1.fs x1.fin x1.fouts) (wk .i64 (x2 - 1))).bind fun x12 => some (decide (x9.fType = x12.fType))) else (tens_Width fu x9.fType).bind fun x13 => some (decide (0 < x13)))
def infer_ask_typed.k1 (fu : Nat) : Option Bool :=
  some true
def infer_ask_typed.L1 (fu : Nat) (x1 : T_infer_ask) (x2 : ByteArray) (nx1 : Int → Option Bool) (x8 : Int) : Option Bool :=
  if x8 < (x1.fin.length : Int) then ((infer_ask_has fu (T_infer_ask.mk 48 x1.fs x1.fin x1.fouts) x8).bind fun x14 => if x14 = true then ((infer_ask_val fu (T_infer_ask.mk 48 x1.fs x1.fin x1.fouts) x8).bind fun x15 => (tens_Width fu x15.fType).bind fun x16 => if x16 = 0 then (some false) else (sat? x2 (imin x8 (wk .i64 ((x2.size : Int) - 1)))).bind fun x17 => (infer_ask_fits fu (T_infer_ask.mk 48 x1.fs x1.fin x1.fouts) x8 x17).bind fun x18 => if x18 = true then (nx1 (wk .i64 (x8 + 1))) else some false) else nx1 (wk .i64 (x8 + 1))) else infer_ask_typed.k1 fu
def infer_ask_typed.W1 (fu : Nat) (x1 : T_infer_ask) (x2 : ByteArray) (x8 : Int) : Option Bool :=
  cloop (fun next s => infer_ask_typed.L1 fu x1 x2 next s) fu x8
def infer_ask_typed.k2 (fu : Nat) : Option Bool :=
  some true
def infer_ask_typed.L2 (fu : Nat) (x1 : T_infer_ask) (x19 : ByteArray) (nx2 : Int → Option Bool) (x25 : Int) : Option Bool :=
  if x25 < (x1.fin.length : Int) then ((infer_ask_has fu (T_infer_ask.mk 47 x1.fs x1.fin x1.fouts) x25).bind fun x31 => if x31 = true then ((infer_ask_val fu (T_infer_ask.mk 47 x1.fs x1.fin x1.fouts) x25).bind fun x32 => (tens_Width fu x32.fType).bind fun x33 => if x33 = 0 then (some false) else (sat? x19 (imin x25 (wk .i64 ((x19.size : Int) - 1)))).bind fun x34 => (infer_ask_fits fu (T_infer_ask.mk 47 x1.fs x1.fin x1.fouts) x25 x34).bind fun x35 => if x35 = true then (nx2 (wk .i64 (x25 + 1))) else some false) else nx2 (wk .i64 (x25 + 1))) else infer_ask_typed.k2 fu
def infer_ask_typed.W2 (fu : Nat) (x1 : T_infer_ask) (x19 : ByteArray) (x25 : Int) : Option Bool :=
  cloop (fun next s => infer_ask_typed.L2 fu x1 x19 next s) fu x25
def infer_ask_typed (fu : Nat) (x1 : T_infer_ask) : Option Bool :=
  spl (x1.fop = 48) ((infer_sorts fu 48).bind fun x2 => jn 1 () (fun (t : Unit) => infer_ask_typed.k1 fu) <| infer_ask_typed.W1 fu x1 x2 0) (chk (x1.fop = 47) <| (infer_sorts fu 47).bind fun x19 => jn 2 () (fun (t : Unit) => infer_ask_typed.k2 fu) <| infer_ask_typed.W2 fu x1 x19 0)
def infer_ask_dims (fu : Nat) (x1 : T_infer_ask) (x2 : Int) : Option (List Int) :=
  spl (x1.fop = 48) ((infer_ask_val fu (T_infer_ask.mk 48 x1.fs x1.fin x1.fouts) x2).bind fun x3 => some x3.fDims) (chk (x1.fop = 47) <| (infer_ask_val fu (T_infer_ask.mk 47 x1.fs x1.fin x1.fouts) x2).bind fun x4 => some x4.fDims)
def infer_ask_rank (fu : Nat) (x1 : T_infer_ask) : Option Int :=
  spl (x1.fop = 48) ((infer_ask_dims fu (T_infer_ask.mk 48 x1.fs x1.fin x1.fouts) 0).bind fun x2 => some (x2.length : Int)) (chk (x1.fop = 47) <| (infer_ask_dims fu (T_infer_ask.mk 47 x1.fs x1.fin x1.fouts) 0).bind fun x3 => some (x3.length : Int))
def shape_Axis (fu : Nat) (x1 : Int) (x2 : Int) : Option (Int × Int) :=
  if x2 < 0 then (some (0, 2)) else if 0 ≤ x1 then (if x1 < x2 then (some (x1, 0)) else some (0, 2)) else if (wk .i64 (0 - x2)) ≤ x1 then (some (wk .i64 (x2 + x1), 0)) else some (0, 2)
def infer_ask_attributes.k1 (fu : Nat) (x1 : T_infer_ask) (x2 : Int) : Option Bool :=
  (shape_Axis fu x1.fs.fAxis x2).bind fun x3 => some (decide (x3.2 = 0))
def infer_ask_attributes.k2 (fu : Nat) (x1 : T_infer_ask) (x4 : Int) : Option Bool :=
  (shape_Axis fu x1.fs.fAxis x4).bind fun x5 => some (decide (x5.2 = 0))
def infer_ask_attributes (fu : Nat) (x1 : T_infer_ask) : Option Bool :=
  spl (x1.fop = 48) ((infer_ask_rank fu (T_infer_ask.mk 48 x1.fs x1.fin x1.fouts)).bind fun x2 => jn 1 () (fun (t : Unit) => infer_ask_attributes.k1 fu x1 x2) <| infer_ask_attributes.k1 fu x1 x2) (chk (x1.fop = 47) <| (infer_ask_rank fu (T_infer_ask.mk 47 x1.fs x1.fin x1.fouts)).bind fun x4 => jn 2 () (fun (t : Unit) => infer_ask_attributes.k2 fu x1 x4) <| infer_ask_attributes.k2 fu x1 x4)
def infer_ask_lists.L1 (fu : Nat) (x1 : T_infer_ask) (nx1 : (List T_Val) → Int → Option (List T_Val)) (x4 : List T_Val) (x5 : Int) : Option (List T_Val) :=
  if x5 < 2 then ((infer_ask_has fu (T_infer_ask.mk 48 x1.fs x1.fin x1.fouts) x5).bind fun x8 => if x8 = true then ((infer_ask_val fu (T_infer_ask.mk 48 x1.fs x1.fin x1.fouts) x5).bind fun x9 => chk ((x4.length + 1 : Int) * 144 ≤ 140737488355328) <| nx1 (x4 ++ ([x9])) (wk .i64 (x5 + 1))) else nx1 x4 (wk .i64 (x5 + 1))) else some x4
def infer_ask_lists.W1 (fu : Nat) (x1 : T_infer_ask) (x4 : List T_Val) (x5 : Int) : Option (List T_Val) :=
  cloop (fun next s => infer_ask_lists.L1 fu x1 (fun x4 x5 => next (x4, x5)) s.1 s.2) fu (x4, x5)
def infer_ask_lists.k1 (fu : Nat) (x1 : T_infer_ask) : Option (List T_Val) :=
  infer_ask_lists.W1 fu x1 ([] : List T_Val) 1
def infer_ask_lists.k2 (fu : Nat) : Option (List T_Val) :=
  some ([])
def infer_ask_lists (fu : Nat) (x1 : T_infer_ask) : Option (List T_Val) :=
  spl (x1.fop = 48) (jn 1 () (fun (t : Unit) => infer_ask_lists.k1 fu x1) <| infer_ask_lists.k1 fu x1) (chk (x1.fop = 47) <| jn 2 () (fun (t : Unit) => infer_ask_lists.k2 fu) <| infer_ask_lists.k2 fu)
def slices_IndexFunc_api_Val_api_Val.L1 (fu : Nat) (p1 : T_Val → Option Bool) (x1 : List T_Val) (nx1 : Int → Option Int) (x4 : Int) : Option Int :=
  if x4 < (x1.length : Int) then ((at? x1 x4).bind fun x7 => (p1 x7).bind fun x8 => if x8 = true then (some x4) else nx1 (wk .i64 (x4 + 1))) else some (-1)
def slices_IndexFunc_api_Val_api_Val.W1 (fu : Nat) (p1 : T_Val → Option Bool) (x1 : List T_Val) (x4 : Int) : Option Int :=
  cloop (fun next s => slices_IndexFunc_api_Val_api_Val.L1 fu p1 x1 next s) fu x4
def slices_IndexFunc_api_Val_api_Val (fu : Nat) (x1 : List T_Val) (p1 : T_Val → Option Bool) : Option Int :=
  slices_IndexFunc_api_Val_api_Val.W1 fu p1 x1 0
def slices_ContainsFunc_api_Val_api_Val (fu : Nat) (x1 : List T_Val) (p1 : T_Val → Option Bool) : Option Bool :=
  (slices_IndexFunc_api_Val_api_Val fu x1 p1).bind fun x2 => some (decide (0 ≤ x2))
def slices_Equal_int.L1 (fu : Nat) (x1 : List Int) (x2 : List Int) (nx1 : Int → Option Bool) (x5 : Int) : Option Bool :=
  if x5 < (x1.length : Int) then ((at? x1 x5).bind fun x8 => (at? x2 x5).bind fun x9 => if x8 = x9 then (nx1 (wk .i64 (x5 + 1))) else some false) else some true
def slices_Equal_int.W1 (fu : Nat) (x1 : List Int) (x2 : List Int) (x5 : Int) : Option Bool :=
  cloop (fun next s => slices_Equal_int.L1 fu x1 x2 next s) fu x5
def slices_Equal_int (fu : Nat) (x1 : List Int) (x2 : List Int) : Option Bool :=
  if (x1.length : Int) = (x2.length : Int) then (slices_Equal_int.W1 fu x1 x2 0) else some false
def infer_held (fu : Nat) (x1 : T_Val) : Option Bool :=
  if x1.fConst = true then ((tens_Check fu x1.fT).bind fun x2 => if x2 = 0 then (if x1.fT.fType = x1.fType then ((slices_Equal_int fu x1.fT.fDims x1.fDims).bind fun x3 => some x3) else some false) else some false) else some false
def infer_ask_told_1 (fu : Nat) (x1 : T_Val) : Option Bool :=
  (infer_held fu x1).bind fun x2 => some (!x2)
def infer_ask_told_2 (fu : Nat) (x1 : T_Val) : Option Bool :=
  some (!(decide ((x1.fDims.length : Int) = 1)))
def slices_IndexFunc_int64.L1 (fu : Nat) (p1 : Int → Option Bool) (x1 : List Int) (nx1 : Int → Option Int) (x4 : Int) : Option Int :=
  if x4 < (x1.length : Int) then ((at? x1 x4).bind fun x7 => (p1 x7).bind fun x8 => if x8 = true then (some x4) else nx1 (wk .i64 (x4 + 1))) else some (-1)
def slices_IndexFunc_int64.W1 (fu : Nat) (p1 : Int → Option Bool) (x1 : List Int) (x4 : Int) : Option Int :=
  cloop (fun next s => slices_IndexFunc_int64.L1 fu p1 x1 next s) fu x4
def slices_IndexFunc_int64 (fu : Nat) (x1 : List Int) (p1 : Int → Option Bool) : Option Int :=
  slices_IndexFunc_int64.W1 fu p1 x1 0
def slices_ContainsFunc_int64 (fu : Nat) (x1 : List Int) (p1 : Int → Option Bool) : Option Bool :=
  (slices_IndexFunc_int64 fu x1 p1).bind fun x2 => some (decide (0 ≤ x2))
def infer_ask_told_3_1 (fu : Nat) (x1 : Int) : Option Bool :=
  some (decide (4096 < x1))
def infer_ask_told_3 (fu : Nat) (x1 : T_Val) : Option Bool :=
  (slices_ContainsFunc_int64 fu x1.fT.fI (fun y0 => infer_ask_told_3_1 fu y0)).bind fun x2 => some x2
def infer_ask_told (fu : Nat) (x1 : T_infer_ask) : Option Int :=
  spl (x1.fop = 48) ((infer_ask_lists fu (T_infer_ask.mk 48 x1.fs x1.fin x1.fouts)).bind fun x2 => (slices_ContainsFunc_api_Val_api_Val fu x2 (fun y0 => infer_ask_told_1 fu y0)).bind fun x3 => if x3 = true then (some 15) else (slices_ContainsFunc_api_Val_api_Val fu x2 (fun y0 => infer_ask_told_2 fu y0)).bind fun x4 => if x4 = true then (some 3) else (slices_ContainsFunc_api_Val_api_Val fu x2 (fun y0 => infer_ask_told_3 fu y0)).bind fun x5 => if x5 = true then (some 4) else some 0) (chk (x1.fop = 47) <| (infer_ask_lists fu (T_infer_ask.mk 47 x1.fs x1.fin x1.fouts)).bind fun x6 => (slices_ContainsFunc_api_Val_api_Val fu x6 (fun y0 => infer_ask_told_1 fu y0)).bind fun x7 => if x7 = true then (some 15) else (slices_ContainsFunc_api_Val_api_Val fu x6 (fun y0 => infer_ask_told_2 fu y0)).bind fun x8 => if x8 = true then (some 3) else (slices_ContainsFunc_api_Val_api_Val fu x6 (fun y0 => infer_ask_told_3 fu y0)).bind fun x9 => if x9 = true then (some 4) else some 0)
def infer_ask_wrong.k1 (fu : Nat) (x1 : T_infer_ask) : Option Int :=
  (infer_ask_typed fu (T_infer_ask.mk 48 x1.fs x1.fin x1.fouts)).bind fun x2 => if x2 = true then ((infer_ask_attributes fu (T_infer_ask.mk 48 x1.fs x1.fin x1.fouts)).bind fun x3 => if x3 = true then ((infer_ask_told fu (T_infer_ask.mk 48 x1.fs x1.fin x1.fouts)).bind fun x4 => some x4) else some 14) else some 5
def infer_ask_wrong.L1 (fu : Nat) (x1 : T_infer_ask) (nx1 : Int → Option Int) (x8 : Int) : Option Int :=
  if x8 < (x1.fin.length : Int) then ((at? x1.fin x8).bind fun x12 => (shape_Size fu x12.fDims).bind fun x13 => (infer_ask_has fu (T_infer_ask.mk 48 x1.fs x1.fin x1.fouts) x8).bind fun x14 => if x14 = true then (if x13.2 = 0 then (nx1 (wk .i64 (x8 + 1))) else some 4) else nx1 (wk .i64 (x8 + 1))) else infer_ask_wrong.k1 fu x1
def infer_ask_wrong.W1 (fu : Nat) (x1 : T_infer_ask) (x8 : Int) : Option Int :=
  cloop (fun next s => infer_ask_wrong.L1 fu x1 next s) fu x8
def infer_ask_wrong.k2 (fu : Nat) (x1 : T_infer_ask) : Option Int :=
  (infer_ask_typed fu (T_infer_ask.mk 47 x1.fs x1.fin x1.fouts)).bind fun x15 => if x15 = true then ((infer_ask_attributes fu (T_infer_ask.mk 47 x1.fs x1.fin x1.fouts)).bind fun x16 => if x16 = true then ((infer_ask_told fu (T_infer_ask.mk 47 x1.fs x1.fin x1.fouts)).bind fun x17 => some x17) else some 14) else some 5
def infer_ask_wrong.L2 (fu : Nat) (x1 : T_infer_ask) (nx2 : Int → Option Int) (x21 : Int) : Option Int :=
  if x21 < (x1.fin.length : Int) then ((at? x1.fin x21).bind fun x25 => (shape_Size fu x25.fDims).bind fun x26 => (infer_ask_has fu (T_infer_ask.mk 47 x1.fs x1.fin x1.fouts) x21).bind fun x27 => if x27 = true then (if x26.2 = 0 then (nx2 (wk .i64 (x21 + 1))) else some 4) else nx2 (wk .i64 (x21 + 1))) else infer_ask_wrong.k2 fu x1
def infer_ask_wrong.W2 (fu : Nat) (x1 : T_infer_ask) (x21 : Int) : Option Int :=
  cloop (fun next s => infer_ask_wrong.L2 fu x1 next s) fu x21
def infer_ask_wrong (fu : Nat) (x1 : T_infer_ask) : Option Int :=
  spl (x1.fop = 48) (jn 1 () (fun (t : Unit) => infer_ask_wrong.k1 fu x1) <| infer_ask_wrong.W1 fu x1 0) (chk (x1.fop = 47) <| jn 2 () (fun (t : Unit) => infer_ask_wrong.k2 fu x1) <| infer_ask_wrong.W2 fu x1 0)
def infer_ask_axis (fu : Nat) (x1 : T_infer_ask) : Option Int :=
  spl (x1.fop = 48) ((infer_ask_rank fu (T_infer_ask.mk 48 x1.fs x1.fin x1.fouts)).bind fun x2 => (shape_Axis fu x1.fs.fAxis x2).bind fun x3 => some x3.1) (chk (x1.fop = 47) <| (infer_ask_rank fu (T_infer_ask.mk 47 x1.fs x1.fin x1.fouts)).bind fun x4 => (shape_Axis fu x1.fs.fAxis x4).bind fun x5 => some x5.1)
def infer_ask_numbers.L1 (fu : Nat) (x4 : T_Val) (nx1 : (List Int) → Int → Option (List Int)) (x6 : List Int) (x7 : Int) : Option (List Int) :=
  if x7 < (x4.fT.fI.length : Int) then ((at? x4.fT.fI x7).bind fun x9 => chk ((x6.length + 1 : Int) * 8 ≤ 140737488355328) <| nx1 (x6 ++ ([x9])) (wk .i64 (x7 + 1))) else some x6
def infer_ask_numbers.W1 (fu : Nat) (x4 : T_Val) (x6 : List Int) (x7 : Int) : Option (List Int) :=
  cloop (fun next s => infer_ask_numbers.L1 fu x4 (fun x6 x7 => next (x6, x7)) s.1 s.2) fu (x6, x7)
def infer_ask_numbers (fu : Nat) (x1 : T_infer_ask) (x2 : Int) : Option (List Int) :=
  chk (x1.fop = 48) <| (infer_ask_has fu (T_infer_ask.mk 48 x1.fs x1.fin x1.fouts) x2).bind fun x3 => if x3 = true then ((infer_ask_val fu (T_infer_ask.mk 48 x1.fs x1.fin x1.fouts) x2).bind fun x4 => infer_ask_numbers.W1 fu x4 ([] : List Int) 0) else some ([])
def math_bits_Mul64 (fu : Nat) (x1 : Int) (x2 : Int) : Option (Int × Int) :=
  some (wk .u64 ((wk .u64 ((wk .u64 ((shrk .u64 x1 32) * (shrk .u64 x2 32))) + (shrk .u64 (wk .u64 ((wk .u64 ((shrk .u64 x1 32) * (band .u64 x2 4294967295))) + (shrk .u64 (wk .u64 ((band .u64 x1 4294967295) * (band .u64 x2 4294967295))) 32))) 32))) + (shrk .u64 (wk .u64 ((band .u64 (wk .u64 ((wk .u64 ((shrk .u64 x1 32) * (band .u64 x2 4294967295))) + (shrk .u64 (wk .u64 ((band .u64 x1 4294967295) * (band .u64 x2 4294967295))) 32))) 4294967295) + (wk .u64 ((band .u64 x1 4294967295) * (shrk .u64 x2 32))))) 32)), wk .u64 (x1 * x2))
def math_bits_Mul (fu : Nat) (x1 : Int) (x2 : Int) : Option (Int × Int) :=
  (math_bits_Mul64 fu x1 x2).bind fun x3 => some (x3.1, x3.2)
def infer_misfit (fu : Nat) : Option ((List (List Int)) × Int) :=
  some ([], 3)
def infer_below_1 (fu : Nat) (x1 : Int) (x2 : Int) : Option Bool :=
  some (decide (x1 < x2))
def infer_below (fu : Nat) (x1 : List Int) (x2 : Int) : Option Bool :=
  (slices_ContainsFunc_int fu x1 (fun y0 => infer_below_1 fu y0 x2)).bind fun x3 => some x3
def infer_ask_split.k3 (fu : Nat) (x2 : List Int) (x3 : Int) (x5 : List (List Int)) (x6 : Int) : Option ((List (List Int)) × Int) :=
  (at? x2 x3).bind fun x7 => if x6 = x7 then (some (x5, 0)) else (infer_misfit fu).bind fun x8 => some (x8.1, x8.2)
def infer_ask_split.L1 (fu : Nat) (x2 : List Int) (x3 : Int) (x4 : List Int) (nx1 : (List (List Int)) → Int → Int → Option ((List (List Int)) × Int)) (x11 : List (List Int)) (x12 : Int) (x13 : Int) : Option ((List (List Int)) × Int) :=
  if x13 < (x4.length : Int) then ((at? x4 x13).bind fun x16 => (slices_Clone_int fu x2).bind fun x17 => chk (0 ≤ x3 ∧ x3 < (x17.length : Int)) <| chk ((x11.length + 1 : Int) * 24 ≤ 140737488355328) <| nx1 (x11 ++ ([x17.set x3.toNat x16])) (wk .i64 (x12 + x16)) (wk .i64 (x13 + 1))) else infer_ask_split.k3 fu x2 x3 x11 x12
def infer_ask_split.W1 (fu : Nat) (x2 : List Int) (x3 : Int) (x4 : List Int) (x11 : List (List Int)) (x12 : Int) (x13 : Int) : Option ((List (List Int)) × Int) :=
  cloop (fun next s => infer_ask_split.L1 fu x2 x3 x4 (fun x11 x12 x13 => next (x11, x12, x13)) s.1 s.2.1 s.2.2) fu (x11, x12, x13)
def infer_ask_split.k2 (fu : Nat) (x2 : List Int) (x3 : Int) (x4 : List Int) : Option ((List (List Int)) × Int) :=
  jn 3 () (fun (t : (List (List Int)) × Int) => infer_ask_split.k3 fu x2 x3 t.1 t.2) <| infer_ask_split.W1 fu x2 x3 x4 ([] : List (List Int)) 0 0
def infer_ask_split.k1 (fu : Nat) (x1 : T_infer_ask) (x2 : List Int) (x3 : Int) (x4 : List Int) : Option ((List (List Int)) × Int) :=
  jn 2 () (fun (t : Unit) => infer_ask_split.k2 fu x2 x3 x4) <| if (x4.length : Int) = x1.fouts then ((infer_below fu x4 0).bind fun x18 => if x18 = true then ((infer_misfit fu).bind fun x19 => some (x19.1, x19.2)) else infer_ask_split.k2 fu x2 x3 x4) else (infer_misfit fu).bind fun x20 => some (x20.1, x20.2)
def infer_ask_split (fu : Nat) (x1 : T_infer_ask) : Option ((List (List Int)) × Int) :=
  chk (x1.fop = 48) <| (infer_ask_dims fu (T_infer_ask.mk 48 x1.fs x1.fin x1.fouts) 0).bind fun x2 => (infer_ask_axis fu (T_infer_ask.mk 48 x1.fs x1.fin x1.fouts)).bind fun x3 => (infer_ask_numbers fu (T_infer_ask.mk 48 x1.fs x1.fin x1.fouts) 1).bind fun x4 => jn 1 () (fun (t : Unit) => infer_ask_split.k1 fu x1 x2 x3 x4) <| (infer_ask_has fu (T_infer_ask.mk 48 x1.fs x1.fin x1.fouts) 1).bind fun x21 => if x21 = true then (infer_ask_split.k1 fu x1 x2 x3 x4) else (at? x2 x3).bind fun x22 => chk (x1.fouts ≠ 0) <| if (Int.tmod x22 x1.fouts) = 0 then (none) else (infer_misfit fu).bind fun x23 => some (x23.1, x23.2)
def infer_one (fu : Nat) (x1 : List Int) : Option ((List (List Int)) × Int) :=
  some ([x1], 0)
def infer_ask_concat.k1 (fu : Nat) (x5 : List Int) : Option ((List (List Int)) × Int) :=
  (infer_one fu x5).bind fun x6 => some (x6.1, x6.2)
def infer_ask_concat.L1 (fu : Nat) (x1 : T_infer_ask) (x4 : Int) (nx1 : (List Int) → Int → Option ((List (List Int)) × Int)) (x14 : List Int) (x15 : Int) : Option ((List (List Int)) × Int) :=
  if x15 < (x1.fin.length : Int) then ((infer_ask_dims fu (T_infer_ask.mk 47 x1.fs x1.fin x1.fouts) x15).bind fun x23 => (slices_Clone_int fu x23).bind fun x24 => if (x24.length : Int) = (x14.length : Int) then ((at? x24 x4).bind fun x25 => (at? x14 x4).bind fun x26 => chk (0 ≤ x4 ∧ x4 < (x24.length : Int)) <| (slices_Equal_int fu (x24.set x4.toNat x26) x14).bind fun x27 => if x27 = true then (chk (0 ≤ x4 ∧ x4 < (x14.length : Int)) <| nx1 (x14.set x4.toNat (wk .i64 (x26 + x25))) (wk .i64 (x15 + 1))) else (infer_misfit fu).bind fun x28 => some (x28.1, x28.2)) else (infer_misfit fu).bind fun x29 => some (x29.1, x29.2)) else infer_ask_concat.k1 fu x14
def infer_ask_concat.W1 (fu : Nat) (x1 : T_infer_ask) (x4 : Int) (x14 : List Int) (x15 : Int) : Option ((List (List Int)) × Int) :=
  cloop (fun next s => infer_ask_concat.L1 fu x1 x4 (fun x14 x15 => next (x14, x15)) s.1 s.2) fu (x14, x15)
def infer_ask_concat (fu : Nat) (x1 : T_infer_ask) : Option ((List (List Int)) × Int) :=
  chk (x1.fop = 47) <| (infer_ask_dims fu (T_infer_ask.mk 47 x1.fs x1.fin x1.fouts) 0).bind fun x2 => (slices_Clone_int fu x2).bind fun x3 => (infer_ask_axis fu (T_infer_ask.mk 47 x1.fs x1.fin x1.fouts)).bind fun x4 => jn 1 () (fun (t : List Int) => infer_ask_concat.k1 fu t) <| infer_ask_concat.W1 fu x1 x4 x3 1
def infer_ask_moved (fu : Nat) (x1 : T_infer_ask) : Option ((List (List Int)) × Int) :=
  spl (x1.fop = 48) ((infer_ask_dims fu (T_infer_ask.mk 48 x1.fs x1.fin x1.fouts) 0).bind fun x2 => (infer_ask_split fu (T_infer_ask.mk 48 x1.fs x1.fin x1.fouts)).bind fun x3 => some (x3.1, x3.2)) (chk (x1.fop = 47) <| (infer_ask_dims fu (T_infer_ask.mk 47 x1.fs x1.fin x1.fouts) 0).bind fun x4 => (infer_ask_concat fu (T_infer_ask.mk 47 x1.fs x1.fin x1.fouts)).bind fun x5 => some (x5.1, x5.2))
def infer_ask_shapes.k2 (fu : Nat) (x1 : T_infer_ask) : Option ((List (List Int)) × Int) :=
  (infer_ask_moved fu (T_infer_ask.mk 48 x1.fs x1.fin x1.fouts)).bind fun x3 => some (x3.1, x3.2)
def infer_ask_shapes.k1 (fu : Nat) (x1 : T_infer_ask) : Option ((List (List Int)) × Int) :=
  jn 2 () (fun (t : Unit) => infer_ask_shapes.k2 fu x1) <| infer_ask_shapes.k2 fu x1
def infer_ask_shapes.k4 (fu : Nat) (x1 : T_infer_ask) : Option ((List (List Int)) × Int) :=
  (infer_ask_moved fu (T_infer_ask.mk 47 x1.fs x1.fin x1.fouts)).bind fun x5 => some (x5.1, x5.2)
def infer_ask_shapes.k3 (fu : Nat) (x1 : T_infer_ask) : Option ((List (List Int)) × Int) :=
  jn 4 () (fun (t : Unit) => infer_ask_shapes.k4 fu x1) <| infer_ask_shapes.k4 fu x1
def infer_ask_shapes (fu : Nat) (x1 : T_infer_ask) : Option ((List (List Int)) × Int) :=
  spl (x1.fop = 48) ((infer_ask_dims fu (T_infer_ask.mk 48 x1.fs x1.fin x1.fouts) 0).bind fun x2 => jn 1 () (fun (t : Unit) => infer_ask_shapes.k1 fu x1) <| infer_ask_shapes.k1 fu x1) (chk (x1.fop = 47) <| (infer_ask_dims fu (T_infer_ask.mk 47 x1.fs x1.fin x1.fouts) 0).bind fun x4 => jn 3 () (fun (t : Unit) => infer_ask_shapes.k3 fu x1) <| infer_ask_shapes.k3 fu x1)
def infer_ask_out.k1 (fu : Nat) (x1 : T_infer_ask) : Option Int :=
  (infer_ask_val fu (T_infer_ask.mk 48 x1.fs x1.fin x1.fouts) 0).bind fun x2 => some x2.fType
def infer_ask_out.k3 (fu : Nat) (x1 : T_infer_ask) : Option Int :=
  infer_ask_out.k1 fu x1
def infer_ask_out.k2 (fu : Nat) (x1 : T_infer_ask) : Option Int :=
  jn 3 () (fun (t : Unit) => infer_ask_out.k3 fu x1) <| infer_ask_out.k3 fu x1
def infer_ask_out.k4 (fu : Nat) (x1 : T_infer_ask) : Option Int :=
  (infer_ask_val fu (T_infer_ask.mk 47 x1.fs x1.fin x1.fouts) 0).bind fun x3 => some x3.fType
def infer_ask_out.k6 (fu : Nat) (x1 : T_infer_ask) : Option Int :=
  infer_ask_out.k4 fu x1
def infer_ask_out.k5 (fu : Nat) (x1 : T_infer_ask) : Option Int :=
  jn 6 () (fun (t : Unit) => infer_ask_out.k6 fu x1) <| infer_ask_out.k6 fu x1
def infer_ask_out (fu : Nat) (x1 : T_infer_ask) : Option Int :=
  spl (x1.fop = 48) (jn 1 () (fun (t : Unit) => infer_ask_out.k1 fu x1) <| jn 2 () (fun (t : Unit) => infer_ask_out.k2 fu x1) <| infer_ask_out.k2 fu x1) (chk (x1.fop = 47) <| jn 4 () (fun (t : Unit) => infer_ask_out.k4 fu x1) <| jn 5 () (fun (t : Unit) => infer_ask_out.k5 fu x1) <| infer_ask_out.k5 fu x1)
def infer_Node.L1 (fu : Nat) (x2 : T_Setting) (x3 : List T_Val) (x4 : Int) (x7 : (List (List Int)) × Int) (nx1 : (List T_Val) → Int → Option ((List T_Val) × Int)) (x12 : List T_Val) (x13 : Int) : Option ((List T_Val) × Int) :=
  if x13 < (x7.1.length : Int) then ((at? x7.1 x13).bind fun x18 => (shape_Size fu x18).bind fun x19 => if x19.2 = 0 then ((infer_ask_out fu (T_infer_ask.mk 48 x2 x3 x4)).bind fun x20 => (slices_Clone_int fu x18).bind fun x21 => chk ((x12.length + 1 : Int) * 144 ≤ 140737488355328) <| nx1 (x12 ++ ([T_Val.mk x20 x21 false (T_Tensor.mk 0 ([]) ([]) ([]) ([]))])) (wk .i64 (x13 + 1))) else some ([], 4)) else some (x12, 0)
def infer_Node.W1 (fu : Nat) (x2 : T_Setting) (x3 : List T_Val) (x4 : Int) (x7 : (List (List Int)) × Int) (x12 : List T_Val) (x13 : Int) : Option ((List T_Val) × Int) :=
  cloop (fun next s => infer_Node.L1 fu x2 x3 x4 x7 (fun x12 x13 => next (x12, x13)) s.1 s.2) fu (x12, x13)
def infer_Node.L2 (fu : Nat) (x2 : T_Setting) (x3 : List T_Val) (x4 : Int) (x24 : (List (List Int)) × Int) (nx2 : (List T_Val) → Int → Option ((List T_Val) × Int)) (x29 : List T_Val) (x30 : Int) : Option ((List T_Val) × Int) :=
  if x30 < (x24.1.length : Int) then ((at? x24.1 x30).bind fun x35 => (shape_Size fu x35).bind fun x36 => if x36.2 = 0 then ((infer_ask_out fu (T_infer_ask.mk 47 x2 x3 x4)).bind fun x37 => (slices_Clone_int fu x35).bind fun x38 => chk ((x29.length + 1 : Int) * 144 ≤ 140737488355328) <| nx2 (x29 ++ ([T_Val.mk x37 x38 false (T_Tensor.mk 0 ([]) ([]) ([]) ([]))])) (wk .i64 (x30 + 1))) else some ([], 4)) else some (x29, 0)
def infer_Node.W2 (fu : Nat) (x2 : T_Setting) (x3 : List T_Val) (x4 : Int) (x24 : (List (List Int)) × Int) (x29 : List T_Val) (x30 : Int) : Option ((List T_Val) × Int) :=
  cloop (fun next s => infer_Node.L2 fu x2 x3 x4 x24 (fun x29 x30 => next (x29, x30)) s.1 s.2) fu (x29, x30)
def infer_Node (fu : Nat) (x1 : Int) (x2 : T_Setting) (x3 : List T_Val) (x4 : Int) : Option ((List T_Val) × Int) :=
  spl (x1 = 48) ((infer_ask_complete fu (T_infer_ask.mk 48 x2 x3 x4)).bind fun x5 => if x5 = true then ((infer_ask_wrong fu (T_infer_ask.mk 48 x2 x3 x4)).bind fun x6 => if x6 = 0 then ((infer_ask_shapes fu (T_infer_ask.mk 48 x2 x3 x4)).bind fun x7 => if x7.2 = 0 then (infer_Node.W1 fu x2 x3 x4 x7 ([] : List T_Val) 0) else some ([], x7.2)) else some ([], x6)) else some ([], 1)) (chk (x1 = 47) <| (infer_ask_complete fu (T_infer_ask.mk 47 x2 x3 x4)).bind fun x22 => if x22 = true then ((infer_ask_wrong fu (T_infer_ask.mk 47 x2 x3 x4)).bind fun x23 => if x23 = 0 then ((infer_ask_shapes fu (T_infer_ask.mk 47 x2 x3 x4)).bind fun x24 => if x24.2 = 0 then (infer_Node.W2 fu x2 x3 x4 x24 ([] : List T_Val) 0) else some ([], x24.2)) else some ([], x23)) else some ([], 1))
def shape_strides.L1 (fu : Nat) (x1 : List Int) (nx1 : (List Int) → Int → Int → Option (List Int)) (x3 : List Int) (x4 : Int) (x5 : Int) : Option (List Int) :=
  if 0 ≤ x5 then (chk (0 ≤ x5 ∧ x5 < (x3.length : Int)) <| (at? x1 x5).bind fun x7 => nx1 (x3.set x5.toNat x4) (wk .i64 (x4 * x7)) (wk .i64 (x5 - 1))) else some x3
def shape_strides.W1 (fu : Nat) (x1 : List Int) (x3 : List Int) (x4 : Int) (x5 : Int) : Option (List Int) :=
  cloop (fun next s => shape_strides.L1 fu x1 (fun x3 x4 x5 => next (x3, x4, x5)) s.1 s.2.1 s.2.2) fu (x3, x4, x5)
def shape_strides (fu : Nat) (x1 : List Int) : Option (List Int) :=
  chk (0 ≤ (x1.length : Int) ∧ (x1.length : Int) * 8 ≤ 140737488355328) <| shape_strides.W1 fu x1 (List.replicate (x1.length : Int).toNat (0 : Int)) 1 (wk .i64 ((x1.length : Int) - 1))
def shape_Strides (fu : Nat) (x1 : List Int) : Option ((List Int) × Int) :=
  (shape_Size fu x1).bind fun x2 => if x2.2 = 0 then ((shape_strides fu x1).bind fun x3 => some (x3, 0)) else some ([], x2.2)
def moves_strides (fu : Nat) (x1 : List Int) : Option (List Int) :=
  (shape_Strides fu x1).bind fun x2 => some x2.1
def tens_New (fu : Nat) (x1 : Int) (x2 : List Int) : Option (T_Tensor × Int) :=
  (tens_known fu x1).bind fun x3 => if x3 = true then ((shape_Size fu x2).bind fun x4 => if x4.2 = 0 then ((slices_Clone_int fu x2).bind fun x5 => if x1 = 1 then (chk (0 ≤ x4.1 ∧ x4.1 * 4 ≤ 140737488355328) <| some (T_Tensor.mk x1 x5 (List.replicate x4.1.toNat (0 : Int)) ([]) ([]), 0)) else if x1 = 7 then (chk (0 ≤ x4.1 ∧ x4.1 * 8 ≤ 140737488355328) <| some (T_Tensor.mk x1 x5 ([]) (List.replicate x4.1.toNat (0 : Int)) ([]), 0)) else chk (0 ≤ x4.1 ∧ x4.1 * 1 ≤ 140737488355328) <| some (T_Tensor.mk x1 x5 ([]) ([]) (List.replicate x4.1.toNat (false : Bool)), 0)) else some (T_Tensor.mk 0 ([]) ([]) ([]) ([]), x4.2)) else some (T_Tensor.mk 0 ([]) ([]) ([]) ([]), 5)
def tens_Pick_1 (fu : Nat) (x1 : Int) (x2 : Int) : Option Bool :=
  if x1 < (-1) then (some true) else some (decide (x2 ≤ x1))
def tens_Pick.c3 (fu : Nat) (x5 : T_Tensor × Int) (x7 : List Int) (x8 : List Int) (x9 : List Bool) : Option (T_Tensor × Int) :=
  chk (x5.1.fB.length = x9.length) <| some (T_Tensor.mk x5.1.fType x5.1.fDims x7 x8 x9, 0)
def tens_Pick.L1 (fu : Nat) (x1 : T_Tensor) (x3 : List Int) (x5 : T_Tensor × Int) (x7 : List Int) (x8 : List Int) (nx1 : (List Bool) → Int → Option (T_Tensor × Int)) (x12 : List Bool) (x13 : Int) : Option (T_Tensor × Int) :=
  if x13 < (x3.length : Int) then ((at? x3 x13).bind fun x16 => if 0 ≤ x16 then ((at? x1.fB x16).bind fun x17 => chk (0 ≤ x13 ∧ x13 < ((x5.1.fB.length : Nat) : Int)) <| chk (0 ≤ x13 ∧ x13 < (x12.length : Int)) <| nx1 (x12.set x13.toNat x17) (wk .i64 (x13 + 1))) else nx1 x12 (wk .i64 (x13 + 1))) else tens_Pick.c3 fu x5 x7 x8 x12
def tens_Pick.W1 (fu : Nat) (x1 : T_Tensor) (x3 : List Int) (x5 : T_Tensor × Int) (x7 : List Int) (x8 : List Int) (x12 : List Bool) (x13 : Int) : Option (T_Tensor × Int) :=
  cloop (fun next s => tens_Pick.L1 fu x1 x3 x5 x7 x8 (fun x12 x13 => next (x12, x13)) s.1 s.2) fu (x12, x13)
def tens_Pick.c2 (fu : Nat) (x1 : T_Tensor) (x3 : List Int) (x5 : T_Tensor × Int) (x7 : List Int) (x8 : List Int) : Option (T_Tensor × Int) :=
  chk (x5.1.fI.length = x8.length) <| jc 3 () (fun (t : List Bool) => tens_Pick.c3 fu x5 x7 x8 t) <| if ((x5.1.fB.length : Nat) : Int) = 0 then (tens_Pick.c3 fu x5 x7 x8 x5.1.fB) else tens_Pick.W1 fu x1 x3 x5 x7 x8 x5.1.fB 0
def tens_Pick.L2 (fu : Nat) (x1 : T_Tensor) (x3 : List Int) (x5 : T_Tensor × Int) (x7 : List Int) (nx2 : (List Int) → Int → Option (T_Tensor × Int)) (x20 : List Int) (x21 : Int) : Option (T_Tensor × Int) :=
  if x21 < (x3.length : Int) then ((at? x3 x21).bind fun x24 => if 0 ≤ x24 then ((at? x1.fI x24).bind fun x25 => chk (0 ≤ x21 ∧ x21 < ((x5.1.fI.length : Nat) : Int)) <| chk (0 ≤ x21 ∧ x21 < (x20.length : Int)) <| nx2 (x20.set x21.toNat x25) (wk .i64 (x21 + 1))) else nx2 x20 (wk .i64 (x21 + 1))) else tens_Pick.c2 fu x1 x3 x5 x7 x20
def tens_Pick.W2 (fu : Nat) (x1 : T_Tensor) (x3 : List Int) (x5 : T_Tensor × Int) (x7 : List Int) (x20 : List Int) (x21 : Int) : Option (T_Tensor × Int) :=
  cloop (fun next s => tens_Pick.L2 fu x1 x3 x5 x7 (fun x20 x21 => next (x20, x21)) s.1 s.2) fu (x20, x21)
def tens_Pick.c1 (fu : Nat) (x1 : T_Tensor) (x3 : List Int) (x5 : T_Tensor × Int) (x7 : List Int) : Option (T_Tensor × Int) :=
  chk (x5.1.fF.length = x7.length) <| jc 2 () (fun (t : List Int) => tens_Pick.c2 fu x1 x3 x5 x7 t) <| if ((x5.1.fI.length : Nat) : Int) = 0 then (tens_Pick.c2 fu x1 x3 x5 x7 x5.1.fI) else tens_Pick.W2 fu x1 x3 x5 x7 x5.1.fI 0
def tens_Pick.L3 (fu : Nat) (x1 : T_Tensor) (x3 : List Int) (x5 : T_Tensor × Int) (nx3 : (List Int) → Int → Option (T_Tensor × Int)) (x28 : List Int) (x29 : Int) : Option (T_Tensor × Int) :=
  if x29 < (x3.length : Int) then ((at? x3 x29).bind fun x32 => if 0 ≤ x32 then ((at? x1.fF x32).bind fun x33 => chk (0 ≤ x29 ∧ x29 < ((x5.1.fF.length : Nat) : Int)) <| chk (0 ≤ x29 ∧ x29 < (x28.length : Int)) <| nx3 (x28.set x29.toNat x33) (wk .i64 (x29 + 1))) else nx3 x28 (wk .i64 (x29 + 1))) else tens_Pick.c1 fu x1 x3 x5 x28
def tens_Pick.W3 (fu : Nat) (x1 : T_Tensor) (x3 : List Int) (x5 : T_Tensor × Int) (x28 : List Int) (x29 : Int) : Option (T_Tensor × Int) :=
  cloop (fun next s => tens_Pick.L3 fu x1 x3 x5 (fun x28 x29 => next (x28, x29)) s.1 s.2) fu (x28, x29)
def tens_Pick (fu : Nat) (x1 : T_Tensor) (x2 : List Int) (x3 : List Int) : Option (T_Tensor × Int) :=
  (tens_Check fu x1).bind fun x4 => if x4 = 0 then ((tens_New fu x1.fType x2).bind fun x5 => if x5.2 = 0 then (if (x3.length : Int) = (wk .i64 ((wk .i64 (((x5.1.fF.length : Nat) : Int) + ((x5.1.fI.length : Nat) : Int))) + ((x5.1.fB.length : Nat) : Int))) then ((slices_ContainsFunc_int fu x3 (fun y0 => tens_Pick_1 fu y0 (wk .i64 ((wk .i64 ((x1.fF.length : Int) + (x1.fI.length : Int))) + (x1.fB.length : Int))))).bind fun x6 => if x6 = true then (some (T_Tensor.mk 0 ([]) ([]) ([]) ([]), 2)) else jc 1 () (fun (t : List Int) => tens_Pick.c1 fu x1 x3 x5 t) <| if ((x5.1.fF.length : Nat) : Int) = 0 then (tens_Pick.c1 fu x1 x3 x5 x5.1.fF) else tens_Pick.W3 fu x1 x3 x5 x5.1.fF 0) else some (T_Tensor.mk 0 ([]) ([]) ([]) ([]), 3)) else some (T_Tensor.mk 0 ([]) ([]) ([]) ([]), x5.2)) else some (T_Tensor.mk 0 ([]) ([]) ([]) ([]), x4)
def moves_picked.L2 (fu : Nat) (nx1 : (List Int) → (List Int) → Option T_Tensor) (x1 : T_Tensor) (x2 : List Int) (x17 : List Int) (x31 : Int) (nx2 : (List Int) → Int → Option T_Tensor) (x35 : List Int) (x36 : Int) : Option T_Tensor :=
  if 0 ≤ x36 then ((at? x35 x36).bind fun x40 => chk (0 ≤ x36 ∧ x36 < (x35.length : Int)) <| (at? (x35.set x36.toNat (wk .i64 (x40 + 1))) x36).bind fun x41 => (at? x2 x36).bind fun x42 => if x41 < x42 then (nx1 (x17 ++ ([x31])) (x35.set x36.toNat (wk .i64 (x40 + 1)))) else chk (0 ≤ x36 ∧ x36 < ((x35.set x36.toNat (wk .i64 (x40 + 1))).length : Int)) <| nx2 ((x35.set x36.toNat (wk .i64 (x40 + 1))).set x36.toNat 0) (wk .i64 (x36 - 1))) else (tens_Pick fu x1 x2 (x17 ++ ([x31]))).bind fun x43 => some x43.1
def moves_picked.W2 (fu : Nat) (nx1 : (List Int) → (List Int) → Option T_Tensor) (x1 : T_Tensor) (x2 : List Int) (x17 : List Int) (x31 : Int) (x35 : List Int) (x36 : Int) : Option T_Tensor :=
  cloop (fun next s => moves_picked.L2 fu nx1 x1 x2 x17 x31 (fun x35 x36 => next (x35, x36)) s.1 s.2) fu (x35, x36)
def moves_picked.L1 (fu : Nat) (p2 : (List Int) → Option Int) (x1 : T_Tensor) (x2 : List Int) (nx1 : (List Int) → (List Int) → Option T_Tensor) (x17 : List Int) (x18 : List Int) : Option T_Tensor :=
  (p2 x18).bind fun x31 => chk ((x17.length + 1 : Int) * 8 ≤ 140737488355328) <| moves_picked.W2 fu nx1 x1 x2 x17 x31 x18 (wk .i64 ((x2.length : Int) - 1))
def moves_picked.W1 (fu : Nat) (p2 : (List Int) → Option Int) (x1 : T_Tensor) (x2 : List Int) (x17 : List Int) (x18 : List Int) : Option T_Tensor :=
  cloop (fun next s => moves_picked.L1 fu p2 x1 x2 (fun x17 x18 => next (x17, x18)) s.1 s.2) fu (x17, x18)
def moves_picked (fu : Nat) (x1 : T_Tensor) (x2 : List Int) (p2 : (List Int) → Option Int) : Option T_Tensor :=
  (slices_Contains_int fu x2 0).bind fun x3 => if x3 = true then ((tens_Pick fu x1 x2 ([] : List Int)).bind fun x4 => some x4.1) else chk (0 ≤ (x2.length : Int) ∧ (x2.length : Int) * 8 ≤ 140737488355328) <| moves_picked.W1 fu p2 x1 x2 ([] : List Int) (List.replicate (x2.length : Int).toNat (0 : Int))
def moves_dot.L1 (fu : Nat) (x1 : List Int) (x2 : List Int) (nx1 : Int → Int → Option Int) (x5 : Int) (x6 : Int) : Option Int :=
  if x6 < (x2.length : Int) then ((at? x2 x6).bind fun x9 => (at? x1 x6).bind fun x10 => nx1 (wk .i64 (x5 + (wk .i64 (x10 * x9)))) (wk .i64 (x6 + 1))) else some x5
def moves_dot.W1 (fu : Nat) (x1 : List Int) (x2 : List Int) (x5 : Int) (x6 : Int) : Option Int :=
  cloop (fun next s => moves_dot.L1 fu x1 x2 (fun x5 x6 => next (x5, x6)) s.1 s.2) fu (x5, x6)
def moves_dot (fu : Nat) (x1 : List Int) (x2 : List Int) : Option Int :=
  moves_dot.W1 fu x1 x2 0 0
def moves_move_split_1 (fu : Nat) (x1 : List Int) (x2 : Int) (x3 : List Int) : Option Int :=
  (moves_dot fu x1 x3).bind fun x4 => some (wk .i64 (x2 + x4))
def moves_move_split.L1 (fu : Nat) (x1 : T_moves_move) (x2 : List T_Val) (x3 : List Int) (nx1 : (List T_Tensor) → Int → Int → Option (List T_Tensor)) (x8 : List T_Tensor) (x9 : Int) (x10 : Int) : Option (List T_Tensor) :=
  if x10 < (x2.length : Int) then ((at? x2 x10).bind fun x15 => (moves_picked fu x1.fx x15.fDims (fun y0 => moves_move_split_1 fu y0 x9 x3)).bind fun x16 => chk ((x8.length + 1 : Int) * 104 ≤ 140737488355328) <| (at? x15.fDims x1.faxis).bind fun x17 => (at? x3 x1.faxis).bind fun x18 => nx1 (x8 ++ ([x16])) (wk .i64 (x9 + (wk .i64 (x17 * x18)))) (wk .i64 (x10 + 1))) else some x8
def moves_move_split.W1 (fu : Nat) (x1 : T_moves_move) (x2 : List T_Val) (x3 : List Int) (x8 : List T_Tensor) (x9 : Int) (x10 : Int) : Option (List T_Tensor) :=
  cloop (fun next s => moves_move_split.L1 fu x1 x2 x3 (fun x8 x9 x10 => next (x8, x9, x10)) s.1 s.2.1 s.2.2) fu (x8, x9, x10)
def moves_move_split (fu : Nat) (x1 : T_moves_move) (x2 : List T_Val) : Option (List T_Tensor) :=
  chk (x1.fop = 48) <| (moves_strides fu x1.fx.fDims).bind fun x3 => moves_move_split.W1 fu x1 x2 x3 ([] : List T_Tensor) 0 0
def slices_Concat_uint32.L1 (fu : Nat) (x1 : List (List Int)) (nx1 : (List Int) → Int → Option (List Int)) (x4 : List Int) (x5 : Int) : Option (List Int) :=
  if x5 < (x1.length : Int) then ((at? x1 x5).bind fun x7 => chk ((x4.length + x7.length : Int) * 4 ≤ 140737488355328) <| nx1 (x4 ++ x7) (wk .i64 (x5 + 1))) else some x4
def slices_Concat_uint32.W1 (fu : Nat) (x1 : List (List Int)) (x4 : List Int) (x5 : Int) : Option (List Int) :=
  cloop (fun next s => slices_Concat_uint32.L1 fu x1 (fun x4 x5 => next (x4, x5)) s.1 s.2) fu (x4, x5)
def slices_Concat_uint32.L2 (fu : Nat) (x1 : List (List Int)) (nx2 : (List Int) → Int → Option (List Int)) (x9 : List Int) (x10 : Int) : Option (List Int) :=
  if x10 < (x1.length : Int) then ((at? x1 x10).bind fun x12 => chk ((x9.length + x12.length : Int) * 4 ≤ 140737488355328) <| nx2 (x9 ++ x12) (wk .i64 (x10 + 1))) else some x9
def slices_Concat_uint32.W2 (fu : Nat) (x1 : List (List Int)) (x9 : List Int) (x10 : Int) : Option (List Int) :=
  cloop (fun next s => slices_Concat_uint32.L2 fu x1 (fun x9 x10 => next (x9, x10)) s.1 s.2) fu (x9, x10)
def slices_Concat_uint32.k2 (fu : Nat) (x1 : List (List Int)) (x2 : Int) : Option (List Int) :=
  if 0 < (wk .i64 (x2 - (wk .i64 0))) then (chk (0 ≤ wk .i64 (x2 - (wk .i64 0)) ∧ wk .i64 (x2 - (wk .i64 0)) ≤ 140737488355328 ∧ (wk .i64 (x2 - (wk .i64 0))) * 4 ≤ 140737488355328) <| chk (0 ≤ 0 ∧ 0 ≤ (((wk .i64 (x2 - (wk .i64 0))).toNat : Nat) : Int)) <| slices_Concat_uint32.W1 fu x1 ([] : List Int) 0) else slices_Concat_uint32.W2 fu x1 ([] : List Int) 0
def slices_Concat_uint32.k1 (fu : Nat) (x1 : List (List Int)) (x2 : Int) : Option (List Int) :=
  jn 2 () (fun (t : Unit) => slices_Concat_uint32.k2 fu x1 x2) <| if x2 < 0 then (none) else slices_Concat_uint32.k2 fu x1 x2
def slices_Concat_uint32.L3 (fu : Nat) (x1 : List (List Int)) (nx3 : Int → Int → Option (List Int)) (x14 : Int) (x15 : Int) : Option (List Int) :=
  if x15 < (x1.length : Int) then ((at? x1 x15).bind fun x17 => if (wk .i64 (x14 + (x17.length : Int))) < 0 then (none) else nx3 (wk .i64 (x14 + (x17.length : Int))) (wk .i64 (x15 + 1))) else slices_Concat_uint32.k1 fu x1 x14
def slices_Concat_uint32.W3 (fu : Nat) (x1 : List (List Int)) (x14 : Int) (x15 : Int) : Option (List Int) :=
  cloop (fun next s => slices_Concat_uint32.L3 fu x1 (fun x14 x15 => next (x14, x15)) s.1 s.2) fu (x14, x15)
def slices_Concat_uint32 (fu : Nat) (x1 : List (List Int)) : Option (List Int) :=
  jn 1 () (fun (t : Int) => slices_Concat_uint32.k1 fu x1 t) <| slices_Concat_uint32.W3 fu x1 0 0
def moves_joined_uint32 (fu : Nat) (x1 : List (List Int)) : Option (List Int) :=
  (slices_Concat_uint32 fu x1).bind fun x2 => some x2
def slices_Concat_int64.L1 (fu : Nat) (x1 : List (List Int)) (nx1 : (List Int) → Int → Option (List Int)) (x4 : List Int) (x5 : Int) : Option (List Int) :=
  if x5 < (x1.length : Int) then ((at? x1 x5).bind fun x7 => chk ((x4.length + x7.length : Int) * 8 ≤ 140737488355328) <| nx1 (x4 ++ x7) (wk .i64 (x5 + 1))) else some x4
def slices_Concat_int64.W1 (fu : Nat) (x1 : List (List Int)) (x4 : List Int) (x5 : Int) : Option (List Int) :=
  cloop (fun next s => slices_Concat_int64.L1 fu x1 (fun x4 x5 => next (x4, x5)) s.1 s.2) fu (x4, x5)
def slices_Concat_int64.L2 (fu : Nat) (x1 : List (List Int)) (nx2 : (List Int) → Int → Option (List Int)) (x9 : List Int) (x10 : Int) : Option (List Int) :=
  if x10 < (x1.length : Int) then ((at? x1 x10).bind fun x12 => chk ((x9.length + x12.length : Int) * 8 ≤ 140737488355328) <| nx2 (x9 ++ x12) (wk .i64 (x10 + 1))) else some x9
def slices_Concat_int64.W2 (fu : Nat) (x1 : List (List Int)) (x9 : List Int) (x10 : Int) : Option (List Int) :=
  cloop (fun next s => slices_Concat_int64.L2 fu x1 (fun x9 x10 => next (x9, x10)) s.1 s.2) fu (x9, x10)
def slices_Concat_int64.k2 (fu : Nat) (x1 : List (List Int)) (x2 : Int) : Option (List Int) :=
  if 0 < (wk .i64 (x2 - (wk .i64 0))) then (chk (0 ≤ wk .i64 (x2 - (wk .i64 0)) ∧ wk .i64 (x2 - (wk .i64 0)) ≤ 140737488355328 ∧ (wk .i64 (x2 - (wk .i64 0))) * 8 ≤ 140737488355328) <| chk (0 ≤ 0 ∧ 0 ≤ (((wk .i64 (x2 - (wk .i64 0))).toNat : Nat) : Int)) <| slices_Concat_int64.W1 fu x1 ([] : List Int) 0) else slices_Concat_int64.W2 fu x1 ([] : List Int) 0
def slices_Concat_int64.k1 (fu : Nat) (x1 : List (List Int)) (x2 : Int) : Option (List Int) :=
  jn 2 () (fun (t : Unit) => slices_Concat_int64.k2 fu x1 x2) <| if x2 < 0 then (none) else slices_Concat_int64.k2 fu x1 x2
def slices_Concat_int64.L3 (fu : Nat) (x1 : List (List Int)) (nx3 : Int → Int → Option (List Int)) (x14 : Int) (x15 : Int) : Option (List Int) :=
  if x15 < (x1.length : Int) then ((at? x1 x15).bind fun x17 => if (wk .i64 (x14 + (x17.length : Int))) < 0 then (none) else nx3 (wk .i64 (x14 + (x17.length : Int))) (wk .i64 (x15 + 1))) else slices_Concat_int64.k1 fu x1 x14
def slices_Concat_int64.W3 (fu : Nat) (x1 : List (List Int)) (x14 : Int) (x15 : Int) : Option (List Int) :=
  cloop (fun next s => slices_Concat_int64.L3 fu x1 (fun x14 x15 => next (x14, x15)) s.1 s.2) fu (x14, x15)
def slices_Concat_int64 (fu : Nat) (x1 : List (List Int)) : Option (List Int) :=
  jn 1 () (fun (t : Int) => slices_Concat_int64.k1 fu x1 t) <| slices_Concat_int64.W3 fu x1 0 0
def moves_joined_int64 (fu : Nat) (x1 : List (List Int)) : Option (List Int) :=
  (slices_Concat_int64 fu x1).bind fun x2 => some x2
def slices_Concat_bool.L1 (fu : Nat) (x1 : List (List Bool)) (nx1 : (List Bool) → Int → Option (List Bool)) (x4 : List Bool) (x5 : Int) : Option (List Bool) :=
  if x5 < (x1.length : Int) then ((at? x1 x5).bind fun x7 => chk ((x4.length + x7.length : Int) * 1 ≤ 140737488355328) <| nx1 (x4 ++ x7) (wk .i64 (x5 + 1))) else some x4
def slices_Concat_bool.W1 (fu : Nat) (x1 : List (List Bool)) (x4 : List Bool) (x5 : Int) : Option (List Bool) :=
  cloop (fun next s => slices_Concat_bool.L1 fu x1 (fun x4 x5 => next (x4, x5)) s.1 s.2) fu (x4, x5)
def slices_Concat_bool.L2 (fu : Nat) (x1 : List (List Bool)) (nx2 : (List Bool) → Int → Option (List Bool)) (x9 : List Bool) (x10 : Int) : Option (List Bool) :=
  if x10 < (x1.length : Int) then ((at? x1 x10).bind fun x12 => chk ((x9.length + x12.length : Int) * 1 ≤ 140737488355328) <| nx2 (x9 ++ x12) (wk .i64 (x10 + 1))) else some x9
def slices_Concat_bool.W2 (fu : Nat) (x1 : List (List Bool)) (x9 : List Bool) (x10 : Int) : Option (List Bool) :=
  cloop (fun next s => slices_Concat_bool.L2 fu x1 (fun x9 x10 => next (x9, x10)) s.1 s.2) fu (x9, x10)
def slices_Concat_bool.k2 (fu : Nat) (x1 : List (List Bool)) (x2 : Int) : Option (List Bool) :=
  if 0 < (wk .i64 (x2 - (wk .i64 0))) then (chk (0 ≤ wk .i64 (x2 - (wk .i64 0)) ∧ wk .i64 (x2 - (wk .i64 0)) ≤ 140737488355328 ∧ (wk .i64 (x2 - (wk .i64 0))) * 1 ≤ 140737488355328) <| chk (0 ≤ 0 ∧ 0 ≤ (((wk .i64 (x2 - (wk .i64 0))).toNat : Nat) : Int)) <| slices_Concat_bool.W1 fu x1 ([] : List Bool) 0) else slices_Concat_bool.W2 fu x1 ([] : List Bool) 0
def slices_Concat_bool.k1 (fu : Nat) (x1 : List (List Bool)) (x2 : Int) : Option (List Bool) :=
  jn 2 () (fun (t : Unit) => slices_Concat_bool.k2 fu x1 x2) <| if x2 < 0 then (none) else slices_Concat_bool.k2 fu x1 x2
def slices_Concat_bool.L3 (fu : Nat) (x1 : List (List Bool)) (nx3 : Int → Int → Option (List Bool)) (x14 : Int) (x15 : Int) : Option (List Bool) :=
  if x15 < (x1.length : Int) then ((at? x1 x15).bind fun x17 => if (wk .i64 (x14 + (x17.length : Int))) < 0 then (none) else nx3 (wk .i64 (x14 + (x17.length : Int))) (wk .i64 (x15 + 1))) else slices_Concat_bool.k1 fu x1 x14
def slices_Concat_bool.W3 (fu : Nat) (x1 : List (List Bool)) (x14 : Int) (x15 : Int) : Option (List Bool) :=
  cloop (fun next s => slices_Concat_bool.L3 fu x1 (fun x14 x15 => next (x14, x15)) s.1 s.2) fu (x14, x15)
def slices_Concat_bool (fu : Nat) (x1 : List (List Bool)) : Option (List Bool) :=
  jn 1 () (fun (t : Int) => slices_Concat_bool.k1 fu x1 t) <| slices_Concat_bool.W3 fu x1 0 0
def moves_joined_bool (fu : Nat) (x1 : List (List Bool)) : Option (List Bool) :=
  (slices_Concat_bool fu x1).bind fun x2 => some x2
def moves_row.k1 (fu : Nat) (x2 : T_Tensor) (x3 : List Int) (x4 : List Int) (x5 : List Bool) : Option T_Tensor :=
  some (T_Tensor.mk x2.fType ([wk .i64 ((wk .i64 ((x3.length : Int) + (x4.length : Int))) + (x5.length : Int))]) x3 x4 x5)
def moves_row.L1 (fu : Nat) (x1 : List T_Tensor) (x2 : T_Tensor) (nx1 : (List Int) → (List Int) → (List Bool) → Int → Option T_Tensor) (x9 : List Int) (x10 : List Int) (x11 : List Bool) (x12 : Int) : Option T_Tensor :=
  if x12 < (x1.length : Int) then ((at? x1 x12).bind fun x17 => (moves_joined_uint32 fu ([x9, x17.fF])).bind fun x18 => (moves_joined_int64 fu ([x10, x17.fI])).bind fun x19 => (moves_joined_bool fu ([x11, x17.fB])).bind fun x20 => nx1 x18 x19 x20 (wk .i64 (x12 + 1))) else moves_row.k1 fu x2 x9 x10 x11
def moves_row.W1 (fu : Nat) (x1 : List T_Tensor) (x2 : T_Tensor) (x9 : List Int) (x10 : List Int) (x11 : List Bool) (x12 : Int) : Option T_Tensor :=
  cloop (fun next s => moves_row.L1 fu x1 x2 (fun x9 x10 x11 x12 => next (x9, x10, x11, x12)) s.1 s.2.1 s.2.2.1 s.2.2.2) fu (x9, x10, x11, x12)
def moves_row (fu : Nat) (x1 : List T_Tensor) : Option T_Tensor :=
  (at? x1 0).bind fun x2 => jn 1 () (fun (t : (List Int) × (List Int) × (List Bool)) => moves_row.k1 fu x2 t.1 t.2.1 t.2.2) <| moves_row.W1 fu x1 x2 ([]) ([]) ([]) 0
def moves_move_concat_1.k1 (fu : Nat) (x1 : List Int) (x2 : List Int) (x3 : T_moves_move) (x4 : List Int) (x5 : Int) : Option Int :=
  (at? x3.fin x5).bind fun x6 => (moves_strides fu x6.fDims).bind fun x7 => (at? x4 x5).bind fun x8 => (moves_dot fu x1 x7).bind fun x9 => (at? x2 x5).bind fun x10 => (at? x7 x3.faxis).bind fun x11 => some (wk .i64 ((wk .i64 (x8 + x9)) - (wk .i64 (x10 * x11))))
def moves_move_concat_1.L1 (fu : Nat) (x1 : List Int) (x2 : List Int) (x3 : T_moves_move) (x4 : List Int) (nx1 : Int → Option Int) (x16 : Int) : Option Int :=
  (at? x2 x16).bind fun x21 => (at? x1 x3.faxis).bind fun x22 => if x22 < x21 then (nx1 (wk .i64 (x16 - 1))) else (at? x3.fin x16).bind fun x23 => (at? x23.fDims x3.faxis).bind fun x24 => if x24 = 0 then (nx1 (wk .i64 (x16 - 1))) else moves_move_concat_1.k1 fu x1 x2 x3 x4 x16
def moves_move_concat_1.W1 (fu : Nat) (x1 : List Int) (x2 : List Int) (x3 : T_moves_move) (x4 : List Int) (x16 : Int) : Option Int :=
  cloop (fun next s => moves_move_concat_1.L1 fu x1 x2 x3 x4 next s) fu x16
def moves_move_concat_1 (fu : Nat) (x1 : List Int) (x2 : List Int) (x3 : T_moves_move) (x4 : List Int) : Option Int :=
  jn 1 () (fun (t : Int) => moves_move_concat_1.k1 fu x1 x2 x3 x4 t) <| moves_move_concat_1.W1 fu x1 x2 x3 x4 (wk .i64 ((x2.length : Int) - 1))
def moves_move_concat.k1 (fu : Nat) (x1 : T_moves_move) (x2 : List Int) (x3 : List Int) (x4 : List Int) : Option T_Tensor :=
  (moves_row fu x1.fin).bind fun x5 => (moves_picked fu x5 x2 (fun y0 => moves_move_concat_1 fu y0 x4 (T_moves_move.mk 47 x1.fs x1.fin x1.fx x1.faxis) x3)).bind fun x6 => some x6
def moves_move_concat.L1 (fu : Nat) (x1 : T_moves_move) (x2 : List Int) (nx1 : (List Int) → (List Int) → Int → Int → Int → Option T_Tensor) (x10 : List Int) (x11 : List Int) (x12 : Int) (x13 : Int) (x14 : Int) : Option T_Tensor :=
  if x14 < (x1.fin.length : Int) then ((at? x1.fin x14).bind fun x18 => chk ((x10.length + 1 : Int) * 8 ≤ 140737488355328) <| chk ((x11.length + 1 : Int) * 8 ≤ 140737488355328) <| (shape_Size fu x18.fDims).bind fun x19 => (at? x18.fDims x1.faxis).bind fun x20 => nx1 (x10 ++ ([x12])) (x11 ++ ([x13])) (wk .i64 (x12 + x19.1)) (wk .i64 (x13 + x20)) (wk .i64 (x14 + 1))) else moves_move_concat.k1 fu x1 x2 x10 x11
def moves_move_concat.W1 (fu : Nat) (x1 : T_moves_move) (x2 : List Int) (x10 : List Int) (x11 : List Int) (x12 : Int) (x13 : Int) (x14 : Int) : Option T_Tensor :=
  cloop (fun next s => moves_move_concat.L1 fu x1 x2 (fun x10 x11 x12 x13 x14 => next (x10, x11, x12, x13, x14)) s.1 s.2.1 s.2.2.1 s.2.2.2.1 s.2.2.2.2) fu (x10, x11, x12, x13, x14)
def moves_move_concat (fu : Nat) (x1 : T_moves_move) (x2 : List Int) : Option T_Tensor :=
  chk (x1.fop = 47) <| jn 1 () (fun (t : (List Int) × (List Int)) => moves_move_concat.k1 fu x1 x2 t.1 t.2) <| moves_move_concat.W1 fu x1 x2 ([] : List Int) ([] : List Int) 0 0 0
def moves_move_one (fu : Nat) (x1 : T_moves_move) (x2 : List Int) (x3 : List Int) : Option T_Tensor :=
  chk (x1.fop = 47) <| (moves_move_concat fu (T_moves_move.mk 47 x1.fs x1.fin x1.fx x1.faxis) x2).bind fun x4 => some x4
def moves_Do.k2 (fu : Nat) (x2 : T_Setting) (x6 : List T_Tensor) (x8 : (List T_Val) × Int) (x9 : T_Tensor) (x10 : Int × Int) : Option ((List T_Tensor) × Int) :=
  (moves_move_split fu (T_moves_move.mk 48 x2 x6 x9 x10.1) x8.1).bind fun x11 => some (x11, 0)
def moves_Do.k1 (fu : Nat) (x2 : T_Setting) (x3 : List T_Tensor) (x4 : Int) (x6 : List T_Tensor) : Option ((List T_Tensor) × Int) :=
  (ewise_Vals fu x3).bind fun x7 => (infer_Node fu 48 x2 x7 x4).bind fun x8 => if x8.2 = 0 then ((at? x6 0).bind fun x9 => (shape_Axis fu x2.fAxis (x9.fDims.length : Int)).bind fun x10 => jn 2 () (fun (t : Unit) => moves_Do.k2 fu x2 x6 x8 x9 x10) <| moves_Do.k2 fu x2 x6 x8 x9 x10) else some ([], x8.2)
def moves_Do.L1 (fu : Nat) (x2 : T_Setting) (x3 : List T_Tensor) (x4 : Int) (nx1 : (List T_Tensor) → Int → Option ((List T_Tensor) × Int)) (x16 : List T_Tensor) (x17 : Int) : Option ((List T_Tensor) × Int) :=
  if x17 < (x3.length : Int) then ((at? x3 x17).bind fun x22 => if x22.fType = 0 then ((tens_Canon fu x22).bind fun x23 => chk ((x16.length + 1 : Int) * 104 ≤ 140737488355328) <| nx1 (x16 ++ ([x23])) (wk .i64 (x17 + 1))) else (tens_Check fu x22).bind fun x24 => if x24 = 0 then ((tens_Canon fu x22).bind fun x25 => chk ((x16.length + 1 : Int) * 104 ≤ 140737488355328) <| nx1 (x16 ++ ([x25])) (wk .i64 (x17 + 1))) else some ([], x24)) else moves_Do.k1 fu x2 x3 x4 x16
def moves_Do.W1 (fu : Nat) (x2 : T_Setting) (x3 : List T_Tensor) (x4 : Int) (x16 : List T_Tensor) (x17 : Int) : Option ((List T_Tensor) × Int) :=
  cloop (fun next s => moves_Do.L1 fu x2 x3 x4 (fun x16 x17 => next (x16, x17)) s.1 s.2) fu (x16, x17)
def moves_Do.k4 (fu : Nat) (x2 : T_Setting) (x27 : List T_Tensor) (x29 : (List T_Val) × Int) (x30 : T_Tensor) (x31 : Int × Int) : Option ((List T_Tensor) × Int) :=
  (at? x29.1 0).bind fun x32 => (moves_move_one fu (T_moves_move.mk 47 x2 x27 x30 x31.1) x32.fDims ([])).bind fun x33 => some ([x33], 0)
def moves_Do.k3 (fu : Nat) (x2 : T_Setting) (x3 : List T_Tensor) (x4 : Int) (x27 : List T_Tensor) : Option ((List T_Tensor) × Int) :=
  (ewise_Vals fu x3).bind fun x28 => (infer_Node fu 47 x2 x28 x4).bind fun x29 => if x29.2 = 0 then ((at? x27 0).bind fun x30 => (shape_Axis fu x2.fAxis (x30.fDims.length : Int)).bind fun x31 => jn 4 () (fun (t : Unit) => moves_Do.k4 fu x2 x27 x29 x30 x31) <| moves_Do.k4 fu x2 x27 x29 x30 x31) else some ([], x29.2)
def moves_Do.L2 (fu : Nat) (x2 : T_Setting) (x3 : List T_Tensor) (x4 : Int) (nx2 : (List T_Tensor) → Int → Option ((List T_Tensor) × Int)) (x38 : List T_Tensor) (x39 : Int) : Option ((List T_Tensor) × Int) :=
  if x39 < (x3.length : Int) then ((at? x3 x39).bind fun x44 => if x44.fType = 0 then ((tens_Canon fu x44).bind fun x45 => chk ((x38.length + 1 : Int) * 104 ≤ 140737488355328) <| nx2 (x38 ++ ([x45])) (wk .i64 (x39 + 1))) else (tens_Check fu x44).bind fun x46 => if x46 = 0 then ((tens_Canon fu x44).bind fun x47 => chk ((x38.length + 1 : Int) * 104 ≤ 140737488355328) <| nx2 (x38 ++ ([x47])) (wk .i64 (x39 + 1))) else some ([], x46)) else moves_Do.k3 fu x2 x3 x4 x38
def moves_Do.W2 (fu : Nat) (x2 : T_Setting) (x3 : List T_Tensor) (x4 : Int) (x38 : List T_Tensor) (x39 : Int) : Option ((List T_Tensor) × Int) :=
  cloop (fun next s => moves_Do.L2 fu x2 x3 x4 (fun x38 x39 => next (x38, x39)) s.1 s.2) fu (x38, x39)
def moves_Do (fu : Nat) (x1 : Int) (x2 : T_Setting) (x3 : List T_Tensor) (x4 : Int) : Option ((List T_Tensor) × Int) :=
  spl (x1 = 48) ((moves_Has fu 48).bind fun x5 => if x5 = true then (jn 1 () (fun (t : List T_Tensor) => moves_Do.k1 fu x2 x3 x4 t) <| moves_Do.W1 fu x2 x3 x4 ([] : List T_Tensor) 0) else some ([], 1)) (chk (x1 = 47) <| (moves_Has fu 47).bind fun x26 => if x26 = true then (jn 3 () (fun (t : List T_Tensor) => moves_Do.k3 fu x2 x3 x4 t) <| moves_Do.W2 fu x2 x3 x4 ([] : List T_Tensor) 0) else some ([], 1))
def ref05_Copy (fu : Nat) (x1 : T_Tensor) : Option T_Tensor :=
  chk ((x1.fDims.length : Int) * 8 ≤ 140737488355328) <| chk ((x1.fF.length : Int) * 4 ≤ 140737488355328) <| chk ((x1.fI.length : Int) * 8 ≤ 140737488355328) <| chk ((x1.fB.length : Int) * 1 ≤ 140737488355328) <| some x1
def ref01_Abs (fu : Nat) (x1 : Int) : Option Int :=
  some (Int.tmod x1 2147483648)
def ref01_IsNone (fu : Nat) (x1 : Int) : Option Bool :=
  (ref01_Abs fu x1).bind fun x2 => some (decide (2139095040 < x2))
def ref01_Canon (fu : Nat) (x1 : Int) : Option Int :=
  (ref01_IsNone fu x1).bind fun x2 => if x2 = true then (some 2143289344) else some x1
def ref05_Canon.L1 (fu : Nat) (x2 : T_Tensor) (nx1 : (List Int) → Int → Option T_Tensor) (x5 : List Int) (x6 : Int) : Option T_Tensor :=
  if x6 < (x5.length : Int) then ((at? x5 x6).bind fun x9 => (ref01_Canon fu x9).bind fun x10 => chk (0 ≤ x6 ∧ x6 < (x5.length : Int)) <| nx1 (x5.set x6.toNat x10) (wk .i64 (x6 + 1))) else some (T_Tensor.mk x2.fType x2.fDims x5 x2.fI x2.fB)
def ref05_Canon.W1 (fu : Nat) (x2 : T_Tensor) (x5 : List Int) (x6 : Int) : Option T_Tensor :=
  cloop (fun next s => ref05_Canon.L1 fu x2 (fun x5 x6 => next (x5, x6)) s.1 s.2) fu (x5, x6)
def ref05_Canon (fu : Nat) (x1 : T_Tensor) : Option T_Tensor :=
  (ref05_Copy fu x1).bind fun x2 => ref05_Canon.W1 fu x2 x2.fF 0
def ref04_SameInts.L1 (fu : Nat) (x1 : List Int) (x2 : List Int) (nx1 : Int → Option Bool) (x5 : Int) : Option Bool :=
  if x5 < (x1.length : Int) then ((at? x1 x5).bind fun x8 => (at? x2 x5).bind fun x9 => if x8 = x9 then (nx1 (wk .i64 (x5 + 1))) else some false) else some true
def ref04_SameInts.W1 (fu : Nat) (x1 : List Int) (x2 : List Int) (x5 : Int) : Option Bool :=
  cloop (fun next s => ref04_SameInts.L1 fu x1 x2 next s) fu x5
def ref04_SameInts (fu : Nat) (x1 : List Int) (x2 : List Int) : Option Bool :=
  if (x1.length : Int) = (x2.length : Int) then (ref04_SameInts.W1 fu x1 x2 0) else some false
def ref05_Same.L1 (fu : Nat) (x1 : T_Tensor) (x2 : T_Tensor) (nx1 : Int → Option Bool) (x5 : Int) : Option Bool :=
  if x5 < (x1.fB.length : Int) then ((at? x1.fB x5).bind fun x8 => (at? x2.fB x5).bind fun x9 => if (x8 == x9) = true then (nx1 (wk .i64 (x5 + 1))) else some false) else some true
def ref05_Same.W1 (fu : Nat) (x1 : T_Tensor) (x2 : T_Tensor) (x5 : Int) : Option Bool :=
  cloop (fun next s => ref05_Same.L1 fu x1 x2 next s) fu x5
def ref05_Same.k3 (fu : Nat) (x1 : T_Tensor) (x2 : T_Tensor) : Option Bool :=
  ref05_Same.W1 fu x1 x2 0
def ref05_Same.L2 (fu : Nat) (x1 : T_Tensor) (x2 : T_Tensor) (nx2 : Int → Option Bool) (x12 : Int) : Option Bool :=
  if x12 < (x1.fI.length : Int) then ((at? x1.fI x12).bind fun x15 => (at? x2.fI x12).bind fun x16 => if x15 = x16 then (nx2 (wk .i64 (x12 + 1))) else some false) else ref05_Same.k3 fu x1 x2
def ref05_Same.W2 (fu : Nat) (x1 : T_Tensor) (x2 : T_Tensor) (x12 : Int) : Option Bool :=
  cloop (fun next s => ref05_Same.L2 fu x1 x2 next s) fu x12
def ref05_Same.k2 (fu : Nat) (x1 : T_Tensor) (x2 : T_Tensor) : Option Bool :=
  jn 3 () (fun (t : Unit) => ref05_Same.k3 fu x1 x2) <| ref05_Same.W2 fu x1 x2 0
def ref05_Same.L3 (fu : Nat) (x1 : T_Tensor) (x2 : T_Tensor) (nx3 : Int → Option Bool) (x19 : Int) : Option Bool :=
  if x19 < (x1.fF.length : Int) then ((at? x1.fF x19).bind fun x22 => (at? x2.fF x19).bind fun x23 => if x22 = x23 then (nx3 (wk .i64 (x19 + 1))) else some false) else ref05_Same.k2 fu x1 x2
def ref05_Same.W3 (fu : Nat) (x1 : T_Tensor) (x2 : T_Tensor) (x19 : Int) : Option Bool :=
  cloop (fun next s => ref05_Same.L3 fu x1 x2 next s) fu x19
def ref05_Same.k1 (fu : Nat) (x1 : T_Tensor) (x2 : T_Tensor) : Option Bool :=
  jn 2 () (fun (t : Unit) => ref05_Same.k2 fu x1 x2) <| ref05_Same.W3 fu x1 x2 0
def ref05_Same (fu : Nat) (x1 : T_Tensor) (x2 : T_Tensor) : Option Bool :=
  jn 1 () (fun (t : Unit) => ref05_Same.k1 fu x1 x2) <| if x1.fType = x2.fType then ((ref04_SameInts fu x1.fDims x2.fDims).bind fun x24 => if x24 = true then (if (x1.fF.length : Int) = (x2.fF.length : Int) then (if (x1.fI.length : Int) = (x2.fI.length : Int) then (if (x1.fB.length : Int) = (x2.fB.length : Int) then (ref05_Same.k1 fu x1 x2) else some false) else some false) else some false) else some false) else some false
def law12_MovesParts.k1 (fu : Nat) (x5 : (List T_Tensor) × Int) : Option Bool :=
  some (decide ((x5.1.length : Int) = 0))
def law12_MovesParts (fu : Nat) (x1 : T_Tensor) (x2 : Int) (x3 : List Int) : Option Bool :=
  (law12_list fu x3).bind fun x4 => (moves_Do fu 48 (T_Setting.mk x2 ([]) false false false false false ([]) false 0 0 0 false false false 0 0 false false 0 ([]) ([]) ([]) ([]) 0 false false 0 0 0 false (T_Tensor.mk 0 ([]) ([]) ([]) ([]))) ([x1, x4]) (x3.length : Int)).bind fun x5 => if x5.2 = 0 then ((moves_Do fu 47 (T_Setting.mk x2 ([]) false false false false false ([]) false 0 0 0 false false false 0 0 false false 0 ([]) ([]) ([]) ([]) 0 false false 0 0 0 false (T_Tensor.mk 0 ([]) ([]) ([]) ([]))) x5.1 1).bind fun x6 => if x6.2 = 0 then (if (x5.1.length : Int) = (x3.length : Int) then (if (x6.1.length : Int) = 1 then ((at? x6.1 0).bind fun x7 => (ref05_Canon fu x1).bind fun x8 => (ref05_Same fu x7 x8).bind fun x9 => some x9) else some false) else some false) else some false) else jn 1 x5 (fun (t : Unit) => law12_MovesParts.k1 fu x5) <| law12_MovesParts.k1 fu x5
end Go.Av
