/- Plain functions, as the program has them; data of structs. Made by a program of mine. Conditions: none. -/
import Derived.Test.YtnpnomlnajgbcaaGreatAu
set_option linter.unusedVariables false
namespace Go.Av
structure T_Tensor where
  fType : Int
  fDims : List Int
  fF : List Int
  fI : List Int
  fB : List Bool
def c_T_Tensor (x : T_Tensor) : List AV := [.v (.int .i64 x.fType), .arr x.fDims.length (lm (ik .i64) x.fDims), .arr x.fF.length (lm (ik .u32) x.fF), .arr x.fI.length (lm (ik .i64) x.fI), .arr x.fB.length (lm (bk) x.fB)]
theorem c_T_Tensor_len : ∀ x, (c_T_Tensor x).length = 5 := fun _ => rfl
theorem c_T_Tensor_one : ∀ x, (c_T_Tensor x).all AV.one = true := fun _ => rfl
structure T_Setting where
  fAxis : Int
  fAxes : List Int
  fHasAxes : Bool
  fKeep : Bool
  fNoop : Bool
  fLast : Bool
  fZero : Bool
  fPerm : List Int
  fHasPerm : Bool
  fAlpha : Int
  fBeta : Int
  fEpsilon : Int
  fLow : Bool
  fHigh : Bool
  fFmod : Bool
  fTo : Int
  fMode : Int
  fTransA : Bool
  fTransB : Bool
  fGroup : Int
  fKernel : List Int
  fStrides : List Int
  fPads : List Int
  fDilations : List Int
  fAuto : Int
  fCeil : Bool
  fCount : Bool
  fBlock : Int
  fStart : Int
  fEnd : Int
  fHasEnd : Bool
  fValue : T_Tensor
def c_T_Setting (x : T_Setting) : List AV := [.v (.int .i64 x.fAxis), .arr x.fAxes.length (lm (ik .i64) x.fAxes), .v (.bool x.fHasAxes), .v (.bool x.fKeep), .v (.bool x.fNoop), .v (.bool x.fLast), .v (.bool x.fZero), .arr x.fPerm.length (lm (ik .i64) x.fPerm), .v (.bool x.fHasPerm), .v (.int .u32 x.fAlpha), .v (.int .u32 x.fBeta), .v (.int .u32 x.fEpsilon), .v (.bool x.fLow), .v (.bool x.fHigh), .v (.bool x.fFmod), .v (.int .i64 x.fTo), .v (.int .i64 x.fMode), .v (.bool x.fTransA), .v (.bool x.fTransB), .v (.int .i64 x.fGroup), .arr x.fKernel.length (lm (ik .i64) x.fKernel), .arr x.fStrides.length (lm (ik .i64) x.fStrides), .arr x.fPads.length (lm (ik .i64) x.fPads), .arr x.fDilations.length (lm (ik .i64) x.fDilations), .v (.int .i64 x.fAuto), .v (.bool x.fCeil), .v (.bool x.fCount), .v (.int .i64 x.fBlock), .v (.int .i64 x.fStart), .v (.int .i64 x.fEnd), .v (.bool x.fHasEnd), .v (.int .i64 x.fValue.fType), .arr x.fValue.fDims.length (lm (ik .i64) x.fValue.fDims), .arr x.fValue.fF.length (lm (ik .u32) x.fValue.fF), .arr x.fValue.fI.length (lm (ik .i64) x.fValue.fI), .arr x.fValue.fB.length (lm (bk) x.fValue.fB)]
theorem c_T_Setting_len : ∀ x, (c_T_Setting x).length = 36 := fun _ => rfl
theorem c_T_Setting_one : ∀ x, (c_T_Setting x).all AV.one = true := fun _ => rfl
structure T_Val where
  fType : Int
  fDims : List Int
  fConst : Bool
  fT : T_Tensor
def c_T_Val (x : T_Val) : List AV := [.v (.int .i64 x.fType), .arr x.fDims.length (lm (ik .i64) x.fDims), .v (.bool x.fConst), .v (.int .i64 x.fT.fType), .arr x.fT.fDims.length (lm (ik .i64) x.fT.fDims), .arr x.fT.fF.length (lm (ik .u32) x.fT.fF), .arr x.fT.fI.length (lm (ik .i64) x.fT.fI), .arr x.fT.fB.length (lm (bk) x.fT.fB)]
theorem c_T_Val_len : ∀ x, (c_T_Val x).length = 8 := fun _ => rfl
theorem c_T_Val_one : ∀ x, (c_T_Val x).all AV.one = true := fun _ => rfl
structure T_infer_ask where
  fop : Int
  fs : T_Setting
  fin : List T_Val
  fouts : Int
def c_T_infer_ask (x : T_infer_ask) : List AV := [.v (.int .i64 x.fop), .v (.int .i64 x.fs.fAxis), .arr x.fs.fAxes.length (lm (ik .i64) x.fs.fAxes), .v (.bool x.fs.fHasAxes), .v (.bool x.fs.fKeep), .v (.bool x.fs.fNoop), .v (.bool x.fs.fLast), .v (.bool x.fs.fZero), .arr x.fs.fPerm.length (lm (ik .i64) x.fs.fPerm), .v (.bool x.fs.fHasPerm), .v (.int .u32 x.fs.fAlpha), .v (.int .u32 x.fs.fBeta), .v (.int .u32 x.fs.fEpsilon), .v (.bool x.fs.fLow), .v (.bool x.fs.fHigh), .v (.bool x.fs.fFmod), .v (.int .i64 x.fs.fTo), .v (.int .i64 x.fs.fMode), .v (.bool x.fs.fTransA), .v (.bool x.fs.fTransB), .v (.int .i64 x.fs.fGroup), .arr x.fs.fKernel.length (lm (ik .i64) x.fs.fKernel), .arr x.fs.fStrides.length (lm (ik .i64) x.fs.fStrides), .arr x.fs.fPads.length (lm (ik .i64) x.fs.fPads), .arr x.fs.fDilations.length (lm (ik .i64) x.fs.fDilations), .v (.int .i64 x.fs.fAuto), .v (.bool x.fs.fCeil), .v (.bool x.fs.fCount), .v (.int .i64 x.fs.fBlock), .v (.int .i64 x.fs.fStart), .v (.int .i64 x.fs.fEnd), .v (.bool x.fs.fHasEnd), .v (.int .i64 x.fs.fValue.fType), .arr x.fs.fValue.fDims.length (lm (ik .i64) x.fs.fValue.fDims), .arr x.fs.fValue.fF.length (lm (ik .u32) x.fs.fValue.fF), .arr x.fs.fValue.fI.length (lm (ik .i64) x.fs.fValue.fI), .arr x.fs.fValue.fB.length (lm (bk) x.fs.fValue.fB), .arr x.fin.length (fm c_T_Val x.fin), .v (.int .i64 x.fouts)]
theorem c_T_infer_ask_len : ∀ x, (c_T_infer_ask x).length = 39 := fun _ => rfl
theorem c_T_infer_ask_one : ∀ x, (c_T_infer_ask x).all AV.one = true := fun _ => rfl
structure T_moves_move where
  fop : Int
  fs : T_Setting
  fin : List T_Tensor
  fx : T_Tensor
  faxis : Int
def c_T_moves_move (x : T_moves_move) : List AV := [.v (.int .i64 x.fop), .v (.int .i64 x.fs.fAxis), .arr x.fs.fAxes.length (lm (ik .i64) x.fs.fAxes), .v (.bool x.fs.fHasAxes), .v (.bool x.fs.fKeep), .v (.bool x.fs.fNoop), .v (.bool x.fs.fLast), .v (.bool x.fs.fZero), .arr x.fs.fPerm.length (lm (ik .i64) x.fs.fPerm), .v (.bool x.fs.fHasPerm), .v (.int .u32 x.fs.fAlpha), .v (.int .u32 x.fs.fBeta), .v (.int .u32 x.fs.fEpsilon), .v (.bool x.fs.fLow), .v (.bool x.fs.fHigh), .v (.bool x.fs.fFmod), .v (.int .i64 x.fs.fTo), .v (.int .i64 x.fs.fMode), .v (.bool x.fs.fTransA), .v (.bool x.fs.fTransB), .v (.int .i64 x.fs.fGroup), .arr x.fs.fKernel.length (lm (ik .i64) x.fs.fKernel), .arr x.fs.fStrides.length (lm (ik .i64) x.fs.fStrides), .arr x.fs.fPads.length (lm (ik .i64) x.fs.fPads), .arr x.fs.fDilations.length (lm (ik .i64) x.fs.fDilations), .v (.int .i64 x.fs.fAuto), .v (.bool x.fs.fCeil), .v (.bool x.fs.fCount), .v (.int .i64 x.fs.fBlock), .v (.int .i64 x.fs.fStart), .v (.int .i64 x.fs.fEnd), .v (.bool x.fs.fHasEnd), .v (.int .i64 x.fs.fValue.fType), .arr x.fs.fValue.fDims.length (lm (ik .i64) x.fs.fValue.fDims), .arr x.fs.fValue.fF.length (lm (ik .u32) x.fs.fValue.fF), .arr x.fs.fValue.fI.length (lm (ik .i64) x.fs.fValue.fI), .arr x.fs.fValue.fB.length (lm (bk) x.fs.fValue.fB), .arr x.fin.length (fm c_T_Tensor x.fin), .v (.int .i64 x.fx.fType), .arr x.fx.fDims.length (lm (ik .i64) x.fx.fDims), .arr x.fx.fF.length (lm (ik .u32) x.fx.fF), .arr x.fx.fI.length (lm (ik .i64) x.fx.fI), .arr x.fx.fB.length (lm (bk) x.fx.fB), .v (.int .i64 x.faxis)]
theorem c_T_moves_move_len : ∀ x, (c_T_moves_move x).length = 44 := fun _ => rfl
theorem c_T_moves_move_one : ∀ x, (c_T_moves_move x).all AV.one = true := fun _ => rfl
def law12_list (fu : Nat) (x1 : List Int) : Option T_Tensor :=
  some (T_Tensor.mk 7 ([(x1.length : Int)]) ([]) x1 ([]))
def moves_Has (fu : Nat) (x1 : Int) : Option Bool :=
  spl (x1 = 53) (some (!(decide ((53 : Int) = 61)))) (chk (x1 = 49) <| some (!(decide ((49 : Int) = 61))))
def tens_Width (fu : Nat) (x1 : Int) : Option Int :=
  if x1 = 1 then (some 4) else if x1 = 7 then (some 8) else if x1 = 9 then (some 1) else some 0
def tens_known (fu : Nat) (x1 : Int) : Option Bool :=
  (tens_Width fu x1).bind fun x2 => some (decide (0 < x2))
def slices_IndexFunc_int.L1 (fu : Nat) (p1 : Int → Option Bool) (x1 : List Int) (nx1 : Int → Option Int) (x4 : Int) : Option Int :=
  if x4 < (x1.length : Int) then ((at? x1 x4).bind fun x7 => (p1 x7).bind fun x8 => if x8 = true then (some x4) else nx1 (wk .i64 (x4 + 1))) else some (-1)
def slices_IndexFunc_int.W1 (fu : Nat) (p1 : Int → Option Bool) (x1 : List Int) (x4 : Int) : Option Int :=
  cloop (fun next s => slices_IndexFunc_int.L1 fu p1 x1 next s) fu x4
def slices_IndexFunc_int (fu : Nat) (x1 : List Int) (p1 : Int → Option Bool) : Option Int :=
  slices_IndexFunc_int.W1 fu p1 x1 0
def slices_ContainsFunc_int (fu : Nat) (x1 : List Int) (p1 : Int → Option Bool) : Option Bool :=
  (slices_IndexFunc_int fu x1 p1).bind fun x2 => some (decide (0 ≤ x2))
def shape_Size_1 (fu : Nat) (x1 : Int) : Option Bool :=
  some (decide (x1 < 0))
def shape_Size_2 (fu : Nat) (x1 : Int) : Option Bool :=
  some (decide (4096 < x1))
def slices_Index_int.L1 (fu : Nat) (x1 : List Int) (x2 : Int) (nx1 : Int → Option Int) (x4 : Int) : Option Int :=
  if x4 < (x1.length : Int) then ((at? x1 x4).bind fun x6 => if x2 = x6 then (some x4) else nx1 (wk .i64 (x4 + 1))) else some (-1)
def slices_Index_int.W1 (fu : Nat) (x1 : List Int) (x2 : Int) (x4 : Int) : Option Int :=
  cloop (fun next s => slices_Index_int.L1 fu x1 x2 next s) fu x4
def slices_Index_int (fu : Nat) (x1 : List Int) (x2 : Int) : Option Int :=
  slices_Index_int.W1 fu x1 x2 0
def slices_Contains_int (fu : Nat) (x1 : List Int) (x2 : Int) : Option Bool :=
  (slices_Index_int fu x1 x2).bind fun x3 => some (decide (0 ≤ x3))
def shape_Size.L1 (fu : Nat) (x1 : List Int) (nx1 : Int → Int → Option (Int × Int)) (x5 : Int) (x6 : Int) : Option (Int × Int) :=
  if x6 < (x1.length : Int) then ((at? x1 x6).bind fun x8 => chk (x5 ≠ 0) <| if (wk .i64 (Int.tdiv 4096 x5)) < x8 then (some (0, 4)) else nx1 (wk .i64 (x5 * x8)) (wk .i64 (x6 + 1))) else some (x5, 0)
def shape_Size.W1 (fu : Nat) (x1 : List Int) (x5 : Int) (x6 : Int) : Option (Int × Int) :=
  cloop (fun next s => shape_Size.L1 fu x1 (fun x5 x6 => next (x5, x6)) s.1 s.2) fu (x5, x6)
def shape_Size.k1 (fu : Nat) (x1 : List Int) : Option (Int × Int) :=
  (slices_Contains_int fu x1 0).bind fun x3 => if x3 = true then (some (0, 0)) else shape_Size.W1 fu x1 1 0
def shape_Size (fu : Nat) (x1 : List Int) : Option (Int × Int) :=
  (slices_ContainsFunc_int fu x1 (fun y0 => shape_Size_1 fu y0)).bind fun x2 => if x2 = true then (some (0, 1)) else jn 1 () (fun (t : Unit) => shape_Size.k1 fu x1) <| if 8 < (x1.length : Int) then (some (0, 4)) else (slices_ContainsFunc_int fu x1 (fun y0 => shape_Size_2 fu y0)).bind fun x9 => if x9 = true then (some (0, 4)) else shape_Size.k1 fu x1
def tens_Check.k1 (fu : Nat) (x1 : T_Tensor) (x3 : Int × Int) (x4 : Int) : Option Int :=
  if x4 = x3.1 then (if (wk .i64 ((wk .i64 ((x1.fF.length : Int) + (x1.fI.length : Int))) + (x1.fB.length : Int))) = x3.1 then (some 0) else some 3) else some 3
def tens_Check (fu : Nat) (x1 : T_Tensor) : Option Int :=
  (tens_known fu x1.fType).bind fun x2 => if x2 = true then ((shape_Size fu x1.fDims).bind fun x3 => if x3.2 = 0 then (jn 1 () (fun (t : Int) => tens_Check.k1 fu x1 x3 t) <| if x1.fType = 7 then (tens_Check.k1 fu x1 x3 (x1.fI.length : Int)) else if x1.fType = 9 then (tens_Check.k1 fu x1 x3 (x1.fB.length : Int)) else tens_Check.k1 fu x1 x3 (x1.fF.length : Int)) else some x3.2) else some 5
def tens_own_int (fu : Nat) (x1 : List Int) : Option (List Int) :=
  chk ((x1.length : Int) * 8 ≤ 140737488355328) <| some x1
def tens_own_uint32 (fu : Nat) (x1 : List Int) : Option (List Int) :=
  chk ((x1.length : Int) * 4 ≤ 140737488355328) <| some x1
def tens_own_int64 (fu : Nat) (x1 : List Int) : Option (List Int) :=
  chk ((x1.length : Int) * 8 ≤ 140737488355328) <| some x1
def tens_own_bool (fu : Nat) (x1 : List Bool) : Option (List Bool) :=
  chk ((x1.length : Int) * 1 ≤ 140737488355328) <| some x1
def tens_Copy (fu : Nat) (x1 : T_Tensor) : Option T_Tensor :=
  (tens_own_int fu x1.fDims).bind fun x2 => (tens_own_uint32 fu x1.fF).bind fun x3 => (tens_own_int64 fu x1.fI).bind fun x4 => (tens_own_bool fu x1.fB).bind fun x5 => some (T_Tensor.mk x1.fType x2 x3 x4 x5)
def soft_Abs (fu : Nat) (x1 : Int) : Option Int :=
  some (bandn .u32 x1 2147483648)
def soft_NaN (fu : Nat) (x1 : Int) : Option Bool :=
  (soft_Abs fu x1).bind fun x2 => some (decide (2139095040 < x2))
def soft_Canon (fu : Nat) (x1 : Int) : Option Int :=
  (soft_NaN fu x1).bind fun x2 => if x2 = true then (some 2143289344) else some x1
def tens_Canon.L1 (fu : Nat) (x2 : T_Tensor) (nx1 : (List Int) → Int → Option T_Tensor) (x5 : List Int) (x6 : Int) : Option T_Tensor :=
  if x6 < ((x2.fF.length : Nat) : Int) then ((at? x5 x6).bind fun x9 => (soft_Canon fu x9).bind fun x10 => chk (0 ≤ x6 ∧ x6 < (x5.length : Int)) <| nx1 (x5.set x6.toNat x10) (wk .i64 (x6 + 1))) else some (T_Tensor.mk x2.fType x2.fDims x5 x2.fI x2.fB)
def tens_Canon.W1 (fu : Nat) (x2 : T_Tensor) (x5 : List Int) (x6 : Int) : Option T_Tensor :=
  cloop (fun next s => tens_Canon.L1 fu x2 (fun x5 x6 => next (x5, x6)) s.1 s.2) fu (x5, x6)
def tens_Canon (fu : Nat) (x1 : T_Tensor) : Option T_Tensor :=
  (tens_Copy fu x1).bind fun x2 => tens_Canon.W1 fu x2 x2.fF 0
def slices_Clone_int (fu : Nat) (x1 : List Int) : Option (List Int) :=
  chk ((x1.length : Int) * 8 ≤ 140737488355328) <| some x1
def ewise_Vals.L1 (fu : Nat) (x1 : List T_Tensor) (nx1 : (List T_Val) → Int → Option (List T_Val)) (x5 : List T_Val) (x6 : Int) : Option (List T_Val) :=
  if x6 < (x1.length : Int) then ((at? x1 x6).bind fun x10 => if x10.fType = 0 then (chk ((x5.length + 1 : Int) * 144 ≤ 140737488355328) <| nx1 (x5 ++ ([T_Val.mk 0 ([]) false (T_Tensor.mk 0 ([]) ([]) ([]) ([]))])) (wk .i64 (x6 + 1))) else (slices_Clone_int fu x10.fDims).bind fun x11 => (tens_Copy fu x10).bind fun x12 => chk ((x5.length + 1 : Int) * 144 ≤ 140737488355328) <| nx1 (x5 ++ ([T_Val.mk x10.fType x11 true x12])) (wk .i64 (x6 + 1))) else some x5
def ewise_Vals.W1 (fu : Nat) (x1 : List T_Tensor) (x5 : List T_Val) (x6 : Int) : Option (List T_Val) :=
  cloop (fun next s => ewise_Vals.L1 fu x1 (fun x5 x6 => next (x5, x6)) s.1 s.2) fu (x5, x6)
def ewise_Vals (fu : Nat) (x1 : List T_Tensor) : Option (List T_Val) :=
  ewise_Vals.W1 fu x1 ([] : List T_Val) 0
def ops_Arity (fu : Nat) (x1 : Int) : Option (Int × Int × Int × Int) :=
  spl (x1 = 53) (some (2, 3, 1, 1)) <| chk (x1 = 49) <| some (3, 5, 1, 1)
def infer_ask_val (fu : Nat) (x1 : T_infer_ask) (x2 : Int) : Option T_Val :=
  spl (x1.fop = 53) (if x2 < (x1.fin.length : Int) then ((at? x1.fin x2).bind fun x3 => some x3) else some (T_Val.mk 0 ([]) false (T_Tensor.mk 0 ([]) ([]) ([]) ([])))) (chk (x1.fop = 49) <| if x2 < (x1.fin.length : Int) then ((at? x1.fin x2).bind fun x4 => some x4) else some (T_Val.mk 0 ([]) false (T_Tensor.mk 0 ([]) ([]) ([]) ([]))))
def infer_ask_has (fu : Nat) (x1 : T_infer_ask) (x2 : Int) : Option Bool :=
  spl (x1.fop = 53) ((infer_ask_val fu (T_infer_ask.mk 53 x1.fs x1.fin x1.fouts) x2).bind fun x3 => some (!(decide (x3.fType = 0)))) (chk (x1.fop = 49) <| (infer_ask_val fu (T_infer_ask.mk 49 x1.fs x1.fin x1.fouts) x2).bind fun x4 => some (!(decide (x4.fType = 0))))
def infer_ask_complete.L1 (fu : Nat) (x1 : T_infer_ask) (x2 : Int × Int × Int × Int) (nx1 : Int → Option Bool) (x4 : Int) : Option Bool :=
  if x4 < x2.1 then ((infer_ask_has fu (T_infer_ask.mk 53 x1.fs x1.fin x1.fouts) x4).bind fun x6 => if x6 = true then (nx1 (wk .i64 (x4 + 1))) else some false) else some true
def infer_ask_complete.W1 (fu : Nat) (x1 : T_infer_ask) (x2 : Int × Int × Int × Int) (x4 : Int) : Option Bool :=
  cloop (fun next s => infer_ask_complete.L1 fu x1 x2 next s) fu x4
def infer_ask_complete.k1 (fu : Nat) (x1 : T_infer_ask) (x2 : Int × Int × Int × Int) : Option Bool :=
  infer_ask_complete.W1 fu x1 x2 0
def infer_ask_complete.L2 (fu : Nat) (x1 : T_infer_ask) (x7 : Int × Int × Int × Int) (nx2 : Int → Option Bool) (x9 : Int) : Option Bool :=
  if x9 < x7.1 then ((infer_ask_has fu (T_infer_ask.mk 49 x1.fs x1.fin x1.fouts) x9).bind fun x11 => if x11 = true then (nx2 (wk .i64 (x9 + 1))) else some false) else some true
def infer_ask_complete.W2 (fu : Nat) (x1 : T_infer_ask) (x7 : Int × Int × Int × Int) (x9 : Int) : Option Bool :=
  cloop (fun next s => infer_ask_complete.L2 fu x1 x7 next s) fu x9
def infer_ask_complete.k2 (fu : Nat) (x1 : T_infer_ask) (x7 : Int × Int × Int × Int) : Option Bool :=
  infer_ask_complete.W2 fu x1 x7 0
def infer_ask_complete (fu : Nat) (x1 : T_infer_ask) : Option Bool :=
  spl (x1.fop = 53) ((ops_Arity fu 53).bind fun x2 => jn 1 () (fun (t : Unit) => infer_ask_complete.k1 fu x1 x2) <| if x2.2.2.1 = 0 then (some false) else if (x1.fin.length : Int) < x2.1 then (some false) else if x2.2.1 < (x1.fin.length : Int) then (some false) else if x1.fouts < x2.2.2.1 then (some false) else if x2.2.2.2 < x1.fouts then (some false) else infer_ask_complete.k1 fu x1 x2) (chk (x1.fop = 49) <| (ops_Arity fu 49).bind fun x7 => jn 2 () (fun (t : Unit) => infer_ask_complete.k2 fu x1 x7) <| if x7.2.2.1 = 0 then (some false) else if (x1.fin.length : Int) < x7.1 then (some false) else if x7.2.1 < (x1.fin.length : Int) then (some false) else if x1.fouts < x7.2.2.1 then (some false) else if x7.2.2.2 < x1.fouts then (some false) else infer_ask_complete.k2 fu x1 x7)
def infer_sorts.k5 (fu : Nat) : Option ByteArray :=
  some (⟨#[97, 105, 61]⟩ : ByteArray)
def infer_sorts.k4 (fu : Nat) : Option ByteArray :=
  jn 5 () (fun (t : Unit) => infer_sorts.k5 fu) <| infer_sorts.k5 fu
def infer_sorts.k3 (fu : Nat) : Option ByteArray :=
  jn 4 () (fun (t : Unit) => infer_sorts.k4 fu) <| infer_sorts.k4 fu
def infer_sorts.k2 (fu : Nat) : Option ByteArray :=
  jn 3 () (fun (t : Unit) => infer_sorts.k3 fu) <| infer_sorts.k3 fu
def infer_sorts.k1 (fu : Nat) : Option ByteArray :=
  jn 2 () (fun (t : Unit) => infer_sorts.k2 fu) <| infer_sorts.k2 fu
def infer_sorts.k10 (fu : Nat) : Option ByteArray :=
  some (⟨#[97, 105]⟩ : ByteArray)
def infer_sorts.k9 (fu : Nat) : Option ByteArray :=
  jn 10 () (fun (t : Unit) => infer_sorts.k10 fu) <| infer_sorts.k10 fu
def infer_sorts.k8 (fu : Nat) : Option ByteArray :=
  jn 9 () (fun (t : Unit) => infer_sorts.k9 fu) <| infer_sorts.k9 fu
def infer_sorts.k7 (fu : Nat) : Option ByteArray :=
  jn 8 () (fun (t : Unit) => infer_sorts.k8 fu) <| infer_sorts.k8 fu
def infer_sorts.k6 (fu : Nat) : Option ByteArray :=
  jn 7 () (fun (t : Unit) => infer_sorts.k7 fu) <| infer_sorts.k7 fu
def infer_sorts (fu : Nat) (x1 : Int) : Option ByteArray :=
  spl (x1 = 53) (jn 1 () (fun (t : Unit) => infer_sorts.k1 fu) <| infer_sorts.k1 fu) (chk (x1 = 49) <| jn 6 () (fun (t : Unit) => infer_sorts.k6 fu) <| infer_sorts.k6 fu)
def infer_ask_fits.k1 (fu : Nat) (x5 : Bool) : Option Bool :=
  some x5
def infer_ask_fits.k2 (fu : Nat) (x10 : Bool) : Option Bool :=
  some x10
def infer_ask_fits (fu : Nat) (x1 : T_infer_ask) (x2 : Int) (x3 : Int) : Option Bool :=
  spl (x1.fop = 53) ((infer_ask_val fu (T_infer_ask.mk 53 x1.fs x1.fin x1.fouts) x2).bind fun x4 => if x3 = 110 then (jn 1 () (fun (t : Bool) => infer_ask_fits.k1 fu t) <| if x4.fType = 1 then (infer_ask_fits.k1 fu true) else infer_ask_fits.k1 fu (decide (x4.fType = 7))) else if x3 = 102 then (some (decide (x4.fType = 1))) else if x3 = 98 then (some (decide (x4.fType = 9))) else if x3 = 105 then (some (decide (x4.fType = 7))) else if x3 = 61 then ((infer_ask_val fu (T_infer_ask.mk 53 x1.fs x1.fin x1.fouts) 0).bind fun x6 => some (decide (x4.fType = x6.fType))) else if x3 = 43 then ((infer_ask_val fu (T_infer_ask.mk 53 x1.fs x1.fin x1.fouts) (wk .i64 (x2 - 1))).bind fun x7 => some (decide (x4.fType = x7.fType))) else (tens_Width fu x4.fType).bind fun x8 => some (decide (0 < x8))) (chk (x1.fop = 49) <| (infer_ask_val fu (T_infer_ask.mk 49 x1.fs x1.fin x1.fouts) x2).bind fun x9 => if x3 = 110 then (jn 2 () (fun (t : Bool) => infer_ask_fits.k2 fu t) <| if x9.fType = 1 then (infer_ask_fits.k2 fu true) else infer_ask_fits.k2 fu (decide (x9.fType = 7))) else if x3 = 102 then (some (decide (x9.fType = 1))) else if x3 = 98 then (some (decide (x9.fType = 9))) else if x3 = 105 then (some (decide (x9.fType = 7))) else if x3 = 61 then ((infer_ask_val fu (T_infer_ask.mk 49 x1.fs x1.fin x1.fouts) 0).bind fun x11 => some (decide (x9.fType = x11.fType))) else if x3 = 43 then ((infer_ask_val fu (T_infer_ask.mk 49 x1.fs x1.fin x1.fouts) (wk .i64 (x2 - 1))).bind fun x12 => some (decide (x9.fType = x12.fType))) else (tens_Width fu x9.fType).bind fun x13 => some (decide (0 < x13)))
def infer_ask_typed.k1 (fu : Nat) : Option Bool :=
  some true
def infer_ask_typed.L1 (fu : Nat) (x1 : T_infer_ask) (x2 : ByteArray) (nx1 : Int → Option Bool) (x8 : Int) : Option Bool :=
  if x8 < (x1.fin.length : Int) then ((infer_ask_has fu (T_infer_ask.mk 53 x1.fs x1.fin x1.fouts) x8).bind fun x14 => if x14 = true then ((infer_ask_val fu (T_infer_ask.mk 53 x1.fs x1.fin x1.fouts) x8).bind fun x15 => (tens_Width fu x15.fType).bind fun x16 => if x16 = 0 then (some false) else (sat? x2 (imin x8 (wk .i64 ((x2.size : Int) - 1)))).bind fun x17 => (infer_ask_fits fu (T_infer_ask.mk 53 x1.fs x1.fin x1.fouts) x8 x17).bind fun x18 => if x18 = true then (nx1 (wk .i64 (x8 + 1))) else some false) else nx1 (wk .i64 (x8 + 1))) else infer_ask_typed.k1 fu
def infer_ask_typed.W1 (fu : Nat) (x1 : T_infer_ask) (x2 : ByteArray) (x8 : Int) : Option Bool :=
  cloop (fun next s => infer_ask_typed.L1 fu x1 x2 next s) fu x8
def infer_ask_typed.k2 (fu : Nat) : Option Bool :=
  some true
def infer_ask_typed.L2 (fu : Nat) (x1 : T_infer_ask) (x19 : ByteArray) (nx2 : Int → Option Bool) (x25 : Int) : Option Bool :=
  if x25 < (x1.fin.length : Int) then ((infer_ask_has fu (T_infer_ask.mk 49 x1.fs x1.fin x1.fouts) x25).bind fun x31 => if x31 = true then ((infer_ask_val fu (T_infer_ask.mk 49 x1.fs x1.fin x1.fouts) x25).bind fun x32 => (tens_Width fu x32.fType).bind fun x33 => if x33 = 0 then (some false) else (sat? x19 (imin x25 (wk .i64 ((x19.size : Int) - 1)))).bind fun x34 => (infer_ask_fits fu (T_infer_ask.mk 49 x1.fs x1.fin x1.fouts) x25 x34).bind fun x35 => if x35 = true then (nx2 (wk .i64 (x25 + 1))) else some false) else nx2 (wk .i64 (x25 + 1))) else infer_ask_typed.k2 fu
def infer_ask_typed.W2 (fu : Nat) (x1 : T_infer_ask) (x19 : ByteArray) (x25 : Int) : Option Bool :=
  cloop (fun next s => infer_ask_typed.L2 fu x1 x19 next s) fu x25
def infer_ask_typed (fu : Nat) (x1 : T_infer_ask) : Option Bool :=
  spl (x1.fop = 53) ((infer_sorts fu 53).bind fun x2 => jn 1 () (fun (t : Unit) => infer_ask_typed.k1 fu) <| infer_ask_typed.W1 fu x1 x2 0) (chk (x1.fop = 49) <| (infer_sorts fu 49).bind fun x19 => jn 2 () (fun (t : Unit) => infer_ask_typed.k2 fu) <| infer_ask_typed.W2 fu x1 x19 0)
def infer_ask_dims (fu : Nat) (x1 : T_infer_ask) (x2 : Int) : Option (List Int) :=
  spl (x1.fop = 53) ((infer_ask_val fu (T_infer_ask.mk 53 x1.fs x1.fin x1.fouts) x2).bind fun x3 => some x3.fDims) (chk (x1.fop = 49) <| (infer_ask_val fu (T_infer_ask.mk 49 x1.fs x1.fin x1.fouts) x2).bind fun x4 => some x4.fDims)
def infer_ask_rank (fu : Nat) (x1 : T_infer_ask) : Option Int :=
  spl (x1.fop = 53) ((infer_ask_dims fu (T_infer_ask.mk 53 x1.fs x1.fin x1.fouts) 0).bind fun x2 => some (x2.length : Int)) (chk (x1.fop = 49) <| (infer_ask_dims fu (T_infer_ask.mk 49 x1.fs x1.fin x1.fouts) 0).bind fun x3 => some (x3.length : Int))
def infer_ask_attributes.k2 (fu : Nat) : Option Bool :=
  some true
def infer_ask_attributes.k1 (fu : Nat) : Option Bool :=
  jn 2 () (fun (t : Unit) => infer_ask_attributes.k2 fu) <| infer_ask_attributes.k2 fu
def infer_ask_attributes.k4 (fu : Nat) : Option Bool :=
  some true
def infer_ask_attributes.k3 (fu : Nat) : Option Bool :=
  jn 4 () (fun (t : Unit) => infer_ask_attributes.k4 fu) <| infer_ask_attributes.k4 fu
def infer_ask_attributes (fu : Nat) (x1 : T_infer_ask) : Option Bool :=
  spl (x1.fop = 53) ((infer_ask_rank fu (T_infer_ask.mk 53 x1.fs x1.fin x1.fouts)).bind fun x2 => jn 1 () (fun (t : Unit) => infer_ask_attributes.k1 fu) <| infer_ask_attributes.k1 fu) (chk (x1.fop = 49) <| (infer_ask_rank fu (T_infer_ask.mk 49 x1.fs x1.fin x1.fouts)).bind fun x3 => jn 3 () (fun (t : Unit) => infer_ask_attributes.k3 fu) <| infer_ask_attributes.k3 fu)
def infer_ask_lists.L1 (fu : Nat) (x1 : T_infer_ask) (nx1 : (List T_Val) → Int → Option (List T_Val)) (x4 : List T_Val) (x5 : Int) : Option (List T_Val) :=
  if x5 < 2 then ((infer_ask_has fu (T_infer_ask.mk 53 x1.fs x1.fin x1.fouts) x5).bind fun x8 => if x8 = true then ((infer_ask_val fu (T_infer_ask.mk 53 x1.fs x1.fin x1.fouts) x5).bind fun x9 => chk ((x4.length + 1 : Int) * 144 ≤ 140737488355328) <| nx1 (x4 ++ ([x9])) (wk .i64 (x5 + 1))) else nx1 x4 (wk .i64 (x5 + 1))) else some x4
def infer_ask_lists.W1 (fu : Nat) (x1 : T_infer_ask) (x4 : List T_Val) (x5 : Int) : Option (List T_Val) :=
  cloop (fun next s => infer_ask_lists.L1 fu x1 (fun x4 x5 => next (x4, x5)) s.1 s.2) fu (x4, x5)
def infer_ask_lists.k1 (fu : Nat) (x1 : T_infer_ask) : Option (List T_Val) :=
  infer_ask_lists.W1 fu x1 ([] : List T_Val) 1
def infer_ask_lists.L2 (fu : Nat) (x1 : T_infer_ask) (nx2 : (List T_Val) → Int → Option (List T_Val)) (x12 : List T_Val) (x13 : Int) : Option (List T_Val) :=
  if x13 < 5 then ((infer_ask_has fu (T_infer_ask.mk 49 x1.fs x1.fin x1.fouts) x13).bind fun x16 => if x16 = true then ((infer_ask_val fu (T_infer_ask.mk 49 x1.fs x1.fin x1.fouts) x13).bind fun x17 => chk ((x12.length + 1 : Int) * 144 ≤ 140737488355328) <| nx2 (x12 ++ ([x17])) (wk .i64 (x13 + 1))) else nx2 x12 (wk .i64 (x13 + 1))) else some x12
def infer_ask_lists.W2 (fu : Nat) (x1 : T_infer_ask) (x12 : List T_Val) (x13 : Int) : Option (List T_Val) :=
  cloop (fun next s => infer_ask_lists.L2 fu x1 (fun x12 x13 => next (x12, x13)) s.1 s.2) fu (x12, x13)
def infer_ask_lists.k2 (fu : Nat) (x1 : T_infer_ask) : Option (List T_Val) :=
  infer_ask_lists.W2 fu x1 ([] : List T_Val) 1
def infer_ask_lists (fu : Nat) (x1 : T_infer_ask) : Option (List T_Val) :=
  spl (x1.fop = 53) (jn 1 () (fun (t : Unit) => infer_ask_lists.k1 fu x1) <| infer_ask_lists.k1 fu x1) (chk (x1.fop = 49) <| jn 2 () (fun (t : Unit) => infer_ask_lists.k2 fu x1) <| infer_ask_lists.k2 fu x1)
def slices_IndexFunc_api_Val_api_Val.L1 (fu : Nat) (p1 : T_Val → Option Bool) (x1 : List T_Val) (nx1 : Int → Option Int) (x4 : Int) : Option Int :=
  if x4 < (x1.length : Int) then ((at? x1 x4).bind fun x7 => (p1 x7).bind fun x8 => if x8 = true then (some x4) else nx1 (wk .i64 (x4 + 1))) else some (-1)
def slices_IndexFunc_api_Val_api_Val.W1 (fu : Nat) (p1 : T_Val → Option Bool) (x1 : List T_Val) (x4 : Int) : Option Int :=
  cloop (fun next s => slices_IndexFunc_api_Val_api_Val.L1 fu p1 x1 next s) fu x4
def slices_IndexFunc_api_Val_api_Val (fu : Nat) (x1 : List T_Val) (p1 : T_Val → Option Bool) : Option Int :=
  slices_IndexFunc_api_Val_api_Val.W1 fu p1 x1 0
def slices_ContainsFunc_api_Val_api_Val (fu : Nat) (x1 : List T_Val) (p1 : T_Val → Option Bool) : Option Bool :=
  (slices_IndexFunc_api_Val_api_Val fu x1 p1).bind fun x2 => some (decide (0 ≤ x2))
def slices_Equal_int.L1 (fu : Nat) (x1 : List Int) (x2 : List Int) (nx1 : Int → Option Bool) (x5 : Int) : Option Bool :=
  if x5 < (x1.length : Int) then ((at? x1 x5).bind fun x8 => (at? x2 x5).bind fun x9 => if x8 = x9 then (nx1 (wk .i64 (x5 + 1))) else some false) else some true
def slices_Equal_int.W1 (fu : Nat) (x1 : List Int) (x2 : List Int) (x5 : Int) : Option Bool :=
  cloop (fun next s => slices_Equal_int.L1 fu x1 x2 next s) fu x5
def slices_Equal_int (fu : Nat) (x1 : List Int) (x2 : List Int) : Option Bool :=
  if (x1.length : Int) = (x2.length : Int) then (slices_Equal_int.W1 fu x1 x2 0) else some false
def infer_held (fu : Nat) (x1 : T_Val) : Option Bool :=
  if x1.fConst = true then ((tens_Check fu x1.fT).bind fun x2 => if x2 = 0 then (if x1.fT.fType = x1.fType then ((slices_Equal_int fu x1.fT.fDims x1.fDims).bind fun x3 => some x3) else some false) else some false) else some false
def infer_ask_told_1 (fu : Nat) (x1 : T_Val) : Option Bool :=
  (infer_held fu x1).bind fun x2 => some (!x2)
def infer_ask_told_2 (fu : Nat) (x1 : T_Val) : Option Bool :=
  some (!(decide ((x1.fDims.length : Int) = 1)))
def slices_IndexFunc_int64.L1 (fu : Nat) (p1 : Int → Option Bool) (x1 : List Int) (nx1 : Int → Option Int) (x4 : Int) : Option Int :=
  if x4 < (x1.length : Int) then ((at? x1 x4).bind fun x7 => (p1 x7).bind fun x8 => if x8 = true then (some x4) else nx1 (wk .i64 (x4 + 1))) else some (-1)
def slices_IndexFunc_int64.W1 (fu : Nat) (p1 : Int → Option Bool) (x1 : List Int) (x4 : Int) : Option Int :=
  cloop (fun next s => slices_IndexFunc_int64.L1 fu p1 x1 next s) fu x4
def slices_IndexFunc_int64 (fu : Nat) (x1 : List Int) (p1 : Int → Option Bool) : Option Int :=
  slices_IndexFunc_int64.W1 fu p1 x1 0
def slices_ContainsFunc_int64 (fu : Nat) (x1 : List Int) (p1 : Int → Option Bool) : Option Bool :=
  (slices_IndexFunc_int64 fu x1 p1).bind fun x2 => some (decide (0 ≤ x2))
def infer_ask_told_3_1 (fu : Nat) (x1 : Int) : Option Bool :=
  some (decide (4096 < x1))
def infer_ask_told_3 (fu : Nat) (x1 : T_Val) : Option Bool :=
  (slices_ContainsFunc_int64 fu x1.fT.fI (fun y0 => infer_ask_told_3_1 fu y0)).bind fun x2 => some x2
def infer_ask_told (fu : Nat) (x1 : T_infer_ask) : Option Int :=
  spl (x1.fop = 53) ((infer_ask_lists fu (T_infer_ask.mk 53 x1.fs x1.fin x1.fouts)).bind fun x2 => (slices_ContainsFunc_api_Val_api_Val fu x2 (fun y0 => infer_ask_told_1 fu y0)).bind fun x3 => if x3 = true then (some 15) else (slices_ContainsFunc_api_Val_api_Val fu x2 (fun y0 => infer_ask_told_2 fu y0)).bind fun x4 => if x4 = true then (some 3) else (slices_ContainsFunc_api_Val_api_Val fu x2 (fun y0 => infer_ask_told_3 fu y0)).bind fun x5 => if x5 = true then (some 4) else some 0) (chk (x1.fop = 49) <| (infer_ask_lists fu (T_infer_ask.mk 49 x1.fs x1.fin x1.fouts)).bind fun x6 => (slices_ContainsFunc_api_Val_api_Val fu x6 (fun y0 => infer_ask_told_1 fu y0)).bind fun x7 => if x7 = true then (some 15) else (slices_ContainsFunc_api_Val_api_Val fu x6 (fun y0 => infer_ask_told_2 fu y0)).bind fun x8 => if x8 = true then (some 3) else some 0)
def infer_ask_wrong.k1 (fu : Nat) (x1 : T_infer_ask) : Option Int :=
  (infer_ask_typed fu (T_infer_ask.mk 53 x1.fs x1.fin x1.fouts)).bind fun x2 => if x2 = true then ((infer_ask_attributes fu (T_infer_ask.mk 53 x1.fs x1.fin x1.fouts)).bind fun x3 => if x3 = true then ((infer_ask_told fu (T_infer_ask.mk 53 x1.fs x1.fin x1.fouts)).bind fun x4 => some x4) else some 14) else some 5
def infer_ask_wrong.L1 (fu : Nat) (x1 : T_infer_ask) (nx1 : Int → Option Int) (x8 : Int) : Option Int :=
  if x8 < (x1.fin.length : Int) then ((at? x1.fin x8).bind fun x12 => (shape_Size fu x12.fDims).bind fun x13 => (infer_ask_has fu (T_infer_ask.mk 53 x1.fs x1.fin x1.fouts) x8).bind fun x14 => if x14 = true then (if x13.2 = 0 then (nx1 (wk .i64 (x8 + 1))) else some 4) else nx1 (wk .i64 (x8 + 1))) else infer_ask_wrong.k1 fu x1
def infer_ask_wrong.W1 (fu : Nat) (x1 : T_infer_ask) (x8 : Int) : Option Int :=
  cloop (fun next s => infer_ask_wrong.L1 fu x1 next s) fu x8
def infer_ask_wrong.k2 (fu : Nat) (x1 : T_infer_ask) : Option Int :=
  (infer_ask_typed fu (T_infer_ask.mk 49 x1.fs x1.fin x1.fouts)).bind fun x15 => if x15 = true then ((infer_ask_attributes fu (T_infer_ask.mk 49 x1.fs x1.fin x1.fouts)).bind fun x16 => if x16 = true then ((infer_ask_told fu (T_infer_ask.mk 49 x1.fs x1.fin x1.fouts)).bind fun x17 => some x17) else some 14) else some 5
def infer_ask_wrong.L2 (fu : Nat) (x1 : T_infer_ask) (nx2 : Int → Option Int) (x21 : Int) : Option Int :=
  if x21 < (x1.fin.length : Int) then ((at? x1.fin x21).bind fun x25 => (shape_Size fu x25.fDims).bind fun x26 => (infer_ask_has fu (T_infer_ask.mk 49 x1.fs x1.fin x1.fouts) x21).bind fun x27 => if x27 = true then (if x26.2 = 0 then (nx2 (wk .i64 (x21 + 1))) else some 4) else nx2 (wk .i64 (x21 + 1))) else infer_ask_wrong.k2 fu x1
def infer_ask_wrong.W2 (fu : Nat) (x1 : T_infer_ask) (x21 : Int) : Option Int :=
  cloop (fun next s => infer_ask_wrong.L2 fu x1 next s) fu x21
def infer_ask_wrong (fu : Nat) (x1 : T_infer_ask) : Option Int :=
  spl (x1.fop = 53) (jn 1 () (fun (t : Unit) => infer_ask_wrong.k1 fu x1) <| infer_ask_wrong.W1 fu x1 0) (chk (x1.fop = 49) <| jn 2 () (fun (t : Unit) => infer_ask_wrong.k2 fu x1) <| infer_ask_wrong.W2 fu x1 0)
def infer_ask_numbers.L1 (fu : Nat) (x4 : T_Val) (nx1 : (List Int) → Int → Option (List Int)) (x6 : List Int) (x7 : Int) : Option (List Int) :=
  if x7 < (x4.fT.fI.length : Int) then ((at? x4.fT.fI x7).bind fun x9 => chk ((x6.length + 1 : Int) * 8 ≤ 140737488355328) <| nx1 (x6 ++ ([x9])) (wk .i64 (x7 + 1))) else some x6
def infer_ask_numbers.W1 (fu : Nat) (x4 : T_Val) (x6 : List Int) (x7 : Int) : Option (List Int) :=
  cloop (fun next s => infer_ask_numbers.L1 fu x4 (fun x6 x7 => next (x6, x7)) s.1 s.2) fu (x6, x7)
def infer_ask_numbers.L2 (fu : Nat) (x11 : T_Val) (nx2 : (List Int) → Int → Option (List Int)) (x13 : List Int) (x14 : Int) : Option (List Int) :=
  if x14 < (x11.fT.fI.length : Int) then ((at? x11.fT.fI x14).bind fun x16 => chk ((x13.length + 1 : Int) * 8 ≤ 140737488355328) <| nx2 (x13 ++ ([x16])) (wk .i64 (x14 + 1))) else some x13
def infer_ask_numbers.W2 (fu : Nat) (x11 : T_Val) (x13 : List Int) (x14 : Int) : Option (List Int) :=
  cloop (fun next s => infer_ask_numbers.L2 fu x11 (fun x13 x14 => next (x13, x14)) s.1 s.2) fu (x13, x14)
def infer_ask_numbers (fu : Nat) (x1 : T_infer_ask) (x2 : Int) : Option (List Int) :=
  spl (x1.fop = 53) ((infer_ask_has fu (T_infer_ask.mk 53 x1.fs x1.fin x1.fouts) x2).bind fun x3 => if x3 = true then ((infer_ask_val fu (T_infer_ask.mk 53 x1.fs x1.fin x1.fouts) x2).bind fun x4 => infer_ask_numbers.W1 fu x4 ([] : List Int) 0) else some ([])) (chk (x1.fop = 49) <| (infer_ask_has fu (T_infer_ask.mk 49 x1.fs x1.fin x1.fouts) x2).bind fun x10 => if x10 = true then ((infer_ask_val fu (T_infer_ask.mk 49 x1.fs x1.fin x1.fouts) x2).bind fun x11 => infer_ask_numbers.W2 fu x11 ([] : List Int) 0) else some ([]))
def infer_below_1 (fu : Nat) (x1 : Int) (x2 : Int) : Option Bool :=
  some (decide (x1 < x2))
def infer_below (fu : Nat) (x1 : List Int) (x2 : Int) : Option Bool :=
  (slices_ContainsFunc_int fu x1 (fun y0 => infer_below_1 fu y0 x2)).bind fun x3 => some x3
def infer_misfit (fu : Nat) : Option ((List (List Int)) × Int) :=
  some ([], 3)
def infer_one (fu : Nat) (x1 : List Int) : Option ((List (List Int)) × Int) :=
  some ([x1], 0)
def infer_ask_pad.k2 (fu : Nat) (x5 : List Int) : Option ((List (List Int)) × Int) :=
  (infer_one fu x5).bind fun x6 => some (x6.1, x6.2)
def infer_ask_pad.k3 (fu : Nat) (nx1 : (List Int) → Int → Option ((List (List Int)) × Int)) (x3 : List Int) (x12 : List Int) (x13 : Int) (x19 : Int) : Option ((List (List Int)) × Int) :=
  (at? x12 (Int.tmod x13 (x3.length : Int))).bind fun x21 => chk (0 ≤ Int.tmod x13 (x3.length : Int) ∧ Int.tmod x13 (x3.length : Int) < (x12.length : Int)) <| nx1 (x12.set (Int.tmod x13 (x3.length : Int)).toNat (wk .i64 (x21 + x19))) (wk .i64 (x13 + 1))
def infer_ask_pad.k4 (fu : Nat) (nx1 : (List Int) → Int → Option ((List (List Int)) × Int)) (x3 : List Int) (x12 : List Int) (x13 : Int) (x19 : Int) (x22 : Bool) : Option ((List (List Int)) × Int) :=
  if x22 = true then ((infer_misfit fu).bind fun x23 => some (x23.1, x23.2)) else infer_ask_pad.k3 fu nx1 x3 x12 x13 x19
def infer_ask_pad.L1 (fu : Nat) (x1 : T_infer_ask) (x2 : List Int) (x3 : List Int) (x4 : List Int) (nx1 : (List Int) → Int → Option ((List (List Int)) × Int)) (x12 : List Int) (x13 : Int) : Option ((List (List Int)) × Int) :=
  if x13 < (x4.length : Int) then ((at? x4 x13).bind fun x19 => chk ((x3.length : Int) ≠ 0) <| (at? x2 (Int.tmod x13 (x3.length : Int))).bind fun x20 => jn 3 () (fun (t : Unit) => infer_ask_pad.k3 fu nx1 x3 x12 x13 x19) <| if x19 = 0 then (nx1 x12 (wk .i64 (x13 + 1))) else jn 4 () (fun (t : Bool) => infer_ask_pad.k4 fu nx1 x3 x12 x13 x19 t) <| if x1.fs.fMode = 2 then (if x20 ≤ x19 then (infer_ask_pad.k4 fu nx1 x3 x12 x13 x19 true) else if x1.fs.fMode = 3 then (none) else infer_ask_pad.k4 fu nx1 x3 x12 x13 x19 false) else if x1.fs.fMode = 3 then (infer_ask_pad.k4 fu nx1 x3 x12 x13 x19 (decide (x20 = 0))) else infer_ask_pad.k4 fu nx1 x3 x12 x13 x19 false) else infer_ask_pad.k2 fu x12
def infer_ask_pad.W1 (fu : Nat) (x1 : T_infer_ask) (x2 : List Int) (x3 : List Int) (x4 : List Int) (x12 : List Int) (x13 : Int) : Option ((List (List Int)) × Int) :=
  cloop (fun next s => infer_ask_pad.L1 fu x1 x2 x3 x4 (fun x12 x13 => next (x12, x13)) s.1 s.2) fu (x12, x13)
def infer_ask_pad.k1 (fu : Nat) (x1 : T_infer_ask) (x2 : List Int) (x3 : List Int) (x4 : List Int) : Option ((List (List Int)) × Int) :=
  jn 2 () (fun (t : List Int) => infer_ask_pad.k2 fu t) <| infer_ask_pad.W1 fu x1 x2 x3 x4 x3 0
def infer_ask_pad (fu : Nat) (x1 : T_infer_ask) : Option ((List (List Int)) × Int) :=
  chk (x1.fop = 53) <| (infer_ask_dims fu (T_infer_ask.mk 53 x1.fs x1.fin x1.fouts) 0).bind fun x2 => (slices_Clone_int fu x2).bind fun x3 => (infer_ask_numbers fu (T_infer_ask.mk 53 x1.fs x1.fin x1.fouts) 1).bind fun x4 => jn 1 () (fun (t : Unit) => infer_ask_pad.k1 fu x1 x2 x3 x4) <| if (x4.length : Int) = (wk .i64 (2 * (x3.length : Int))) then ((infer_below fu x4 0).bind fun x24 => if x24 = true then ((infer_misfit fu).bind fun x25 => some (x25.1, x25.2)) else (infer_ask_dims fu (T_infer_ask.mk 53 x1.fs x1.fin x1.fouts) 2).bind fun x26 => if 0 < (x26.length : Int) then ((infer_misfit fu).bind fun x27 => some (x27.1, x27.2)) else infer_ask_pad.k1 fu x1 x2 x3 x4) else (infer_misfit fu).bind fun x28 => some (x28.1, x28.2)
def shape_Axis (fu : Nat) (x1 : Int) (x2 : Int) : Option (Int × Int) :=
  if x2 < 0 then (some (0, 2)) else if 0 ≤ x1 then (if x1 < x2 then (some (x1, 0)) else some (0, 2)) else if (wk .i64 (0 - x2)) ≤ x1 then (some (wk .i64 (x2 + x1), 0)) else some (0, 2)
def shape_Axes.k2 (fu : Nat) (x3 : List Bool) (x4 : Bool) : Option ((List Bool) × Int) :=
  if x4 = true then (some ([], 1)) else some (x3, 0)
def shape_Axes.L1 (fu : Nat) (x1 : List Int) (x2 : Int) (nx1 : (List Bool) → Bool → Int → Option ((List Bool) × Int)) (x8 : List Bool) (x9 : Bool) (x10 : Int) : Option ((List Bool) × Int) :=
  if x10 < (x1.length : Int) then ((at? x1 x10).bind fun x14 => (shape_Axis fu x14 x2).bind fun x15 => if x15.2 = 0 then (if x9 = true then (chk (0 ≤ x15.1 ∧ x15.1 < (x8.length : Int)) <| nx1 (x8.set x15.1.toNat true) true (wk .i64 (x10 + 1))) else (at? x8 x15.1).bind fun x16 => chk (0 ≤ x15.1 ∧ x15.1 < (x8.length : Int)) <| nx1 (x8.set x15.1.toNat true) x16 (wk .i64 (x10 + 1))) else some ([], x15.2)) else shape_Axes.k2 fu x8 x9
def shape_Axes.W1 (fu : Nat) (x1 : List Int) (x2 : Int) (x8 : List Bool) (x9 : Bool) (x10 : Int) : Option ((List Bool) × Int) :=
  cloop (fun next s => shape_Axes.L1 fu x1 x2 (fun x8 x9 x10 => next (x8, x9, x10)) s.1 s.2.1 s.2.2) fu (x8, x9, x10)
def shape_Axes.k1 (fu : Nat) (x1 : List Int) (x2 : Int) : Option ((List Bool) × Int) :=
  chk (0 ≤ x2 ∧ x2 * 1 ≤ 140737488355328) <| jn 2 () (fun (t : (List Bool) × Bool) => shape_Axes.k2 fu t.1 t.2) <| shape_Axes.W1 fu x1 x2 (List.replicate x2.toNat (false : Bool)) false 0
def shape_Axes (fu : Nat) (x1 : List Int) (x2 : Int) : Option ((List Bool) × Int) :=
  jn 1 () (fun (t : Unit) => shape_Axes.k1 fu x1 x2) <| if x2 < 0 then (some ([], 1)) else if 8 < x2 then (some ([], 1)) else shape_Axes.k1 fu x1 x2
def infer_count.k3 (fu : Nat) (x7 : Int) (x8 : Int) (x9 : Int) : Option Int :=
  chk (x9 ≠ 0) <| some (imax 0 (wk .i64 (Int.tdiv (wk .i64 ((wk .i64 ((wk .i64 (x8 - x7)) + x9)) - 1)) x9)))
def infer_count.k2 (fu : Nat) (x1 : Int) (x4 : Int) (x5 : Int) (x6 : Int) : Option Int :=
  jn 3 () (fun (t : Int × Int × Int) => infer_count.k3 fu t.1 t.2.1 t.2.2) <| if (imax (imin x4 4097) (-4097)) < 0 then (infer_count.k3 fu (wk .i64 (0 - (imax (imin x5 (wk .i64 (x1 - 1))) (-1)))) (wk .i64 (0 - (imax (imin x6 (wk .i64 (x1 - 1))) (-1)))) (wk .i64 (0 - (imax (imin x4 4097) (-4097))))) else infer_count.k3 fu (imax (imin x5 x1) 0) (imax (imin x6 x1) 0) (imax (imin x4 4097) (-4097))
def infer_count.k1 (fu : Nat) (x1 : Int) (x3 : Int) (x4 : Int) (x5 : Int) : Option Int :=
  jn 2 () (fun (t : Int) => infer_count.k2 fu x1 x4 x5 t) <| if x3 < 0 then (infer_count.k2 fu x1 x4 x5 (wk .i64 (x3 + x1))) else infer_count.k2 fu x1 x4 x5 x3
def infer_count (fu : Nat) (x1 : Int) (x2 : Int) (x3 : Int) (x4 : Int) : Option Int :=
  jn 1 () (fun (t : Int) => infer_count.k1 fu x1 x3 x4 t) <| if x2 < 0 then (infer_count.k1 fu x1 x3 x4 (wk .i64 (x2 + x1))) else infer_count.k1 fu x1 x3 x4 x2
def infer_ask_slice.k3 (fu : Nat) (x11 : List Int) : Option ((List (List Int)) × Int) :=
  (infer_one fu x11).bind fun x12 => some (x12.1, x12.2)
def infer_ask_slice.L1 (fu : Nat) (x4 : List Int) (x5 : List Int) (x8 : List Int) (x9 : List Int) (nx1 : (List Int) → Int → Option ((List (List Int)) × Int)) (x20 : List Int) (x21 : Int) : Option ((List (List Int)) × Int) :=
  if x21 < (x8.length : Int) then ((at? x8 x21).bind fun x29 => (shape_Axis fu x29 (x20.length : Int)).bind fun x30 => (at? x20 x30.1).bind fun x31 => (at? x4 x21).bind fun x32 => (at? x5 x21).bind fun x33 => (at? x9 x21).bind fun x34 => (infer_count fu x31 x32 x33 x34).bind fun x35 => chk (0 ≤ x30.1 ∧ x30.1 < (x20.length : Int)) <| nx1 (x20.set x30.1.toNat x35) (wk .i64 (x21 + 1))) else infer_ask_slice.k3 fu x20
def infer_ask_slice.W1 (fu : Nat) (x4 : List Int) (x5 : List Int) (x8 : List Int) (x9 : List Int) (x20 : List Int) (x21 : Int) : Option ((List (List Int)) × Int) :=
  cloop (fun next s => infer_ask_slice.L1 fu x4 x5 x8 x9 (fun x20 x21 => next (x20, x21)) s.1 s.2) fu (x20, x21)
def infer_ask_slice.k2 (fu : Nat) (x3 : List Int) (x4 : List Int) (x5 : List Int) (x8 : List Int) (x9 : List Int) : Option ((List (List Int)) × Int) :=
  jn 3 () (fun (t : List Int) => infer_ask_slice.k3 fu t) <| infer_ask_slice.W1 fu x4 x5 x8 x9 x3 0
def infer_ask_slice.k1 (fu : Nat) (x3 : List Int) (x4 : List Int) (x5 : List Int) (x8 : List Int) (x9 : List Int) : Option ((List (List Int)) × Int) :=
  (shape_Axes fu x8 (x3.length : Int)).bind fun x10 => jn 2 () (fun (t : Unit) => infer_ask_slice.k2 fu x3 x4 x5 x8 x9) <| if (x5.length : Int) = (x4.length : Int) then (if (x8.length : Int) = (x4.length : Int) then (if (x9.length : Int) = (x4.length : Int) then (if x10.2 = 0 then ((slices_Contains_int fu x9 0).bind fun x36 => if x36 = true then ((infer_misfit fu).bind fun x37 => some (x37.1, x37.2)) else infer_ask_slice.k2 fu x3 x4 x5 x8 x9) else (infer_misfit fu).bind fun x38 => some (x38.1, x38.2)) else (infer_misfit fu).bind fun x39 => some (x39.1, x39.2)) else (infer_misfit fu).bind fun x40 => some (x40.1, x40.2)) else (infer_misfit fu).bind fun x41 => some (x41.1, x41.2)
def infer_ask_slice.k4 (fu : Nat) (nx2 : (List Int) → (List Int) → Int → Option ((List (List Int)) × Int)) (x1 : T_infer_ask) (x46 : List Int) (x47 : Int) (x51 : List Int) : Option ((List (List Int)) × Int) :=
  (infer_ask_has fu (T_infer_ask.mk 49 x1.fs x1.fin x1.fouts) 4).bind fun x52 => if x52 = true then (nx2 x51 x46 (wk .i64 (x47 + 1))) else chk ((x46.length + 1 : Int) * 8 ≤ 140737488355328) <| nx2 x51 (x46 ++ ([1])) (wk .i64 (x47 + 1))
def infer_ask_slice.L2 (fu : Nat) (x1 : T_infer_ask) (x3 : List Int) (x4 : List Int) (x5 : List Int) (nx2 : (List Int) → (List Int) → Int → Option ((List (List Int)) × Int)) (x45 : List Int) (x46 : List Int) (x47 : Int) : Option ((List (List Int)) × Int) :=
  if x47 < (x4.length : Int) then (jn 4 () (fun (t : List Int) => infer_ask_slice.k4 fu nx2 x1 x46 x47 t) <| (infer_ask_has fu (T_infer_ask.mk 49 x1.fs x1.fin x1.fouts) 3).bind fun x53 => if x53 = true then (infer_ask_slice.k4 fu nx2 x1 x46 x47 x45) else chk ((x45.length + 1 : Int) * 8 ≤ 140737488355328) <| infer_ask_slice.k4 fu nx2 x1 x46 x47 (x45 ++ ([x47]))) else infer_ask_slice.k1 fu x3 x4 x5 x45 x46
def infer_ask_slice.W2 (fu : Nat) (x1 : T_infer_ask) (x3 : List Int) (x4 : List Int) (x5 : List Int) (x45 : List Int) (x46 : List Int) (x47 : Int) : Option ((List (List Int)) × Int) :=
  cloop (fun next s => infer_ask_slice.L2 fu x1 x3 x4 x5 (fun x45 x46 x47 => next (x45, x46, x47)) s.1 s.2.1 s.2.2) fu (x45, x46, x47)
def infer_ask_slice (fu : Nat) (x1 : T_infer_ask) : Option ((List (List Int)) × Int) :=
  chk (x1.fop = 49) <| (infer_ask_dims fu (T_infer_ask.mk 49 x1.fs x1.fin x1.fouts) 0).bind fun x2 => (slices_Clone_int fu x2).bind fun x3 => (infer_ask_numbers fu (T_infer_ask.mk 49 x1.fs x1.fin x1.fouts) 1).bind fun x4 => (infer_ask_numbers fu (T_infer_ask.mk 49 x1.fs x1.fin x1.fouts) 2).bind fun x5 => (infer_ask_numbers fu (T_infer_ask.mk 49 x1.fs x1.fin x1.fouts) 3).bind fun x6 => (infer_ask_numbers fu (T_infer_ask.mk 49 x1.fs x1.fin x1.fouts) 4).bind fun x7 => jn 1 () (fun (t : (List Int) × (List Int)) => infer_ask_slice.k1 fu x3 x4 x5 t.1 t.2) <| infer_ask_slice.W2 fu x1 x3 x4 x5 x6 x7 0
def infer_ask_moved (fu : Nat) (x1 : T_infer_ask) : Option ((List (List Int)) × Int) :=
  spl (x1.fop = 53) ((infer_ask_dims fu (T_infer_ask.mk 53 x1.fs x1.fin x1.fouts) 0).bind fun x2 => (infer_ask_pad fu (T_infer_ask.mk 53 x1.fs x1.fin x1.fouts)).bind fun x3 => some (x3.1, x3.2)) (chk (x1.fop = 49) <| (infer_ask_dims fu (T_infer_ask.mk 49 x1.fs x1.fin x1.fouts) 0).bind fun x4 => (infer_ask_slice fu (T_infer_ask.mk 49 x1.fs x1.fin x1.fouts)).bind fun x5 => some (x5.1, x5.2))
def infer_ask_shapes.k2 (fu : Nat) (x1 : T_infer_ask) : Option ((List (List Int)) × Int) :=
  (infer_ask_moved fu (T_infer_ask.mk 53 x1.fs x1.fin x1.fouts)).bind fun x3 => some (x3.1, x3.2)
def infer_ask_shapes.k1 (fu : Nat) (x1 : T_infer_ask) : Option ((List (List Int)) × Int) :=
  jn 2 () (fun (t : Unit) => infer_ask_shapes.k2 fu x1) <| infer_ask_shapes.k2 fu x1
def infer_ask_shapes.k4 (fu : Nat) (x1 : T_infer_ask) : Option ((List (List Int)) × Int) :=
  (infer_ask_moved fu (T_infer_ask.mk 49 x1.fs x1.fin x1.fouts)).bind fun x5 => some (x5.1, x5.2)
def infer_ask_shapes.k3 (fu : Nat) (x1 : T_infer_ask) : Option ((List (List Int)) × Int) :=
  jn 4 () (fun (t : Unit) => infer_ask_shapes.k4 fu x1) <| infer_ask_shapes.k4 fu x1
def infer_ask_shapes (fu : Nat) (x1 : T_infer_ask) : Option ((List (List Int)) × Int) :=
  spl (x1.fop = 53) ((infer_ask_dims fu (T_infer_ask.mk 53 x1.fs x1.fin x1.fouts) 0).bind fun x2 => jn 1 () (fun (t : Unit) => infer_ask_shapes.k1 fu x1) <| infer_ask_shapes.k1 fu x1) (chk (x1.fop = 49) <| (infer_ask_dims fu (T_infer_ask.mk 49 x1.fs x1.fin x1.fouts) 0).bind fun x4 => jn 3 () (fun (t : Unit) => infer_ask_shapes.k3 fu x1) <| infer_ask_shapes.k3 fu x1)
def infer_ask_out.k1 (fu : Nat) (x1 : T_infer_ask) : Option Int :=
  (infer_ask_val fu (T_infer_ask.mk 53 x1.fs x1.fin x1.fouts) 0).bind fun x2 => some x2.fType
def infer_ask_out.k3 (fu : Nat) (x1 : T_infer_ask) : Option Int :=
  infer_ask_out.k1 fu x1
def infer_ask_out.k2 (fu : Nat) (x1 : T_infer_ask) : Option Int :=
  jn 3 () (fun (t : Unit) => infer_ask_out.k3 fu x1) <| infer_ask_out.k3 fu x1
def infer_ask_out.k4 (fu : Nat) (x1 : T_infer_ask) : Option Int :=
  (infer_ask_val fu (T_infer_ask.mk 49 x1.fs x1.fin x1.fouts) 0).bind fun x3 => some x3.fType
def infer_ask_out.k6 (fu : Nat) (x1 : T_infer_ask) : Option Int :=
  infer_ask_out.k4 fu x1
def infer_ask_out.k5 (fu : Nat) (x1 : T_infer_ask) : Option Int :=
  jn 6 () (fun (t : Unit) => infer_ask_out.k6 fu x1) <| infer_ask_out.k6 fu x1
def infer_ask_out (fu : Nat) (x1 : T_infer_ask) : Option Int :=
  spl (x1.fop = 53) (jn 1 () (fun (t : Unit) => infer_ask_out.k1 fu x1) <| jn 2 () (fun (t : Unit) => infer_ask_out.k2 fu x1) <| infer_ask_out.k2 fu x1) (chk (x1.fop = 49) <| jn 4 () (fun (t : Unit) => infer_ask_out.k4 fu x1) <| jn 5 () (fun (t : Unit) => infer_ask_out.k5 fu x1) <| infer_ask_out.k5 fu x1)
def infer_Node.L1 (fu : Nat) (x2 : T_Setting) (x3 : List T_Val) (x4 : Int) (x7 : (List (List Int)) × Int) (nx1 : (List T_Val) → Int → Option ((List T_Val) × Int)) (x12 : List T_Val) (x13 : Int) : Option ((List T_Val) × Int) :=
  if x13 < (x7.1.length : Int) then ((at? x7.1 x13).bind fun x18 => (shape_Size fu x18).bind fun x19 => if x19.2 = 0 then ((infer_ask_out fu (T_infer_ask.mk 53 x2 x3 x4)).bind fun x20 => (slices_Clone_int fu x18).bind fun x21 => chk ((x12.length + 1 : Int) * 144 ≤ 140737488355328) <| nx1 (x12 ++ ([T_Val.mk x20 x21 false (T_Tensor.mk 0 ([]) ([]) ([]) ([]))])) (wk .i64 (x13 + 1))) else some ([], 4)) else some (x12, 0)
def infer_Node.W1 (fu : Nat) (x2 : T_Setting) (x3 : List T_Val) (x4 : Int) (x7 : (List (List Int)) × Int) (x12 : List T_Val) (x13 : Int) : Option ((List T_Val) × Int) :=
  cloop (fun next s => infer_Node.L1 fu x2 x3 x4 x7 (fun x12 x13 => next (x12, x13)) s.1 s.2) fu (x12, x13)
def infer_Node.L2 (fu : Nat) (x2 : T_Setting) (x3 : List T_Val) (x4 : Int) (x24 : (List (List Int)) × Int) (nx2 : (List T_Val) → Int → Option ((List T_Val) × Int)) (x29 : List T_Val) (x30 : Int) : Option ((List T_Val) × Int) :=
  if x30 < (x24.1.length : Int) then ((at? x24.1 x30).bind fun x35 => (shape_Size fu x35).bind fun x36 => if x36.2 = 0 then ((infer_ask_out fu (T_infer_ask.mk 49 x2 x3 x4)).bind fun x37 => (slices_Clone_int fu x35).bind fun x38 => chk ((x29.length + 1 : Int) * 144 ≤ 140737488355328) <| nx2 (x29 ++ ([T_Val.mk x37 x38 false (T_Tensor.mk 0 ([]) ([]) ([]) ([]))])) (wk .i64 (x30 + 1))) else some ([], 4)) else some (x29, 0)
def infer_Node.W2 (fu : Nat) (x2 : T_Setting) (x3 : List T_Val) (x4 : Int) (x24 : (List (List Int)) × Int) (x29 : List T_Val) (x30 : Int) : Option ((List T_Val) × Int) :=
  cloop (fun next s => infer_Node.L2 fu x2 x3 x4 x24 (fun x29 x30 => next (x29, x30)) s.1 s.2) fu (x29, x30)
def infer_Node (fu : Nat) (x1 : Int) (x2 : T_Setting) (x3 : List T_Val) (x4 : Int) : Option ((List T_Val) × Int) :=
  spl (x1 = 53) ((infer_ask_complete fu (T_infer_ask.mk 53 x2 x3 x4)).bind fun x5 => if x5 = true then ((infer_ask_wrong fu (T_infer_ask.mk 53 x2 x3 x4)).bind fun x6 => if x6 = 0 then ((infer_ask_shapes fu (T_infer_ask.mk 53 x2 x3 x4)).bind fun x7 => if x7.2 = 0 then (infer_Node.W1 fu x2 x3 x4 x7 ([] : List T_Val) 0) else some ([], x7.2)) else some ([], x6)) else some ([], 1)) (chk (x1 = 49) <| (infer_ask_complete fu (T_infer_ask.mk 49 x2 x3 x4)).bind fun x22 => if x22 = true then ((infer_ask_wrong fu (T_infer_ask.mk 49 x2 x3 x4)).bind fun x23 => if x23 = 0 then ((infer_ask_shapes fu (T_infer_ask.mk 49 x2 x3 x4)).bind fun x24 => if x24.2 = 0 then (infer_Node.W2 fu x2 x3 x4 x24 ([] : List T_Val) 0) else some ([], x24.2)) else some ([], x23)) else some ([], 1))
def shape_strides.L1 (fu : Nat) (x1 : List Int) (nx1 : (List Int) → Int → Int → Option (List Int)) (x3 : List Int) (x4 : Int) (x5 : Int) : Option (List Int) :=
  if 0 ≤ x5 then (chk (0 ≤ x5 ∧ x5 < (x3.length : Int)) <| (at? x1 x5).bind fun x7 => nx1 (x3.set x5.toNat x4) (wk .i64 (x4 * x7)) (wk .i64 (x5 - 1))) else some x3
def shape_strides.W1 (fu : Nat) (x1 : List Int) (x3 : List Int) (x4 : Int) (x5 : Int) : Option (List Int) :=
  cloop (fun next s => shape_strides.L1 fu x1 (fun x3 x4 x5 => next (x3, x4, x5)) s.1 s.2.1 s.2.2) fu (x3, x4, x5)
def shape_strides (fu : Nat) (x1 : List Int) : Option (List Int) :=
  chk (0 ≤ (x1.length : Int) ∧ (x1.length : Int) * 8 ≤ 140737488355328) <| shape_strides.W1 fu x1 (List.replicate (x1.length : Int).toNat (0 : Int)) 1 (wk .i64 ((x1.length : Int) - 1))
def shape_Strides (fu : Nat) (x1 : List Int) : Option ((List Int) × Int) :=
  (shape_Size fu x1).bind fun x2 => if x2.2 = 0 then ((shape_strides fu x1).bind fun x3 => some (x3, 0)) else some ([], x2.2)
def moves_strides (fu : Nat) (x1 : List Int) : Option (List Int) :=
  (shape_Strides fu x1).bind fun x2 => some x2.1
def tens_New (fu : Nat) (x1 : Int) (x2 : List Int) : Option (T_Tensor × Int) :=
  (tens_known fu x1).bind fun x3 => if x3 = true then ((shape_Size fu x2).bind fun x4 => if x4.2 = 0 then ((slices_Clone_int fu x2).bind fun x5 => if x1 = 1 then (chk (0 ≤ x4.1 ∧ x4.1 * 4 ≤ 140737488355328) <| some (T_Tensor.mk x1 x5 (List.replicate x4.1.toNat (0 : Int)) ([]) ([]), 0)) else if x1 = 7 then (chk (0 ≤ x4.1 ∧ x4.1 * 8 ≤ 140737488355328) <| some (T_Tensor.mk x1 x5 ([]) (List.replicate x4.1.toNat (0 : Int)) ([]), 0)) else chk (0 ≤ x4.1 ∧ x4.1 * 1 ≤ 140737488355328) <| some (T_Tensor.mk x1 x5 ([]) ([]) (List.replicate x4.1.toNat (false : Bool)), 0)) else some (T_Tensor.mk 0 ([]) ([]) ([]) ([]), x4.2)) else some (T_Tensor.mk 0 ([]) ([]) ([]) ([]), 5)
def tens_Pick_1 (fu : Nat) (x1 : Int) (x2 : Int) : Option Bool :=
  if x1 < (-1) then (some true) else some (decide (x2 ≤ x1))
def tens_Pick.c3 (fu : Nat) (x5 : T_Tensor × Int) (x7 : List Int) (x8 : List Int) (x9 : List Bool) : Option (T_Tensor × Int) :=
  chk (x5.1.fB.length = x9.length) <| some (T_Tensor.mk x5.1.fType x5.1.fDims x7 x8 x9, 0)
def tens_Pick.L1 (fu : Nat) (x1 : T_Tensor) (x3 : List Int) (x5 : T_Tensor × Int) (x7 : List Int) (x8 : List Int) (nx1 : (List Bool) → Int → Option (T_Tensor × Int)) (x12 : List Bool) (x13 : Int) : Option (T_Tensor × Int) :=
  if x13 < (x3.length : Int) then ((at? x3 x13).bind fun x16 => if 0 ≤ x16 then ((at? x1.fB x16).bind fun x17 => chk (0 ≤ x13 ∧ x13 < ((x5.1.fB.length : Nat) : Int)) <| chk (0 ≤ x13 ∧ x13 < (x12.length : Int)) <| nx1 (x12.set x13.toNat x17) (wk .i64 (x13 + 1))) else nx1 x12 (wk .i64 (x13 + 1))) else tens_Pick.c3 fu x5 x7 x8 x12
def tens_Pick.W1 (fu : Nat) (x1 : T_Tensor) (x3 : List Int) (x5 : T_Tensor × Int) (x7 : List Int) (x8 : List Int) (x12 : List Bool) (x13 : Int) : Option (T_Tensor × Int) :=
  cloop (fun next s => tens_Pick.L1 fu x1 x3 x5 x7 x8 (fun x12 x13 => next (x12, x13)) s.1 s.2) fu (x12, x13)
def tens_Pick.c2 (fu : Nat) (x1 : T_Tensor) (x3 : List Int) (x5 : T_Tensor × Int) (x7 : List Int) (x8 : List Int) : Option (T_Tensor × Int) :=
  chk (x5.1.fI.length = x8.length) <| jc 3 () (fun (t : List Bool) => tens_Pick.c3 fu x5 x7 x8 t) <| if ((x5.1.fB.length : Nat) : Int) = 0 then (tens_Pick.c3 fu x5 x7 x8 x5.1.fB) else tens_Pick.W1 fu x1 x3 x5 x7 x8 x5.1.fB 0
def tens_Pick.L2 (fu : Nat) (x1 : T_Tensor) (x3 : List Int) (x5 : T_Tensor × Int) (x7 : List Int) (nx2 : (List Int) → Int → Option (T_Tensor × Int)) (x20 : List Int) (x21 : Int) : Option (T_Tensor × Int) :=
  if x21 < (x3.length : Int) then ((at? x3 x21).bind fun x24 => if 0 ≤ x24 then ((at? x1.fI x24).bind fun x25 => chk (0 ≤ x21 ∧ x21 < ((x5.1.fI.length : Nat) : Int)) <| chk (0 ≤ x21 ∧ x21 < (x20.length : Int)) <| nx2 (x20.set x21.toNat x25) (wk .i64 (x21 + 1))) else nx2 x20 (wk .i64 (x21 + 1))) else tens_Pick.c2 fu x1 x3 x5 x7 x20
def tens_Pick.W2 (fu : Nat) (x1 : T_Tensor) (x3 : List Int) (x5 : T_Tensor × Int) (x7 : List Int) (x20 : List Int) (x21 : Int) : Option (T_Tensor × Int) :=
  cloop (fun next s => tens_Pick.L2 fu x1 x3 x5 x7 (fun x20 x21 => next (x20, x21)) s.1 s.2) fu (x20, x21)
def tens_Pick.c1 (fu : Nat) (x1 : T_Tensor) (x3 : List Int) (x5 : T_Tensor × Int) (x7 : List Int) : Option (T_Tensor × Int) :=
  chk (x5.1.fF.length = x7.length) <| jc 2 () (fun (t : List Int) => tens_Pick.c2 fu x1 x3 x5 x7 t) <| if ((x5.1.fI.length : Nat) : Int) = 0 then (tens_Pick.c2 fu x1 x3 x5 x7 x5.1.fI) else tens_Pick.W2 fu x1 x3 x5 x7 x5.1.fI 0
def tens_Pick.L3 (fu : Nat) (x1 : T_Tensor) (x3 : List Int) (x5 : T_Tensor × Int) (nx3 : (List Int) → Int → Option (T_Tensor × Int)) (x28 : List Int) (x29 : Int) : Option (T_Tensor × Int) :=
  if x29 < (x3.length : Int) then ((at? x3 x29).bind fun x32 => if 0 ≤ x32 then ((at? x1.fF x32).bind fun x33 => chk (0 ≤ x29 ∧ x29 < ((x5.1.fF.length : Nat) : Int)) <| chk (0 ≤ x29 ∧ x29 < (x28.length : Int)) <| nx3 (x28.set x29.toNat x33) (wk .i64 (x29 + 1))) else nx3 x28 (wk .i64 (x29 + 1))) else tens_Pick.c1 fu x1 x3 x5 x28
def tens_Pick.W3 (fu : Nat) (x1 : T_Tensor) (x3 : List Int) (x5 : T_Tensor × Int) (x28 : List Int) (x29 : Int) : Option (T_Tensor × Int) :=
  cloop (fun next s => tens_Pick.L3 fu x1 x3 x5 (fun x28 x29 => next (x28, x29)) s.1 s.2) fu (x28, x29)
def tens_Pick (fu : Nat) (x1 : T_Tensor) (x2 : List Int) (x3 : List Int) : Option (T_Tensor × Int) :=
  (tens_Check fu x1).bind fun x4 => if x4 = 0 then ((tens_New fu x1.fType x2).bind fun x5 => if x5.2 = 0 then (if (x3.length : Int) = (wk .i64 ((wk .i64 (((x5.1.fF.length : Nat) : Int) + ((x5.1.fI.length : Nat) : Int))) + ((x5.1.fB.length : Nat) : Int))) then ((slices_ContainsFunc_int fu x3 (fun y0 => tens_Pick_1 fu y0 (wk .i64 ((wk .i64 ((x1.fF.length : Int) + (x1.fI.length : Int))) + (x1.fB.length : Int))))).bind fun x6 => if x6 = true then (some (T_Tensor.mk 0 ([]) ([]) ([]) ([]), 2)) else jc 1 () (fun (t : List Int) => tens_Pick.c1 fu x1 x3 x5 t) <| if ((x5.1.fF.length : Nat) : Int) = 0 then (tens_Pick.c1 fu x1 x3 x5 x5.1.fF) else tens_Pick.W3 fu x1 x3 x5 x5.1.fF 0) else some (T_Tensor.mk 0 ([]) ([]) ([]) ([]), 3)) else some (T_Tensor.mk 0 ([]) ([]) ([]) ([]), x5.2)) else some (T_Tensor.mk 0 ([]) ([]) ([]) ([]), x4)
def moves_picked.L2 (fu : Nat) (nx1 : (List Int) → (List Int) → Option T_Tensor) (x1 : T_Tensor) (x2 : List Int) (x17 : List Int) (x31 : Int) (nx2 : (List Int) → Int → Option T_Tensor) (x35 : List Int) (x36 : Int) : Option T_Tensor :=
  if 0 ≤ x36 then ((at? x35 x36).bind fun x40 => chk (0 ≤ x36 ∧ x36 < (x35.length : Int)) <| (at? (x35.set x36.toNat (wk .i64 (x40 + 1))) x36).bind fun x41 => (at? x2 x36).bind fun x42 => if x41 < x42 then (nx1 (x17 ++ ([x31])) (x35.set x36.toNat (wk .i64 (x40 + 1)))) else chk (0 ≤ x36 ∧ x36 < ((x35.set x36.toNat (wk .i64 (x40 + 1))).length : Int)) <| nx2 ((x35.set x36.toNat (wk .i64 (x40 + 1))).set x36.toNat 0) (wk .i64 (x36 - 1))) else (tens_Pick fu x1 x2 (x17 ++ ([x31]))).bind fun x43 => some x43.1
def moves_picked.W2 (fu : Nat) (nx1 : (List Int) → (List Int) → Option T_Tensor) (x1 : T_Tensor) (x2 : List Int) (x17 : List Int) (x31 : Int) (x35 : List Int) (x36 : Int) : Option T_Tensor :=
  cloop (fun next s => moves_picked.L2 fu nx1 x1 x2 x17 x31 (fun x35 x36 => next (x35, x36)) s.1 s.2) fu (x35, x36)
def moves_picked.L1 (fu : Nat) (p2 : (List Int) → Option Int) (x1 : T_Tensor) (x2 : List Int) (nx1 : (List Int) → (List Int) → Option T_Tensor) (x17 : List Int) (x18 : List Int) : Option T_Tensor :=
  (p2 x18).bind fun x31 => chk ((x17.length + 1 : Int) * 8 ≤ 140737488355328) <| moves_picked.W2 fu nx1 x1 x2 x17 x31 x18 (wk .i64 ((x2.length : Int) - 1))
def moves_picked.W1 (fu : Nat) (p2 : (List Int) → Option Int) (x1 : T_Tensor) (x2 : List Int) (x17 : List Int) (x18 : List Int) : Option T_Tensor :=
  cloop (fun next s => moves_picked.L1 fu p2 x1 x2 (fun x17 x18 => next (x17, x18)) s.1 s.2) fu (x17, x18)
def moves_picked (fu : Nat) (x1 : T_Tensor) (x2 : List Int) (p2 : (List Int) → Option Int) : Option T_Tensor :=
  (slices_Contains_int fu x2 0).bind fun x3 => if x3 = true then ((tens_Pick fu x1 x2 ([] : List Int)).bind fun x4 => some x4.1) else chk (0 ≤ (x2.length : Int) ∧ (x2.length : Int) * 8 ≤ 140737488355328) <| moves_picked.W1 fu p2 x1 x2 ([] : List Int) (List.replicate (x2.length : Int).toNat (0 : Int))
def moves_move_within (fu : Nat) (x1 : T_moves_move) (x2 : Int) (x3 : Int) : Option Int :=
  spl (x1.fop = 53) (if 0 ≤ x2 then (if x2 < x3 then (some x2) else if x1.fs.fMode = 3 then (some (imax 0 (imin x2 (wk .i64 (x3 - 1))))) else if x1.fs.fMode = 2 then (some (wk .i64 ((wk .i64 ((wk .i64 (2 * x3)) - 2)) - x2))) else some (-1)) else if x1.fs.fMode = 3 then (some (imax 0 (imin x2 (wk .i64 (x3 - 1))))) else if x1.fs.fMode = 2 then (some (wk .i64 (0 - x2))) else some (-1)) (chk (x1.fop = 49) <| if 0 ≤ x2 then (if x2 < x3 then (some x2) else if x1.fs.fMode = 3 then (some (imax 0 (imin x2 (wk .i64 (x3 - 1))))) else if x1.fs.fMode = 2 then (some (wk .i64 ((wk .i64 ((wk .i64 (2 * x3)) - 2)) - x2))) else some (-1)) else if x1.fs.fMode = 3 then (some (imax 0 (imin x2 (wk .i64 (x3 - 1))))) else if x1.fs.fMode = 2 then (some (wk .i64 (0 - x2))) else some (-1))
def moves_move_pad_1.L1 (fu : Nat) (x1 : List Int) (x2 : T_moves_move) (x3 : Int) (x4 : List Int) (nx1 : Int → Int → Option Int) (x11 : Int) (x12 : Int) : Option Int :=
  if x12 < (x2.fx.fDims.length : Int) then ((at? x2.fx.fDims x12).bind fun x19 => (at? x1 x12).bind fun x20 => (at? x2.fin 1).bind fun x21 => (at? x21.fI x12).bind fun x22 => (moves_move_within fu x2 (wk .i64 (x20 - x22)) x19).bind fun x23 => if x23 < 0 then (some x3) else (at? x4 x12).bind fun x24 => nx1 (wk .i64 (x11 + (wk .i64 (x23 * x24)))) (wk .i64 (x12 + 1))) else some x11
def moves_move_pad_1.W1 (fu : Nat) (x1 : List Int) (x2 : T_moves_move) (x3 : Int) (x4 : List Int) (x11 : Int) (x12 : Int) : Option Int :=
  cloop (fun next s => moves_move_pad_1.L1 fu x1 x2 x3 x4 (fun x11 x12 => next (x11, x12)) s.1 s.2) fu (x11, x12)
def moves_move_pad_1 (fu : Nat) (x1 : List Int) (x2 : T_moves_move) (x3 : Int) (x4 : List Int) : Option Int :=
  moves_move_pad_1.W1 fu x1 x2 x3 x4 0 0
def moves_move_pad.k1 (fu : Nat) (x1 : T_moves_move) (x2 : List Int) : Option T_Tensor :=
  (moves_strides fu x1.fx.fDims).bind fun x3 => (moves_picked fu x1.fx x2 (fun y0 => moves_move_pad_1 fu y0 (T_moves_move.mk 53 x1.fs x1.fin x1.fx x1.faxis) (-1) x3)).bind fun x4 => some x4
def moves_move_pad (fu : Nat) (x1 : T_moves_move) (x2 : List Int) : Option T_Tensor :=
  chk (x1.fop = 53) <| jn 1 () (fun (t : Unit) => moves_move_pad.k1 fu x1 x2) <| if 2 < (x1.fin.length : Int) then ((at? x1.fin 2).bind fun x5 => if x5.fType = 0 then (moves_move_pad.k1 fu x1 x2) else (shape_Size fu x1.fx.fDims).bind fun x6 => none) else moves_move_pad.k1 fu x1 x2
def moves_move_slice_1 (fu : Nat) (x1 : Int) : Option Int :=
  some x1
def moves_move_slice_2 (fu : Nat) (x1 : Int) : Option Int :=
  some 1
def moves_begins.k1 (fu : Nat) (x1 : Int) (x3 : Int) (x4 : Int) : Option Int :=
  if x3 < 0 then (some (imax (imin x4 (wk .i64 (x1 - 1))) (-1))) else some (imax (imin x4 x1) 0)
def moves_begins (fu : Nat) (x1 : Int) (x2 : Int) (x3 : Int) : Option Int :=
  jn 1 () (fun (t : Int) => moves_begins.k1 fu x1 x3 t) <| if x2 < 0 then (moves_begins.k1 fu x1 x3 (wk .i64 (x2 + x1))) else moves_begins.k1 fu x1 x3 x2
def moves_dot.L1 (fu : Nat) (x1 : List Int) (x2 : List Int) (nx1 : Int → Int → Option Int) (x5 : Int) (x6 : Int) : Option Int :=
  if x6 < (x2.length : Int) then ((at? x2 x6).bind fun x9 => (at? x1 x6).bind fun x10 => nx1 (wk .i64 (x5 + (wk .i64 (x10 * x9)))) (wk .i64 (x6 + 1))) else some x5
def moves_dot.W1 (fu : Nat) (x1 : List Int) (x2 : List Int) (x5 : Int) (x6 : Int) : Option Int :=
  cloop (fun next s => moves_dot.L1 fu x1 x2 (fun x5 x6 => next (x5, x6)) s.1 s.2) fu (x5, x6)
def moves_dot (fu : Nat) (x1 : List Int) (x2 : List Int) : Option Int :=
  moves_dot.W1 fu x1 x2 0 0
def moves_move_slice_3 (fu : Nat) (x1 : List Int) (x2 : Int) (x3 : List Int) : Option Int :=
  (moves_dot fu x1 x3).bind fun x4 => some (wk .i64 (x2 + x4))
def moves_move_slice.k4 (fu : Nat) (x1 : T_moves_move) (x2 : List Int) (x8 : List Int) (x9 : Int) : Option T_Tensor :=
  (moves_picked fu x1.fx x2 (fun y0 => moves_move_slice_3 fu y0 x9 x8)).bind fun x10 => some x10
def moves_move_slice.L1 (fu : Nat) (x1 : T_moves_move) (x2 : List Int) (x3 : List Int) (x4 : List Int) (x5 : List Int) (x6 : List Int) (nx1 : (List Int) → Int → Int → Option T_Tensor) (x18 : List Int) (x19 : Int) (x20 : Int) : Option T_Tensor :=
  if x20 < (x4.length : Int) then ((at? x4 x20).bind fun x28 => (shape_Axis fu x28 (x2.length : Int)).bind fun x29 => (at? x5 x20).bind fun x30 => (at? x1.fx.fDims x29.1).bind fun x31 => (at? x3 x20).bind fun x32 => (moves_begins fu x31 x32 (imax (imin x30 4097) (-4097))).bind fun x33 => (at? x6 x29.1).bind fun x34 => chk (0 ≤ x29.1 ∧ x29.1 < (x18.length : Int)) <| nx1 (x18.set x29.1.toNat (wk .i64 (x34 * (imax (imin x30 4097) (-4097))))) (wk .i64 (x19 + (wk .i64 (x33 * x34)))) (wk .i64 (x20 + 1))) else moves_move_slice.k4 fu x1 x2 x18 x19
def moves_move_slice.W1 (fu : Nat) (x1 : T_moves_move) (x2 : List Int) (x3 : List Int) (x4 : List Int) (x5 : List Int) (x6 : List Int) (x18 : List Int) (x19 : Int) (x20 : Int) : Option T_Tensor :=
  cloop (fun next s => moves_move_slice.L1 fu x1 x2 x3 x4 x5 x6 (fun x18 x19 x20 => next (x18, x19, x20)) s.1 s.2.1 s.2.2) fu (x18, x19, x20)
def moves_move_slice.c3 (fu : Nat) (x1 : T_moves_move) (x2 : List Int) (x3 : List Int) (x4 : List Int) (x5 : List Int) : Option T_Tensor :=
  (moves_strides fu x1.fx.fDims).bind fun x6 => (slices_Clone_int fu x6).bind fun x7 => jn 4 () (fun (t : (List Int) × Int) => moves_move_slice.k4 fu x1 x2 t.1 t.2) <| moves_move_slice.W1 fu x1 x2 x3 x4 x5 x6 x7 0 0
def moves_move_slice.L2 (fu : Nat) (x1 : T_moves_move) (x2 : List Int) (x3 : List Int) (x4 : List Int) (x35 : T_Tensor) (nx2 : (List Int) → Int → Option T_Tensor) (x37 : List Int) (x38 : Int) : Option T_Tensor :=
  if x38 < (x35.fI.length : Int) then ((moves_move_slice_2 fu x38).bind fun x40 => chk ((x37.length + 1 : Int) * 8 ≤ 140737488355328) <| nx2 (x37 ++ ([x40])) (wk .i64 (x38 + 1))) else moves_move_slice.c3 fu x1 x2 x3 x4 x37
def moves_move_slice.W2 (fu : Nat) (x1 : T_moves_move) (x2 : List Int) (x3 : List Int) (x4 : List Int) (x35 : T_Tensor) (x37 : List Int) (x38 : Int) : Option T_Tensor :=
  cloop (fun next s => moves_move_slice.L2 fu x1 x2 x3 x4 x35 (fun x37 x38 => next (x37, x38)) s.1 s.2) fu (x37, x38)
def moves_move_slice.k5 (fu : Nat) (x1 : T_moves_move) (x2 : List Int) (x3 : List Int) (x4 : List Int) : Option T_Tensor :=
  (at? x1.fin 1).bind fun x35 => moves_move_slice.W2 fu x1 x2 x3 x4 x35 ([] : List Int) 0
def moves_move_slice.L3 (fu : Nat) (x1 : T_moves_move) (x2 : List Int) (x3 : List Int) (x4 : List Int) (x41 : T_Tensor) (nx3 : (List Int) → Int → Option T_Tensor) (x43 : List Int) (x44 : Int) : Option T_Tensor :=
  if x44 < (x41.fI.length : Int) then ((at? x41.fI x44).bind fun x46 => chk ((x43.length + 1 : Int) * 8 ≤ 140737488355328) <| nx3 (x43 ++ ([x46])) (wk .i64 (x44 + 1))) else moves_move_slice.c3 fu x1 x2 x3 x4 x43
def moves_move_slice.W3 (fu : Nat) (x1 : T_moves_move) (x2 : List Int) (x3 : List Int) (x4 : List Int) (x41 : T_Tensor) (x43 : List Int) (x44 : Int) : Option T_Tensor :=
  cloop (fun next s => moves_move_slice.L3 fu x1 x2 x3 x4 x41 (fun x43 x44 => next (x43, x44)) s.1 s.2) fu (x43, x44)
def moves_move_slice.c2 (fu : Nat) (x1 : T_moves_move) (x2 : List Int) (x3 : List Int) (x4 : List Int) : Option T_Tensor :=
  jc 3 () (fun (t : List Int) => moves_move_slice.c3 fu x1 x2 x3 x4 t) <| jn 5 () (fun (t : Unit) => moves_move_slice.k5 fu x1 x2 x3 x4) <| if 4 < (x1.fin.length : Int) then ((at? x1.fin 4).bind fun x41 => if x41.fType = 0 then (moves_move_slice.k5 fu x1 x2 x3 x4) else moves_move_slice.W3 fu x1 x2 x3 x4 x41 ([] : List Int) 0) else moves_move_slice.k5 fu x1 x2 x3 x4
def moves_move_slice.L4 (fu : Nat) (x1 : T_moves_move) (x2 : List Int) (x3 : List Int) (x47 : T_Tensor) (nx4 : (List Int) → Int → Option T_Tensor) (x49 : List Int) (x50 : Int) : Option T_Tensor :=
  if x50 < (x47.fI.length : Int) then ((moves_move_slice_1 fu x50).bind fun x52 => chk ((x49.length + 1 : Int) * 8 ≤ 140737488355328) <| nx4 (x49 ++ ([x52])) (wk .i64 (x50 + 1))) else moves_move_slice.c2 fu x1 x2 x3 x49
def moves_move_slice.W4 (fu : Nat) (x1 : T_moves_move) (x2 : List Int) (x3 : List Int) (x47 : T_Tensor) (x49 : List Int) (x50 : Int) : Option T_Tensor :=
  cloop (fun next s => moves_move_slice.L4 fu x1 x2 x3 x47 (fun x49 x50 => next (x49, x50)) s.1 s.2) fu (x49, x50)
def moves_move_slice.k6 (fu : Nat) (x1 : T_moves_move) (x2 : List Int) (x3 : List Int) : Option T_Tensor :=
  (at? x1.fin 1).bind fun x47 => moves_move_slice.W4 fu x1 x2 x3 x47 ([] : List Int) 0
def moves_move_slice.L5 (fu : Nat) (x1 : T_moves_move) (x2 : List Int) (x3 : List Int) (x53 : T_Tensor) (nx5 : (List Int) → Int → Option T_Tensor) (x55 : List Int) (x56 : Int) : Option T_Tensor :=
  if x56 < (x53.fI.length : Int) then ((at? x53.fI x56).bind fun x58 => chk ((x55.length + 1 : Int) * 8 ≤ 140737488355328) <| nx5 (x55 ++ ([x58])) (wk .i64 (x56 + 1))) else moves_move_slice.c2 fu x1 x2 x3 x55
def moves_move_slice.W5 (fu : Nat) (x1 : T_moves_move) (x2 : List Int) (x3 : List Int) (x53 : T_Tensor) (x55 : List Int) (x56 : Int) : Option T_Tensor :=
  cloop (fun next s => moves_move_slice.L5 fu x1 x2 x3 x53 (fun x55 x56 => next (x55, x56)) s.1 s.2) fu (x55, x56)
def moves_move_slice.c1 (fu : Nat) (x1 : T_moves_move) (x2 : List Int) (x3 : List Int) : Option T_Tensor :=
  jc 2 () (fun (t : List Int) => moves_move_slice.c2 fu x1 x2 x3 t) <| jn 6 () (fun (t : Unit) => moves_move_slice.k6 fu x1 x2 x3) <| if 3 < (x1.fin.length : Int) then ((at? x1.fin 3).bind fun x53 => if x53.fType = 0 then (moves_move_slice.k6 fu x1 x2 x3) else moves_move_slice.W5 fu x1 x2 x3 x53 ([] : List Int) 0) else moves_move_slice.k6 fu x1 x2 x3
def moves_move_slice.L6 (fu : Nat) (x1 : T_moves_move) (x2 : List Int) (x59 : T_Tensor) (nx6 : Unit → Option T_Tensor) : Option T_Tensor :=
  if 0 < (x59.fI.length : Int) then (none) else moves_move_slice.c1 fu x1 x2 ([] : List Int)
def moves_move_slice.W6 (fu : Nat) (x1 : T_moves_move) (x2 : List Int) (x59 : T_Tensor) : Option T_Tensor :=
  cloop (fun next s => moves_move_slice.L6 fu x1 x2 x59 next) fu ()
def moves_move_slice.k7 (fu : Nat) (x1 : T_moves_move) (x2 : List Int) : Option T_Tensor :=
  (at? x1.fin 1).bind fun x59 => moves_move_slice.W6 fu x1 x2 x59
def moves_move_slice.L7 (fu : Nat) (x1 : T_moves_move) (x2 : List Int) (x60 : T_Tensor) (nx7 : (List Int) → Int → Option T_Tensor) (x62 : List Int) (x63 : Int) : Option T_Tensor :=
  if x63 < (x60.fI.length : Int) then ((at? x60.fI x63).bind fun x65 => chk ((x62.length + 1 : Int) * 8 ≤ 140737488355328) <| nx7 (x62 ++ ([x65])) (wk .i64 (x63 + 1))) else moves_move_slice.c1 fu x1 x2 x62
def moves_move_slice.W7 (fu : Nat) (x1 : T_moves_move) (x2 : List Int) (x60 : T_Tensor) (x62 : List Int) (x63 : Int) : Option T_Tensor :=
  cloop (fun next s => moves_move_slice.L7 fu x1 x2 x60 (fun x62 x63 => next (x62, x63)) s.1 s.2) fu (x62, x63)
def moves_move_slice (fu : Nat) (x1 : T_moves_move) (x2 : List Int) : Option T_Tensor :=
  chk (x1.fop = 49) <| jc 1 () (fun (t : List Int) => moves_move_slice.c1 fu x1 x2 t) <| jn 7 () (fun (t : Unit) => moves_move_slice.k7 fu x1 x2) <| if 1 < (x1.fin.length : Int) then ((at? x1.fin 1).bind fun x60 => if x60.fType = 0 then (moves_move_slice.k7 fu x1 x2) else moves_move_slice.W7 fu x1 x2 x60 ([] : List Int) 0) else moves_move_slice.k7 fu x1 x2
def moves_move_one (fu : Nat) (x1 : T_moves_move) (x2 : List Int) (x3 : List Int) : Option T_Tensor :=
  spl (x1.fop = 53) ((moves_move_pad fu (T_moves_move.mk 53 x1.fs x1.fin x1.fx x1.faxis) x2).bind fun x4 => some x4) (chk (x1.fop = 49) <| (moves_move_slice fu (T_moves_move.mk 49 x1.fs x1.fin x1.fx x1.faxis) x2).bind fun x5 => some x5)
def moves_Do.k2 (fu : Nat) (x2 : T_Setting) (x6 : List T_Tensor) (x8 : (List T_Val) × Int) (x9 : T_Tensor) (x10 : Int × Int) : Option ((List T_Tensor) × Int) :=
  (at? x8.1 0).bind fun x11 => (moves_move_one fu (T_moves_move.mk 53 x2 x6 x9 x10.1) x11.fDims ([])).bind fun x12 => some ([x12], 0)
def moves_Do.k1 (fu : Nat) (x2 : T_Setting) (x3 : List T_Tensor) (x4 : Int) (x6 : List T_Tensor) : Option ((List T_Tensor) × Int) :=
  (ewise_Vals fu x3).bind fun x7 => (infer_Node fu 53 x2 x7 x4).bind fun x8 => if x8.2 = 0 then ((at? x6 0).bind fun x9 => (shape_Axis fu x2.fAxis (x9.fDims.length : Int)).bind fun x10 => jn 2 () (fun (t : Unit) => moves_Do.k2 fu x2 x6 x8 x9 x10) <| moves_Do.k2 fu x2 x6 x8 x9 x10) else some ([], x8.2)
def moves_Do.L1 (fu : Nat) (x2 : T_Setting) (x3 : List T_Tensor) (x4 : Int) (nx1 : (List T_Tensor) → Int → Option ((List T_Tensor) × Int)) (x17 : List T_Tensor) (x18 : Int) : Option ((List T_Tensor) × Int) :=
  if x18 < (x3.length : Int) then ((at? x3 x18).bind fun x23 => if x23.fType = 0 then ((tens_Canon fu x23).bind fun x24 => chk ((x17.length + 1 : Int) * 104 ≤ 140737488355328) <| nx1 (x17 ++ ([x24])) (wk .i64 (x18 + 1))) else (tens_Check fu x23).bind fun x25 => if x25 = 0 then ((tens_Canon fu x23).bind fun x26 => chk ((x17.length + 1 : Int) * 104 ≤ 140737488355328) <| nx1 (x17 ++ ([x26])) (wk .i64 (x18 + 1))) else some ([], x25)) else moves_Do.k1 fu x2 x3 x4 x17
def moves_Do.W1 (fu : Nat) (x2 : T_Setting) (x3 : List T_Tensor) (x4 : Int) (x17 : List T_Tensor) (x18 : Int) : Option ((List T_Tensor) × Int) :=
  cloop (fun next s => moves_Do.L1 fu x2 x3 x4 (fun x17 x18 => next (x17, x18)) s.1 s.2) fu (x17, x18)
def moves_Do.k4 (fu : Nat) (x2 : T_Setting) (x28 : List T_Tensor) (x30 : (List T_Val) × Int) (x31 : T_Tensor) (x32 : Int × Int) : Option ((List T_Tensor) × Int) :=
  (at? x30.1 0).bind fun x33 => (moves_move_one fu (T_moves_move.mk 49 x2 x28 x31 x32.1) x33.fDims ([])).bind fun x34 => some ([x34], 0)
def moves_Do.k3 (fu : Nat) (x2 : T_Setting) (x3 : List T_Tensor) (x4 : Int) (x28 : List T_Tensor) : Option ((List T_Tensor) × Int) :=
  (ewise_Vals fu x3).bind fun x29 => (infer_Node fu 49 x2 x29 x4).bind fun x30 => if x30.2 = 0 then ((at? x28 0).bind fun x31 => (shape_Axis fu x2.fAxis (x31.fDims.length : Int)).bind fun x32 => jn 4 () (fun (t : Unit) => moves_Do.k4 fu x2 x28 x30 x31 x32) <| moves_Do.k4 fu x2 x28 x30 x31 x32) else some ([], x30.2)
def moves_Do.L2 (fu : Nat) (x2 : T_Setting) (x3 : List T_Tensor) (x4 : Int) (nx2 : (List T_Tensor) → Int → Option ((List T_Tensor) × Int)) (x39 : List T_Tensor) (x40 : Int) : Option ((List T_Tensor) × Int) :=
  if x40 < (x3.length : Int) then ((at? x3 x40).bind fun x45 => if x45.fType = 0 then ((tens_Canon fu x45).bind fun x46 => chk ((x39.length + 1 : Int) * 104 ≤ 140737488355328) <| nx2 (x39 ++ ([x46])) (wk .i64 (x40 + 1))) else (tens_Check fu x45).bind fun x47 => if x47 = 0 then ((tens_Canon fu x45).bind fun x48 => chk ((x39.length + 1 : Int) * 104 ≤ 140737488355328) <| nx2 (x39 ++ ([x48])) (wk .i64 (x40 + 1))) else some ([], x47)) else moves_Do.k3 fu x2 x3 x4 x39
def moves_Do.W2 (fu : Nat) (x2 : T_Setting) (x3 : List T_Tensor) (x4 : Int) (x39 : List T_Tensor) (x40 : Int) : Option ((List T_Tensor) × Int) :=
  cloop (fun next s => moves_Do.L2 fu x2 x3 x4 (fun x39 x40 => next (x39, x40)) s.1 s.2) fu (x39, x40)
def moves_Do (fu : Nat) (x1 : Int) (x2 : T_Setting) (x3 : List T_Tensor) (x4 : Int) : Option ((List T_Tensor) × Int) :=
  spl (x1 = 53) ((moves_Has fu 53).bind fun x5 => if x5 = true then (jn 1 () (fun (t : List T_Tensor) => moves_Do.k1 fu x2 x3 x4 t) <| moves_Do.W1 fu x2 x3 x4 ([] : List T_Tensor) 0) else some ([], 1)) (chk (x1 = 49) <| (moves_Has fu 49).bind fun x27 => if x27 = true then (jn 3 () (fun (t : List T_Tensor) => moves_Do.k3 fu x2 x3 x4 t) <| moves_Do.W2 fu x2 x3 x4 ([] : List T_Tensor) 0) else some ([], 1))
def ref05_Copy (fu : Nat) (x1 : T_Tensor) : Option T_Tensor :=
  chk ((x1.fDims.length : Int) * 8 ≤ 140737488355328) <| chk ((x1.fF.length : Int) * 4 ≤ 140737488355328) <| chk ((x1.fI.length : Int) * 8 ≤ 140737488355328) <| chk ((x1.fB.length : Int) * 1 ≤ 140737488355328) <| some x1
def ref01_Abs (fu : Nat) (x1 : Int) : Option Int :=
  some (Int.tmod x1 2147483648)
def ref01_IsNone (fu : Nat) (x1 : Int) : Option Bool :=
  (ref01_Abs fu x1).bind fun x2 => some (decide (2139095040 < x2))
def ref01_Canon (fu : Nat) (x1 : Int) : Option Int :=
  (ref01_IsNone fu x1).bind fun x2 => if x2 = true then (some 2143289344) else some x1
def ref05_Canon.L1 (fu : Nat) (x2 : T_Tensor) (nx1 : (List Int) → Int → Option T_Tensor) (x5 : List Int) (x6 : Int) : Option T_Tensor :=
  if x6 < (x5.length : Int) then ((at? x5 x6).bind fun x9 => (ref01_Canon fu x9).bind fun x10 => chk (0 ≤ x6 ∧ x6 < (x5.length : Int)) <| nx1 (x5.set x6.toNat x10) (wk .i64 (x6 + 1))) else some (T_Tensor.mk x2.fType x2.fDims x5 x2.fI x2.fB)
def ref05_Canon.W1 (fu : Nat) (x2 : T_Tensor) (x5 : List Int) (x6 : Int) : Option T_Tensor :=
  cloop (fun next s => ref05_Canon.L1 fu x2 (fun x5 x6 => next (x5, x6)) s.1 s.2) fu (x5, x6)
def ref05_Canon (fu : Nat) (x1 : T_Tensor) : Option T_Tensor :=
  (ref05_Copy fu x1).bind fun x2 => ref05_Canon.W1 fu x2 x2.fF 0
def ref04_SameInts.L1 (fu : Nat) (x1 : List Int) (x2 : List Int) (nx1 : Int → Option Bool) (x5 : Int) : Option Bool :=
  if x5 < (x1.length : Int) then ((at? x1 x5).bind fun x8 => (at? x2 x5).bind fun x9 => if x8 = x9 then (nx1 (wk .i64 (x5 + 1))) else some false) else some true
def ref04_SameInts.W1 (fu : Nat) (x1 : List Int) (x2 : List Int) (x5 : Int) : Option Bool :=
  cloop (fun next s => ref04_SameInts.L1 fu x1 x2 next s) fu x5
def ref04_SameInts (fu : Nat) (x1 : List Int) (x2 : List Int) : Option Bool :=
  if (x1.length : Int) = (x2.length : Int) then (ref04_SameInts.W1 fu x1 x2 0) else some false
def ref05_Same.L1 (fu : Nat) (x1 : T_Tensor) (x2 : T_Tensor) (nx1 : Int → Option Bool) (x5 : Int) : Option Bool :=
  if x5 < (x1.fB.length : Int) then ((at? x1.fB x5).bind fun x8 => (at? x2.fB x5).bind fun x9 => if (x8 == x9) = true then (nx1 (wk .i64 (x5 + 1))) else some false) else some true
def ref05_Same.W1 (fu : Nat) (x1 : T_Tensor) (x2 : T_Tensor) (x5 : Int) : Option Bool :=
  cloop (fun next s => ref05_Same.L1 fu x1 x2 next s) fu x5
def ref05_Same.k3 (fu : Nat) (x1 : T_Tensor) (x2 : T_Tensor) : Option Bool :=
  ref05_Same.W1 fu x1 x2 0
def ref05_Same.L2 (fu : Nat) (x1 : T_Tensor) (x2 : T_Tensor) (nx2 : Int → Option Bool) (x12 : Int) : Option Bool :=
  if x12 < (x1.fI.length : Int) then ((at? x1.fI x12).bind fun x15 => (at? x2.fI x12).bind fun x16 => if x15 = x16 then (nx2 (wk .i64 (x12 + 1))) else some false) else ref05_Same.k3 fu x1 x2
def ref05_Same.W2 (fu : Nat) (x1 : T_Tensor) (x2 : T_Tensor) (x12 : Int) : Option Bool :=
  cloop (fun next s => ref05_Same.L2 fu x1 x2 next s) fu x12
def ref05_Same.k2 (fu : Nat) (x1 : T_Tensor) (x2 : T_Tensor) : Option Bool :=
  jn 3 () (fun (t : Unit) => ref05_Same.k3 fu x1 x2) <| ref05_Same.W2 fu x1 x2 0
def ref05_Same.L3 (fu : Nat) (x1 : T_Tensor) (x2 : T_Tensor) (nx3 : Int → Option Bool) (x19 : Int) : Option Bool :=
  if x19 < (x1.fF.length : Int) then ((at? x1.fF x19).bind fun x22 => (at? x2.fF x19).bind fun x23 => if x22 = x23 then (nx3 (wk .i64 (x19 + 1))) else some false) else ref05_Same.k2 fu x1 x2
def ref05_Same.W3 (fu : Nat) (x1 : T_Tensor) (x2 : T_Tensor) (x19 : Int) : Option Bool :=
  cloop (fun next s => ref05_Same.L3 fu x1 x2 next s) fu x19
def ref05_Same.k1 (fu : Nat) (x1 : T_Tensor) (x2 : T_Tensor) : Option Bool :=
  jn 2 () (fun (t : Unit) => ref05_Same.k2 fu x1 x2) <| ref05_Same.W3 fu x1 x2 0
def ref05_Same (fu : Nat) (x1 : T_Tensor) (x2 : T_Tensor) : Option Bool :=
  jn 1 () (fun (t : Unit) => ref05_Same.k1 fu x1 x2) <| if x1.fType = x2.fType then ((ref04_SameInts fu x1.fDims x2.fDims).bind fun x24 => if x24 = true then (if (x1.fF.length : Int) = (x2.fF.length : Int) then (if (x1.fI.length : Int) = (x2.fI.length : Int) then (if (x1.fB.length : Int) = (x2.fB.length : Int) then (ref05_Same.k1 fu x1 x2) else some false) else some false) else some false) else some false) else some false
def law12_MovesPadded.k2 (fu : Nat) (x1 : T_Tensor) (x5 : (List T_Tensor) × Int) (x6 : List Int) (x7 : List Int) (x8 : List Int) (x9 : List Int) : Option Bool :=
  (at? x5.1 0).bind fun x10 => (law12_list fu x8).bind fun x11 => (law12_list fu x9).bind fun x12 => (moves_Do fu 49 (T_Setting.mk 0 ([]) false false false false false ([]) false 0 0 0 false false false 0 0 false false 0 ([]) ([]) ([]) ([]) 0 false false 0 0 0 false (T_Tensor.mk 0 ([]) ([]) ([]) ([]))) ([x10, x11, x12]) 1).bind fun x13 => if x13.2 = 0 then (if (x13.1.length : Int) = 1 then ((at? x13.1 0).bind fun x14 => (ref05_Canon fu x1).bind fun x15 => (ref05_Same fu x14 x15).bind fun x16 => some x16) else some false) else some false
def law12_MovesPadded.L1 (fu : Nat) (x1 : T_Tensor) (x2 : List Int) (x5 : (List T_Tensor) × Int) (nx1 : (List Int) → (List Int) → Int → Option Bool) (x19 : List Int) (x20 : List Int) (x21 : Int) : Option Bool :=
  if x21 < (x1.fDims.length : Int) then ((at? x2 x21).bind fun x24 => chk ((x19.length + 1 : Int) * 8 ≤ 140737488355328) <| (at? x1.fDims x21).bind fun x25 => chk ((x20.length + 1 : Int) * 8 ≤ 140737488355328) <| nx1 (x19 ++ ([x24])) (x20 ++ ([wk .i64 (x24 + x25)])) (wk .i64 (x21 + 1))) else law12_MovesPadded.k2 fu x1 x5 x19 x20 x19 x20
def law12_MovesPadded.W1 (fu : Nat) (x1 : T_Tensor) (x2 : List Int) (x5 : (List T_Tensor) × Int) (x19 : List Int) (x20 : List Int) (x21 : Int) : Option Bool :=
  cloop (fun next s => law12_MovesPadded.L1 fu x1 x2 x5 (fun x19 x20 x21 => next (x19, x20, x21)) s.1 s.2.1 s.2.2) fu (x19, x20, x21)
def law12_MovesPadded.k1 (fu : Nat) (x1 : T_Tensor) (x2 : List Int) (x5 : (List T_Tensor) × Int) : Option Bool :=
  jn 2 () (fun (t : (List Int) × (List Int) × (List Int) × (List Int)) => law12_MovesPadded.k2 fu x1 x5 t.1 t.2.1 t.2.2.1 t.2.2.2) <| law12_MovesPadded.W1 fu x1 x2 x5 ([] : List Int) ([] : List Int) 0
def law12_MovesPadded.k3 (fu : Nat) (x5 : (List T_Tensor) × Int) : Option Bool :=
  some (decide ((x5.1.length : Int) = 0))
def law12_MovesPadded (fu : Nat) (x1 : T_Tensor) (x2 : List Int) (x3 : Int) : Option Bool :=
  (law12_list fu x2).bind fun x4 => (moves_Do fu 53 (T_Setting.mk 0 ([]) false false false false false ([]) false 0 0 0 false false false 0 (wk .i64 ((wk .i64 (1 + (band .i64 x3 1))) + (band .i64 (shrk .i64 x3 1) 1))) false false 0 ([]) ([]) ([]) ([]) 0 false false 0 0 0 false (T_Tensor.mk 0 ([]) ([]) ([]) ([]))) ([x1, x4]) 1).bind fun x5 => if x5.2 = 0 then (jn 1 () (fun (t : Unit) => law12_MovesPadded.k1 fu x1 x2 x5) <| if (x5.1.length : Int) = 1 then (if (x2.length : Int) < (x1.fDims.length : Int) then (some false) else law12_MovesPadded.k1 fu x1 x2 x5) else some false) else jn 3 x5 (fun (t : Unit) => law12_MovesPadded.k3 fu x5) <| law12_MovesPadded.k3 fu x5
end Go.Av
