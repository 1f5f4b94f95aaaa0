/- Plain functions, as the program has them; data of structs. Made by a program of mine. Conditions: none. -/
import Derived.Test.YtebfneaimafcoaaGreatAy
set_option linter.unusedVariables false
namespace Go.Av
structure T_Tensor where
  fType : Int
  fDims : List Int
  fF : List Int
  fI : List Int
  fB : List Bool
def c_T_Tensor (x : T_Tensor) : List AV := [.v (.int .i64 x.fType), .arr x.fDims.length (lm (ik .i64) x.fDims), .arr x.fF.length (lm (ik .u32) x.fF), .arr x.fI.length (lm (ik .i64) x.fI), .arr x.fB.length (lm (bk) x.fB)]
theorem c_T_Tensor_len : ∀ x, (c_T_Tensor x).length = 5 := fun _ => rfl
theorem c_T_Tensor_one : ∀ x, (c_T_Tensor x).all AV.one = true := fun _ => rfl
structure T_Setting where
  fAxis : Int
  fAxes : List Int
  fHasAxes : Bool
  fKeep : Bool
  fNoop : Bool
  fLast : Bool
  fZero : Bool
  fPerm : List Int
  fHasPerm : Bool
  fAlpha : Int
  fBeta : Int
  fEpsilon : Int
  fLow : Bool
  fHigh : Bool
  fFmod : Bool
  fTo : Int
  fMode : Int
  fTransA : Bool
  fTransB : Bool
  fGroup : Int
  fKernel : List Int
  fStrides : List Int
  fPads : List Int
  fDilations : List Int
  fAuto : Int
  fCeil : Bool
  fCount : Bool
  fBlock : Int
  fStart : Int
  fEnd : Int
  fHasEnd : Bool
  fValue : T_Tensor
def c_T_Setting (x : T_Setting) : List AV := [.v (.int .i64 x.fAxis), .arr x.fAxes.length (lm (ik .i64) x.fAxes), .v (.bool x.fHasAxes), .v (.bool x.fKeep), .v (.bool x.fNoop), .v (.bool x.fLast), .v (.bool x.fZero), .arr x.fPerm.length (lm (ik .i64) x.fPerm), .v (.bool x.fHasPerm), .v (.int .u32 x.fAlpha), .v (.int .u32 x.fBeta), .v (.int .u32 x.fEpsilon), .v (.bool x.fLow), .v (.bool x.fHigh), .v (.bool x.fFmod), .v (.int .i64 x.fTo), .v (.int .i64 x.fMode), .v (.bool x.fTransA), .v (.bool x.fTransB), .v (.int .i64 x.fGroup), .arr x.fKernel.length (lm (ik .i64) x.fKernel), .arr x.fStrides.length (lm (ik .i64) x.fStrides), .arr x.fPads.length (lm (ik .i64) x.fPads), .arr x.fDilations.length (lm (ik .i64) x.fDilations), .v (.int .i64 x.fAuto), .v (.bool x.fCeil), .v (.bool x.fCount), .v (.int .i64 x.fBlock), .v (.int .i64 x.fStart), .v (.int .i64 x.fEnd), .v (.bool x.fHasEnd), .v (.int .i64 x.fValue.fType), .arr x.fValue.fDims.length (lm (ik .i64) x.fValue.fDims), .arr x.fValue.fF.length (lm (ik .u32) x.fValue.fF), .arr x.fValue.fI.length (lm (ik .i64) x.fValue.fI), .arr x.fValue.fB.length (lm (bk) x.fValue.fB)]
theorem c_T_Setting_len : ∀ x, (c_T_Setting x).length = 36 := fun _ => rfl
theorem c_T_Setting_one : ∀ x, (c_T_Setting x).all AV.one = true := fun _ => rfl
structure T_Val where
  fType : Int
  fDims : List Int
  fConst : Bool
  fT : T_Tensor
def c_T_Val (x : T_Val) : List AV := [.v (.int .i64 x.fType), .arr x.fDims.length (lm (ik .i64) x.fDims), .v (.bool x.fConst), .v (.int .i64 x.fT.fType), .arr x.fT.fDims.length (lm (ik .i64) x.fT.fDims), .arr x.fT.fF.length (lm (ik .u32) x.fT.fF), .arr x.fT.fI.length (lm (ik .i64) x.fT.fI), .arr x.fT.fB.length (lm (bk) x.fT.fB)]
theorem c_T_Val_len : ∀ x, (c_T_Val x).length = 8 := fun _ => rfl
theorem c_T_Val_one : ∀ x, (c_T_Val x).all AV.one = true := fun _ => rfl
structure T_infer_ask where
  fop : Int
  fs : T_Setting
  fin : List T_Val
  fouts : Int
def c_T_infer_ask (x : T_infer_ask) : List AV := [.v (.int .i64 x.fop), .v (.int .i64 x.fs.fAxis), .arr x.fs.fAxes.length (lm (ik .i64) x.fs.fAxes), .v (.bool x.fs.fHasAxes), .v (.bool x.fs.fKeep), .v (.bool x.fs.fNoop), .v (.bool x.fs.fLast), .v (.bool x.fs.fZero), .arr x.fs.fPerm.length (lm (ik .i64) x.fs.fPerm), .v (.bool x.fs.fHasPerm), .v (.int .u32 x.fs.fAlpha), .v (.int .u32 x.fs.fBeta), .v (.int .u32 x.fs.fEpsilon), .v (.bool x.fs.fLow), .v (.bool x.fs.fHigh), .v (.bool x.fs.fFmod), .v (.int .i64 x.fs.fTo), .v (.int .i64 x.fs.fMode), .v (.bool x.fs.fTransA), .v (.bool x.fs.fTransB), .v (.int .i64 x.fs.fGroup), .arr x.fs.fKernel.length (lm (ik .i64) x.fs.fKernel), .arr x.fs.fStrides.length (lm (ik .i64) x.fs.fStrides), .arr x.fs.fPads.length (lm (ik .i64) x.fs.fPads), .arr x.fs.fDilations.length (lm (ik .i64) x.fs.fDilations), .v (.int .i64 x.fs.fAuto), .v (.bool x.fs.fCeil), .v (.bool x.fs.fCount), .v (.int .i64 x.fs.fBlock), .v (.int .i64 x.fs.fStart), .v (.int .i64 x.fs.fEnd), .v (.bool x.fs.fHasEnd), .v (.int .i64 x.fs.fValue.fType), .arr x.fs.fValue.fDims.length (lm (ik .i64) x.fs.fValue.fDims), .arr x.fs.fValue.fF.length (lm (ik .u32) x.fs.fValue.fF), .arr x.fs.fValue.fI.length (lm (ik .i64) x.fs.fValue.fI), .arr x.fs.fValue.fB.length (lm (bk) x.fs.fValue.fB), .arr x.fin.length (fm c_T_Val x.fin), .v (.int .i64 x.fouts)]
theorem c_T_infer_ask_len : ∀ x, (c_T_infer_ask x).length = 39 := fun _ => rfl
theorem c_T_infer_ask_one : ∀ x, (c_T_infer_ask x).all AV.one = true := fun _ => rfl
structure T_reduce_work where
  fop : Int
  fs : T_Setting
  fin : List T_Tensor
  fx : T_Tensor
  fout : T_Tensor
def c_T_reduce_work (x : T_reduce_work) : List AV := [.v (.int .i64 x.fop), .v (.int .i64 x.fs.fAxis), .arr x.fs.fAxes.length (lm (ik .i64) x.fs.fAxes), .v (.bool x.fs.fHasAxes), .v (.bool x.fs.fKeep), .v (.bool x.fs.fNoop), .v (.bool x.fs.fLast), .v (.bool x.fs.fZero), .arr x.fs.fPerm.length (lm (ik .i64) x.fs.fPerm), .v (.bool x.fs.fHasPerm), .v (.int .u32 x.fs.fAlpha), .v (.int .u32 x.fs.fBeta), .v (.int .u32 x.fs.fEpsilon), .v (.bool x.fs.fLow), .v (.bool x.fs.fHigh), .v (.bool x.fs.fFmod), .v (.int .i64 x.fs.fTo), .v (.int .i64 x.fs.fMode), .v (.bool x.fs.fTransA), .v (.bool x.fs.fTransB), .v (.int .i64 x.fs.fGroup), .arr x.fs.fKernel.length (lm (ik .i64) x.fs.fKernel), .arr x.fs.fStrides.length (lm (ik .i64) x.fs.fStrides), .arr x.fs.fPads.length (lm (ik .i64) x.fs.fPads), .arr x.fs.fDilations.length (lm (ik .i64) x.fs.fDilations), .v (.int .i64 x.fs.fAuto), .v (.bool x.fs.fCeil), .v (.bool x.fs.fCount), .v (.int .i64 x.fs.fBlock), .v (.int .i64 x.fs.fStart), .v (.int .i64 x.fs.fEnd), .v (.bool x.fs.fHasEnd), .v (.int .i64 x.fs.fValue.fType), .arr x.fs.fValue.fDims.length (lm (ik .i64) x.fs.fValue.fDims), .arr x.fs.fValue.fF.length (lm (ik .u32) x.fs.fValue.fF), .arr x.fs.fValue.fI.length (lm (ik .i64) x.fs.fValue.fI), .arr x.fs.fValue.fB.length (lm (bk) x.fs.fValue.fB), .arr x.fin.length (fm c_T_Tensor x.fin), .v (.int .i64 x.fx.fType), .arr x.fx.fDims.length (lm (ik .i64) x.fx.fDims), .arr x.fx.fF.length (lm (ik .u32) x.fx.fF), .arr x.fx.fI.length (lm (ik .i64) x.fx.fI), .arr x.fx.fB.length (lm (bk) x.fx.fB), .v (.int .i64 x.fout.fType), .arr x.fout.fDims.length (lm (ik .i64) x.fout.fDims), .arr x.fout.fF.length (lm (ik .u32) x.fout.fF), .arr x.fout.fI.length (lm (ik .i64) x.fout.fI), .arr x.fout.fB.length (lm (bk) x.fout.fB)]
theorem c_T_reduce_work_len : ∀ x, (c_T_reduce_work x).length = 48 := fun _ => rfl
theorem c_T_reduce_work_one : ∀ x, (c_T_reduce_work x).all AV.one = true := fun _ => rfl
def ref05_Known (fu : Nat) (x1 : Int) : Option Bool :=
  if x1 = 1 then (some true) else if x1 = 7 then (some true) else some (decide (x1 = 9))
def ref04_Size.k2 (fu : Nat) (nx1 : Int → Int → Option (Int × Int)) (x1 : List Int) (x6 : Int) (x7 : Int) : Option (Int × Int) :=
  (at? x1 x7).bind fun x10 => nx1 (wk .i64 (x6 * x10)) (wk .i64 (x7 + 1))
def ref04_Size.L1 (fu : Nat) (x1 : List Int) (nx1 : Int → Int → Option (Int × Int)) (x6 : Int) (x7 : Int) : Option (Int × Int) :=
  if x7 < (x1.length : Int) then (jn 2 () (fun (t : Unit) => ref04_Size.k2 fu nx1 x1 x6 x7) <| (at? x1 x7).bind fun x11 => if 4096 < x11 then (some (0, 4)) else if 4096 < (wk .i64 (x6 * x11)) then (some (0, 4)) else ref04_Size.k2 fu nx1 x1 x6 x7) else some (x6, 0)
def ref04_Size.W1 (fu : Nat) (x1 : List Int) (x6 : Int) (x7 : Int) : Option (Int × Int) :=
  cloop (fun next s => ref04_Size.L1 fu x1 (fun x6 x7 => next (x6, x7)) s.1 s.2) fu (x6, x7)
def ref04_Size.k1 (fu : Nat) (x1 : List Int) (x2 : Bool) (x3 : Bool) : Option (Int × Int) :=
  if x3 = true then (some (0, 4)) else if x2 = true then (some (0, 0)) else ref04_Size.W1 fu x1 1 0
def ref04_Size.k3 (fu : Nat) (nx2 : Bool → Bool → Int → Option (Int × Int)) (x14 : Bool) (x15 : Int) (x18 : Int) (x19 : Bool) : Option (Int × Int) :=
  if x14 = true then (nx2 x19 true (wk .i64 (x15 + 1))) else nx2 x19 (decide (4096 < x18)) (wk .i64 (x15 + 1))
def ref04_Size.L2 (fu : Nat) (x1 : List Int) (nx2 : Bool → Bool → Int → Option (Int × Int)) (x13 : Bool) (x14 : Bool) (x15 : Int) : Option (Int × Int) :=
  if x15 < (x1.length : Int) then ((at? x1 x15).bind fun x18 => if x18 < 0 then (some (0, 1)) else jn 3 () (fun (t : Bool) => ref04_Size.k3 fu nx2 x14 x15 x18 t) <| if x13 = true then (ref04_Size.k3 fu nx2 x14 x15 x18 true) else ref04_Size.k3 fu nx2 x14 x15 x18 (decide (x18 = 0))) else ref04_Size.k1 fu x1 x13 x14
def ref04_Size.W2 (fu : Nat) (x1 : List Int) (x13 : Bool) (x14 : Bool) (x15 : Int) : Option (Int × Int) :=
  cloop (fun next s => ref04_Size.L2 fu x1 (fun x13 x14 x15 => next (x13, x14, x15)) s.1 s.2.1 s.2.2) fu (x13, x14, x15)
def ref04_Size (fu : Nat) (x1 : List Int) : Option (Int × Int) :=
  jn 1 () (fun (t : Bool × Bool) => ref04_Size.k1 fu x1 t.1 t.2) <| ref04_Size.W2 fu x1 false (decide (8 < (x1.length : Int))) 0
def ref05_Check.k1 (fu : Nat) (x1 : T_Tensor) (x4 : Int) (x5 : Int) (x6 : Int) : Option Int :=
  if (x1.fF.length : Int) = x4 then (if (x1.fI.length : Int) = x5 then (if (x1.fB.length : Int) = x6 then (some 0) else some 3) else some 3) else some 3
def ref05_Check (fu : Nat) (x1 : T_Tensor) : Option Int :=
  (ref05_Known fu x1.fType).bind fun x2 => if x2 = true then ((ref04_Size fu x1.fDims).bind fun x3 => if x3.2 = 0 then (jn 1 () (fun (t : Int × Int × Int) => ref05_Check.k1 fu x1 t.1 t.2.1 t.2.2) <| if x1.fType = 1 then (ref05_Check.k1 fu x1 x3.1 0 0) else if x1.fType = 7 then (ref05_Check.k1 fu x1 0 x3.1 0) else ref05_Check.k1 fu x1 0 0 x3.1) else some x3.2) else some 5
def ref05_Copy (fu : Nat) (x1 : T_Tensor) : Option T_Tensor :=
  chk ((x1.fDims.length : Int) * 8 ≤ 140737488355328) <| chk ((x1.fF.length : Int) * 4 ≤ 140737488355328) <| chk ((x1.fI.length : Int) * 8 ≤ 140737488355328) <| chk ((x1.fB.length : Int) * 1 ≤ 140737488355328) <| some x1
def reduce_Has (fu : Nat) (x1 : Int) : Option Bool :=
  chk (x1 = 70) <| some true
def tens_Width (fu : Nat) (x1 : Int) : Option Int :=
  if x1 = 1 then (some 4) else if x1 = 7 then (some 8) else if x1 = 9 then (some 1) else some 0
def tens_known (fu : Nat) (x1 : Int) : Option Bool :=
  (tens_Width fu x1).bind fun x2 => some (decide (0 < x2))
def slices_IndexFunc_int.L1 (fu : Nat) (p1 : Int → Option Bool) (x1 : List Int) (nx1 : Int → Option Int) (x4 : Int) : Option Int :=
  if x4 < (x1.length : Int) then ((at? x1 x4).bind fun x7 => (p1 x7).bind fun x8 => if x8 = true then (some x4) else nx1 (wk .i64 (x4 + 1))) else some (-1)
def slices_IndexFunc_int.W1 (fu : Nat) (p1 : Int → Option Bool) (x1 : List Int) (x4 : Int) : Option Int :=
  cloop (fun next s => slices_IndexFunc_int.L1 fu p1 x1 next s) fu x4
def slices_IndexFunc_int (fu : Nat) (x1 : List Int) (p1 : Int → Option Bool) : Option Int :=
  slices_IndexFunc_int.W1 fu p1 x1 0
def slices_ContainsFunc_int (fu : Nat) (x1 : List Int) (p1 : Int → Option Bool) : Option Bool :=
  (slices_IndexFunc_int fu x1 p1).bind fun x2 => some (decide (0 ≤ x2))
def shape_Size_1 (fu : Nat) (x1 : Int) : Option Bool :=
  some (decide (x1 < 0))
def shape_Size_2 (fu : Nat) (x1 : Int) : Option Bool :=
  some (decide (4096 < x1))
def slices_Index_int.L1 (fu : Nat) (x1 : List Int) (x2 : Int) (nx1 : Int → Option Int) (x4 : Int) : Option Int :=
  if x4 < (x1.length : Int) then ((at? x1 x4).bind fun x6 => if x2 = x6 then (some x4) else nx1 (wk .i64 (x4 + 1))) else some (-1)
def slices_Index_int.W1 (fu : Nat) (x1 : List Int) (x2 : Int) (x4 : Int) : Option Int :=
  cloop (fun next s => slices_Index_int.L1 fu x1 x2 next s) fu x4
def slices_Index_int (fu : Nat) (x1 : List Int) (x2 : Int) : Option Int :=
  slices_Index_int.W1 fu x1 x2 0
def slices_Contains_int (fu : Nat) (x1 : List Int) (x2 : Int) : Option Bool :=
  (slices_Index_int fu x1 x2).bind fun x3 => some (decide (0 ≤ x3))
def shape_Size.L1 (fu : Nat) (x1 : List Int) (nx1 : Int → Int → Option (Int × Int)) (x5 : Int) (x6 : Int) : Option (Int × Int) :=
  if x6 < (x1.length : Int) then ((at? x1 x6).bind fun x8 => chk (x5 ≠ 0) <| if (wk .i64 (Int.tdiv 4096 x5)) < x8 then (some (0, 4)) else nx1 (wk .i64 (x5 * x8)) (wk .i64 (x6 + 1))) else some (x5, 0)
def shape_Size.W1 (fu : Nat) (x1 : List Int) (x5 : Int) (x6 : Int) : Option (Int × Int) :=
  cloop (fun next s => shape_Size.L1 fu x1 (fun x5 x6 => next (x5, x6)) s.1 s.2) fu (x5, x6)
def shape_Size.k1 (fu : Nat) (x1 : List Int) : Option (Int × Int) :=
  (slices_Contains_int fu x1 0).bind fun x3 => if x3 = true then (some (0, 0)) else shape_Size.W1 fu x1 1 0
def shape_Size (fu : Nat) (x1 : List Int) : Option (Int × Int) :=
  (slices_ContainsFunc_int fu x1 (fun y0 => shape_Size_1 fu y0)).bind fun x2 => if x2 = true then (some (0, 1)) else jn 1 () (fun (t : Unit) => shape_Size.k1 fu x1) <| if 8 < (x1.length : Int) then (some (0, 4)) else (slices_ContainsFunc_int fu x1 (fun y0 => shape_Size_2 fu y0)).bind fun x9 => if x9 = true then (some (0, 4)) else shape_Size.k1 fu x1
def tens_Check.k1 (fu : Nat) (x1 : T_Tensor) (x3 : Int × Int) (x4 : Int) : Option Int :=
  if x4 = x3.1 then (if (wk .i64 ((wk .i64 ((x1.fF.length : Int) + (x1.fI.length : Int))) + (x1.fB.length : Int))) = x3.1 then (some 0) else some 3) else some 3
def tens_Check (fu : Nat) (x1 : T_Tensor) : Option Int :=
  (tens_known fu x1.fType).bind fun x2 => if x2 = true then ((shape_Size fu x1.fDims).bind fun x3 => if x3.2 = 0 then (jn 1 () (fun (t : Int) => tens_Check.k1 fu x1 x3 t) <| if x1.fType = 7 then (tens_Check.k1 fu x1 x3 (x1.fI.length : Int)) else if x1.fType = 9 then (tens_Check.k1 fu x1 x3 (x1.fB.length : Int)) else tens_Check.k1 fu x1 x3 (x1.fF.length : Int)) else some x3.2) else some 5
def tens_own_int (fu : Nat) (x1 : List Int) : Option (List Int) :=
  chk ((x1.length : Int) * 8 ≤ 140737488355328) <| some x1
def tens_own_uint32 (fu : Nat) (x1 : List Int) : Option (List Int) :=
  chk ((x1.length : Int) * 4 ≤ 140737488355328) <| some x1
def tens_own_int64 (fu : Nat) (x1 : List Int) : Option (List Int) :=
  chk ((x1.length : Int) * 8 ≤ 140737488355328) <| some x1
def tens_own_bool (fu : Nat) (x1 : List Bool) : Option (List Bool) :=
  chk ((x1.length : Int) * 1 ≤ 140737488355328) <| some x1
def tens_Copy (fu : Nat) (x1 : T_Tensor) : Option T_Tensor :=
  (tens_own_int fu x1.fDims).bind fun x2 => (tens_own_uint32 fu x1.fF).bind fun x3 => (tens_own_int64 fu x1.fI).bind fun x4 => (tens_own_bool fu x1.fB).bind fun x5 => some (T_Tensor.mk x1.fType x2 x3 x4 x5)
def soft_Abs (fu : Nat) (x1 : Int) : Option Int :=
  some (bandn .u32 x1 2147483648)
def soft_NaN (fu : Nat) (x1 : Int) : Option Bool :=
  (soft_Abs fu x1).bind fun x2 => some (decide (2139095040 < x2))
def soft_Canon (fu : Nat) (x1 : Int) : Option Int :=
  (soft_NaN fu x1).bind fun x2 => if x2 = true then (some 2143289344) else some x1
def tens_Canon.L1 (fu : Nat) (x2 : T_Tensor) (nx1 : (List Int) → Int → Option T_Tensor) (x5 : List Int) (x6 : Int) : Option T_Tensor :=
  if x6 < ((x2.fF.length : Nat) : Int) then ((at? x5 x6).bind fun x9 => (soft_Canon fu x9).bind fun x10 => chk (0 ≤ x6 ∧ x6 < (x5.length : Int)) <| nx1 (x5.set x6.toNat x10) (wk .i64 (x6 + 1))) else some (T_Tensor.mk x2.fType x2.fDims x5 x2.fI x2.fB)
def tens_Canon.W1 (fu : Nat) (x2 : T_Tensor) (x5 : List Int) (x6 : Int) : Option T_Tensor :=
  cloop (fun next s => tens_Canon.L1 fu x2 (fun x5 x6 => next (x5, x6)) s.1 s.2) fu (x5, x6)
def tens_Canon (fu : Nat) (x1 : T_Tensor) : Option T_Tensor :=
  (tens_Copy fu x1).bind fun x2 => tens_Canon.W1 fu x2 x2.fF 0
def slices_Clone_int (fu : Nat) (x1 : List Int) : Option (List Int) :=
  chk ((x1.length : Int) * 8 ≤ 140737488355328) <| some x1
def ewise_Vals.L1 (fu : Nat) (x1 : List T_Tensor) (nx1 : (List T_Val) → Int → Option (List T_Val)) (x5 : List T_Val) (x6 : Int) : Option (List T_Val) :=
  if x6 < (x1.length : Int) then ((at? x1 x6).bind fun x10 => if x10.fType = 0 then (chk ((x5.length + 1 : Int) * 144 ≤ 140737488355328) <| nx1 (x5 ++ ([T_Val.mk 0 ([]) false (T_Tensor.mk 0 ([]) ([]) ([]) ([]))])) (wk .i64 (x6 + 1))) else (slices_Clone_int fu x10.fDims).bind fun x11 => (tens_Copy fu x10).bind fun x12 => chk ((x5.length + 1 : Int) * 144 ≤ 140737488355328) <| nx1 (x5 ++ ([T_Val.mk x10.fType x11 true x12])) (wk .i64 (x6 + 1))) else some x5
def ewise_Vals.W1 (fu : Nat) (x1 : List T_Tensor) (x5 : List T_Val) (x6 : Int) : Option (List T_Val) :=
  cloop (fun next s => ewise_Vals.L1 fu x1 (fun x5 x6 => next (x5, x6)) s.1 s.2) fu (x5, x6)
def ewise_Vals (fu : Nat) (x1 : List T_Tensor) : Option (List T_Val) :=
  ewise_Vals.W1 fu x1 ([] : List T_Val) 0
def ops_Arity (fu : Nat) (x1 : Int) : Option (Int × Int × Int × Int) :=
  chk (x1 = 70) <| some (1, 1, 1, 1)
def infer_ask_val (fu : Nat) (x1 : T_infer_ask) (x2 : Int) : Option T_Val :=
  chk (x1.fop = 70) <| if x2 < (x1.fin.length : Int) then ((at? x1.fin x2).bind fun x3 => some x3) else some (T_Val.mk 0 ([]) false (T_Tensor.mk 0 ([]) ([]) ([]) ([])))
def infer_ask_has (fu : Nat) (x1 : T_infer_ask) (x2 : Int) : Option Bool :=
  chk (x1.fop = 70) <| (infer_ask_val fu (T_infer_ask.mk 70 x1.fs x1.fin x1.fouts) x2).bind fun x3 => some (!(decide (x3.fType = 0)))
def infer_ask_complete.L1 (fu : Nat) (x1 : T_infer_ask) (x2 : Int × Int × Int × Int) (nx1 : Int → Option Bool) (x4 : Int) : Option Bool :=
  if x4 < x2.1 then ((infer_ask_has fu (T_infer_ask.mk 70 x1.fs x1.fin x1.fouts) x4).bind fun x6 => if x6 = true then (nx1 (wk .i64 (x4 + 1))) else some false) else some true
def infer_ask_complete.W1 (fu : Nat) (x1 : T_infer_ask) (x2 : Int × Int × Int × Int) (x4 : Int) : Option Bool :=
  cloop (fun next s => infer_ask_complete.L1 fu x1 x2 next s) fu x4
def infer_ask_complete.k1 (fu : Nat) (x1 : T_infer_ask) (x2 : Int × Int × Int × Int) : Option Bool :=
  infer_ask_complete.W1 fu x1 x2 0
def infer_ask_complete (fu : Nat) (x1 : T_infer_ask) : Option Bool :=
  chk (x1.fop = 70) <| (ops_Arity fu 70).bind fun x2 => jn 1 () (fun (t : Unit) => infer_ask_complete.k1 fu x1 x2) <| if x2.2.2.1 = 0 then (some false) else if (x1.fin.length : Int) < x2.1 then (some false) else if x2.2.1 < (x1.fin.length : Int) then (some false) else if x1.fouts < x2.2.2.1 then (some false) else if x2.2.2.2 < x1.fouts then (some false) else infer_ask_complete.k1 fu x1 x2
def infer_sorts.k1 (fu : Nat) : Option ByteArray :=
  some (⟨#[110]⟩ : ByteArray)
def infer_sorts (fu : Nat) (x1 : Int) : Option ByteArray :=
  chk (x1 = 70) <| jn 1 () (fun (t : Unit) => infer_sorts.k1 fu) <| infer_sorts.k1 fu
def infer_ask_fits.k1 (fu : Nat) (x5 : Bool) : Option Bool :=
  some x5
def infer_ask_fits (fu : Nat) (x1 : T_infer_ask) (x2 : Int) (x3 : Int) : Option Bool :=
  chk (x1.fop = 70) <| (infer_ask_val fu (T_infer_ask.mk 70 x1.fs x1.fin x1.fouts) x2).bind fun x4 => if x3 = 110 then (jn 1 () (fun (t : Bool) => infer_ask_fits.k1 fu t) <| if x4.fType = 1 then (infer_ask_fits.k1 fu true) else infer_ask_fits.k1 fu (decide (x4.fType = 7))) else if x3 = 102 then (some (decide (x4.fType = 1))) else if x3 = 98 then (some (decide (x4.fType = 9))) else if x3 = 105 then (some (decide (x4.fType = 7))) else if x3 = 61 then ((infer_ask_val fu (T_infer_ask.mk 70 x1.fs x1.fin x1.fouts) 0).bind fun x6 => some (decide (x4.fType = x6.fType))) else if x3 = 43 then ((infer_ask_val fu (T_infer_ask.mk 70 x1.fs x1.fin x1.fouts) (wk .i64 (x2 - 1))).bind fun x7 => some (decide (x4.fType = x7.fType))) else (tens_Width fu x4.fType).bind fun x8 => some (decide (0 < x8))
def infer_ask_typed.k1 (fu : Nat) : Option Bool :=
  some true
def infer_ask_typed.L1 (fu : Nat) (x1 : T_infer_ask) (x2 : ByteArray) (nx1 : Int → Option Bool) (x8 : Int) : Option Bool :=
  if x8 < (x1.fin.length : Int) then ((infer_ask_has fu (T_infer_ask.mk 70 x1.fs x1.fin x1.fouts) x8).bind fun x14 => if x14 = true then ((infer_ask_val fu (T_infer_ask.mk 70 x1.fs x1.fin x1.fouts) x8).bind fun x15 => (tens_Width fu x15.fType).bind fun x16 => if x16 = 0 then (some false) else (sat? x2 (imin x8 (wk .i64 ((x2.size : Int) - 1)))).bind fun x17 => (infer_ask_fits fu (T_infer_ask.mk 70 x1.fs x1.fin x1.fouts) x8 x17).bind fun x18 => if x18 = true then (nx1 (wk .i64 (x8 + 1))) else some false) else nx1 (wk .i64 (x8 + 1))) else infer_ask_typed.k1 fu
def infer_ask_typed.W1 (fu : Nat) (x1 : T_infer_ask) (x2 : ByteArray) (x8 : Int) : Option Bool :=
  cloop (fun next s => infer_ask_typed.L1 fu x1 x2 next s) fu x8
def infer_ask_typed (fu : Nat) (x1 : T_infer_ask) : Option Bool :=
  chk (x1.fop = 70) <| (infer_sorts fu 70).bind fun x2 => jn 1 () (fun (t : Unit) => infer_ask_typed.k1 fu) <| infer_ask_typed.W1 fu x1 x2 0
def infer_ask_dims (fu : Nat) (x1 : T_infer_ask) (x2 : Int) : Option (List Int) :=
  chk (x1.fop = 70) <| (infer_ask_val fu (T_infer_ask.mk 70 x1.fs x1.fin x1.fouts) x2).bind fun x3 => some x3.fDims
def infer_ask_rank (fu : Nat) (x1 : T_infer_ask) : Option Int :=
  chk (x1.fop = 70) <| (infer_ask_dims fu (T_infer_ask.mk 70 x1.fs x1.fin x1.fouts) 0).bind fun x2 => some (x2.length : Int)
def shape_Axis (fu : Nat) (x1 : Int) (x2 : Int) : Option (Int × Int) :=
  if x2 < 0 then (some (0, 2)) else if 0 ≤ x1 then (if x1 < x2 then (some (x1, 0)) else some (0, 2)) else if (wk .i64 (0 - x2)) ≤ x1 then (some (wk .i64 (x2 + x1), 0)) else some (0, 2)
def infer_ask_attributes.k1 (fu : Nat) (x1 : T_infer_ask) (x2 : Int) : Option Bool :=
  (shape_Axis fu x1.fs.fAxis x2).bind fun x3 => some (decide (x3.2 = 0))
def infer_ask_attributes (fu : Nat) (x1 : T_infer_ask) : Option Bool :=
  chk (x1.fop = 70) <| (infer_ask_rank fu (T_infer_ask.mk 70 x1.fs x1.fin x1.fouts)).bind fun x2 => jn 1 () (fun (t : Unit) => infer_ask_attributes.k1 fu x1 x2) <| infer_ask_attributes.k1 fu x1 x2
def infer_ask_lists.k1 (fu : Nat) : Option (List T_Val) :=
  some ([])
def infer_ask_lists (fu : Nat) (x1 : T_infer_ask) : Option (List T_Val) :=
  chk (x1.fop = 70) <| jn 1 () (fun (t : Unit) => infer_ask_lists.k1 fu) <| infer_ask_lists.k1 fu
def slices_IndexFunc_api_Val_api_Val.L1 (fu : Nat) (p1 : T_Val → Option Bool) (x1 : List T_Val) (nx1 : Int → Option Int) (x4 : Int) : Option Int :=
  if x4 < (x1.length : Int) then ((at? x1 x4).bind fun x7 => (p1 x7).bind fun x8 => if x8 = true then (some x4) else nx1 (wk .i64 (x4 + 1))) else some (-1)
def slices_IndexFunc_api_Val_api_Val.W1 (fu : Nat) (p1 : T_Val → Option Bool) (x1 : List T_Val) (x4 : Int) : Option Int :=
  cloop (fun next s => slices_IndexFunc_api_Val_api_Val.L1 fu p1 x1 next s) fu x4
def slices_IndexFunc_api_Val_api_Val (fu : Nat) (x1 : List T_Val) (p1 : T_Val → Option Bool) : Option Int :=
  slices_IndexFunc_api_Val_api_Val.W1 fu p1 x1 0
def slices_ContainsFunc_api_Val_api_Val (fu : Nat) (x1 : List T_Val) (p1 : T_Val → Option Bool) : Option Bool :=
  (slices_IndexFunc_api_Val_api_Val fu x1 p1).bind fun x2 => some (decide (0 ≤ x2))
def slices_Equal_int.L1 (fu : Nat) (x1 : List Int) (x2 : List Int) (nx1 : Int → Option Bool) (x5 : Int) : Option Bool :=
  if x5 < (x1.length : Int) then ((at? x1 x5).bind fun x8 => (at? x2 x5).bind fun x9 => if x8 = x9 then (nx1 (wk .i64 (x5 + 1))) else some false) else some true
def slices_Equal_int.W1 (fu : Nat) (x1 : List Int) (x2 : List Int) (x5 : Int) : Option Bool :=
  cloop (fun next s => slices_Equal_int.L1 fu x1 x2 next s) fu x5
def slices_Equal_int (fu : Nat) (x1 : List Int) (x2 : List Int) : Option Bool :=
  if (x1.length : Int) = (x2.length : Int) then (slices_Equal_int.W1 fu x1 x2 0) else some false
def infer_held (fu : Nat) (x1 : T_Val) : Option Bool :=
  if x1.fConst = true then ((tens_Check fu x1.fT).bind fun x2 => if x2 = 0 then (if x1.fT.fType = x1.fType then ((slices_Equal_int fu x1.fT.fDims x1.fDims).bind fun x3 => some x3) else some false) else some false) else some false
def infer_ask_told_1 (fu : Nat) (x1 : T_Val) : Option Bool :=
  (infer_held fu x1).bind fun x2 => some (!x2)
def infer_ask_told_2 (fu : Nat) (x1 : T_Val) : Option Bool :=
  some (!(decide ((x1.fDims.length : Int) = 1)))
def slices_IndexFunc_int64.L1 (fu : Nat) (p1 : Int → Option Bool) (x1 : List Int) (nx1 : Int → Option Int) (x4 : Int) : Option Int :=
  if x4 < (x1.length : Int) then ((at? x1 x4).bind fun x7 => (p1 x7).bind fun x8 => if x8 = true then (some x4) else nx1 (wk .i64 (x4 + 1))) else some (-1)
def slices_IndexFunc_int64.W1 (fu : Nat) (p1 : Int → Option Bool) (x1 : List Int) (x4 : Int) : Option Int :=
  cloop (fun next s => slices_IndexFunc_int64.L1 fu p1 x1 next s) fu x4
def slices_IndexFunc_int64 (fu : Nat) (x1 : List Int) (p1 : Int → Option Bool) : Option Int :=
  slices_IndexFunc_int64.W1 fu p1 x1 0
def slices_ContainsFunc_int64 (fu : Nat) (x1 : List Int) (p1 : Int → Option Bool) : Option Bool :=
  (slices_IndexFunc_int64 fu x1 p1).bind fun x2 => some (decide (0 ≤ x2))
def infer_ask_told_3_1 (fu : Nat) (x1 : Int) : Option Bool :=
  some (decide (4096 < x1))
def infer_ask_told_3 (fu : Nat) (x1 : T_Val) : Option Bool :=
  (slices_ContainsFunc_int64 fu x1.fT.fI (fun y0 => infer_ask_told_3_1 fu y0)).bind fun x2 => some x2
def infer_ask_told (fu : Nat) (x1 : T_infer_ask) : Option Int :=
  chk (x1.fop = 70) <| (infer_ask_lists fu (T_infer_ask.mk 70 x1.fs x1.fin x1.fouts)).bind fun x2 => (slices_ContainsFunc_api_Val_api_Val fu x2 (fun y0 => infer_ask_told_1 fu y0)).bind fun x3 => if x3 = true then (some 15) else (slices_ContainsFunc_api_Val_api_Val fu x2 (fun y0 => infer_ask_told_2 fu y0)).bind fun x4 => if x4 = true then (some 3) else (slices_ContainsFunc_api_Val_api_Val fu x2 (fun y0 => infer_ask_told_3 fu y0)).bind fun x5 => if x5 = true then (some 4) else some 0
def infer_ask_wrong.k1 (fu : Nat) (x1 : T_infer_ask) : Option Int :=
  (infer_ask_typed fu (T_infer_ask.mk 70 x1.fs x1.fin x1.fouts)).bind fun x2 => if x2 = true then ((infer_ask_attributes fu (T_infer_ask.mk 70 x1.fs x1.fin x1.fouts)).bind fun x3 => if x3 = true then ((infer_ask_told fu (T_infer_ask.mk 70 x1.fs x1.fin x1.fouts)).bind fun x4 => some x4) else some 14) else some 5
def infer_ask_wrong.L1 (fu : Nat) (x1 : T_infer_ask) (nx1 : Int → Option Int) (x8 : Int) : Option Int :=
  if x8 < (x1.fin.length : Int) then ((at? x1.fin x8).bind fun x12 => (shape_Size fu x12.fDims).bind fun x13 => (infer_ask_has fu (T_infer_ask.mk 70 x1.fs x1.fin x1.fouts) x8).bind fun x14 => if x14 = true then (if x13.2 = 0 then (nx1 (wk .i64 (x8 + 1))) else some 4) else nx1 (wk .i64 (x8 + 1))) else infer_ask_wrong.k1 fu x1
def infer_ask_wrong.W1 (fu : Nat) (x1 : T_infer_ask) (x8 : Int) : Option Int :=
  cloop (fun next s => infer_ask_wrong.L1 fu x1 next s) fu x8
def infer_ask_wrong (fu : Nat) (x1 : T_infer_ask) : Option Int :=
  chk (x1.fop = 70) <| jn 1 () (fun (t : Unit) => infer_ask_wrong.k1 fu x1) <| infer_ask_wrong.W1 fu x1 0
def shape_Axes.k2 (fu : Nat) (x3 : List Bool) (x4 : Bool) : Option ((List Bool) × Int) :=
  if x4 = true then (some ([], 1)) else some (x3, 0)
def shape_Axes.L1 (fu : Nat) (x1 : List Int) (x2 : Int) (nx1 : (List Bool) → Bool → Int → Option ((List Bool) × Int)) (x8 : List Bool) (x9 : Bool) (x10 : Int) : Option ((List Bool) × Int) :=
  if x10 < (x1.length : Int) then ((at? x1 x10).bind fun x14 => (shape_Axis fu x14 x2).bind fun x15 => if x15.2 = 0 then (if x9 = true then (chk (0 ≤ x15.1 ∧ x15.1 < (x8.length : Int)) <| nx1 (x8.set x15.1.toNat true) true (wk .i64 (x10 + 1))) else (at? x8 x15.1).bind fun x16 => chk (0 ≤ x15.1 ∧ x15.1 < (x8.length : Int)) <| nx1 (x8.set x15.1.toNat true) x16 (wk .i64 (x10 + 1))) else some ([], x15.2)) else shape_Axes.k2 fu x8 x9
def shape_Axes.W1 (fu : Nat) (x1 : List Int) (x2 : Int) (x8 : List Bool) (x9 : Bool) (x10 : Int) : Option ((List Bool) × Int) :=
  cloop (fun next s => shape_Axes.L1 fu x1 x2 (fun x8 x9 x10 => next (x8, x9, x10)) s.1 s.2.1 s.2.2) fu (x8, x9, x10)
def shape_Axes.k1 (fu : Nat) (x1 : List Int) (x2 : Int) : Option ((List Bool) × Int) :=
  chk (0 ≤ x2 ∧ x2 * 1 ≤ 140737488355328) <| jn 2 () (fun (t : (List Bool) × Bool) => shape_Axes.k2 fu t.1 t.2) <| shape_Axes.W1 fu x1 x2 (List.replicate x2.toNat (false : Bool)) false 0
def shape_Axes (fu : Nat) (x1 : List Int) (x2 : Int) : Option ((List Bool) × Int) :=
  jn 1 () (fun (t : Unit) => shape_Axes.k1 fu x1 x2) <| if x2 < 0 then (some ([], 1)) else if 8 < x2 then (some ([], 1)) else shape_Axes.k1 fu x1 x2
def infer_ask_over.k1 (fu : Nat) (x1 : T_infer_ask) : Option ((List Bool) × Int) :=
  (infer_ask_rank fu (T_infer_ask.mk 70 x1.fs x1.fin x1.fouts)).bind fun x2 => (shape_Axes fu ([x1.fs.fAxis]) x2).bind fun x3 => some (x3.1, x3.2)
def infer_ask_over (fu : Nat) (x1 : T_infer_ask) : Option ((List Bool) × Int) :=
  chk (x1.fop = 70) <| jn 1 x1 (fun (t : Unit) => infer_ask_over.k1 fu x1) <| infer_ask_over.k1 fu x1
def infer_misfit (fu : Nat) : Option ((List (List Int)) × Int) :=
  some ([], 3)
def infer_one (fu : Nat) (x1 : List Int) : Option ((List (List Int)) × Int) :=
  some ([x1], 0)
def infer_ask_reduced.k1 (fu : Nat) (x3 : Bool) (x4 : List Int) : Option ((List (List Int)) × Int) :=
  (infer_one fu x4).bind fun x5 => some (x5.1, x5.2)
def infer_ask_reduced.L1 (fu : Nat) (x2 : (List Bool) × Int) (x6 : List Int) (nx1 : Bool → (List Int) → Int → Option ((List (List Int)) × Int)) (x10 : Bool) (x11 : List Int) (x12 : Int) : Option ((List (List Int)) × Int) :=
  if x12 < (x6.length : Int) then ((at? x6 x12).bind fun x16 => (at? x2.1 x12).bind fun x17 => if x17 = true then (if x16 = 0 then ((infer_misfit fu).bind fun x18 => some (x18.1, x18.2)) else if x10 = true then (chk ((x11.length + 1 : Int) * 8 ≤ 140737488355328) <| nx1 true (x11 ++ ([1])) (wk .i64 (x12 + 1))) else nx1 false x11 (wk .i64 (x12 + 1))) else chk ((x11.length + 1 : Int) * 8 ≤ 140737488355328) <| nx1 x10 (x11 ++ ([x16])) (wk .i64 (x12 + 1))) else infer_ask_reduced.k1 fu x10 x11
def infer_ask_reduced.W1 (fu : Nat) (x2 : (List Bool) × Int) (x6 : List Int) (x10 : Bool) (x11 : List Int) (x12 : Int) : Option ((List (List Int)) × Int) :=
  cloop (fun next s => infer_ask_reduced.L1 fu x2 x6 (fun x10 x11 x12 => next (x10, x11, x12)) s.1 s.2.1 s.2.2) fu (x10, x11, x12)
def infer_ask_reduced (fu : Nat) (x1 : T_infer_ask) : Option ((List (List Int)) × Int) :=
  chk (x1.fop = 70) <| (infer_ask_over fu (T_infer_ask.mk 70 x1.fs x1.fin x1.fouts)).bind fun x2 => if x2.2 = 0 then (jn 1 () (fun (t : Bool × (List Int)) => infer_ask_reduced.k1 fu t.1 t.2) <| (infer_ask_dims fu (T_infer_ask.mk 70 x1.fs x1.fin x1.fouts) 0).bind fun x6 => infer_ask_reduced.W1 fu x2 x6 x1.fs.fKeep ([] : List Int) 0) else (infer_misfit fu).bind fun x19 => some (x19.1, x19.2)
def infer_ask_shapes.k3 (fu : Nat) (x1 : T_infer_ask) : Option ((List (List Int)) × Int) :=
  (infer_ask_reduced fu (T_infer_ask.mk 70 x1.fs x1.fin x1.fouts)).bind fun x3 => some (x3.1, x3.2)
def infer_ask_shapes.k2 (fu : Nat) (x1 : T_infer_ask) : Option ((List (List Int)) × Int) :=
  jn 3 () (fun (t : Unit) => infer_ask_shapes.k3 fu x1) <| infer_ask_shapes.k3 fu x1
def infer_ask_shapes.k1 (fu : Nat) (x1 : T_infer_ask) : Option ((List (List Int)) × Int) :=
  jn 2 () (fun (t : Unit) => infer_ask_shapes.k2 fu x1) <| infer_ask_shapes.k2 fu x1
def infer_ask_shapes (fu : Nat) (x1 : T_infer_ask) : Option ((List (List Int)) × Int) :=
  chk (x1.fop = 70) <| (infer_ask_dims fu (T_infer_ask.mk 70 x1.fs x1.fin x1.fouts) 0).bind fun x2 => jn 1 () (fun (t : Unit) => infer_ask_shapes.k1 fu x1) <| infer_ask_shapes.k1 fu x1
def infer_ask_out.k2 (fu : Nat) : Option Int :=
  some 7
def infer_ask_out.k1 (fu : Nat) : Option Int :=
  jn 2 () (fun (t : Unit) => infer_ask_out.k2 fu) <| infer_ask_out.k2 fu
def infer_ask_out (fu : Nat) (x1 : T_infer_ask) : Option Int :=
  chk (x1.fop = 70) <| jn 1 () (fun (t : Unit) => infer_ask_out.k1 fu) <| infer_ask_out.k1 fu
def infer_Node.L1 (fu : Nat) (x2 : T_Setting) (x3 : List T_Val) (x4 : Int) (x7 : (List (List Int)) × Int) (nx1 : (List T_Val) → Int → Option ((List T_Val) × Int)) (x12 : List T_Val) (x13 : Int) : Option ((List T_Val) × Int) :=
  if x13 < (x7.1.length : Int) then ((at? x7.1 x13).bind fun x18 => (shape_Size fu x18).bind fun x19 => if x19.2 = 0 then ((infer_ask_out fu (T_infer_ask.mk 70 x2 x3 x4)).bind fun x20 => (slices_Clone_int fu x18).bind fun x21 => chk ((x12.length + 1 : Int) * 144 ≤ 140737488355328) <| nx1 (x12 ++ ([T_Val.mk x20 x21 false (T_Tensor.mk 0 ([]) ([]) ([]) ([]))])) (wk .i64 (x13 + 1))) else some ([], 4)) else some (x12, 0)
def infer_Node.W1 (fu : Nat) (x2 : T_Setting) (x3 : List T_Val) (x4 : Int) (x7 : (List (List Int)) × Int) (x12 : List T_Val) (x13 : Int) : Option ((List T_Val) × Int) :=
  cloop (fun next s => infer_Node.L1 fu x2 x3 x4 x7 (fun x12 x13 => next (x12, x13)) s.1 s.2) fu (x12, x13)
def infer_Node (fu : Nat) (x1 : Int) (x2 : T_Setting) (x3 : List T_Val) (x4 : Int) : Option ((List T_Val) × Int) :=
  chk (x1 = 70) <| (infer_ask_complete fu (T_infer_ask.mk 70 x2 x3 x4)).bind fun x5 => if x5 = true then ((infer_ask_wrong fu (T_infer_ask.mk 70 x2 x3 x4)).bind fun x6 => if x6 = 0 then ((infer_ask_shapes fu (T_infer_ask.mk 70 x2 x3 x4)).bind fun x7 => if x7.2 = 0 then (infer_Node.W1 fu x2 x3 x4 x7 ([] : List T_Val) 0) else some ([], x7.2)) else some ([], x6)) else some ([], 1)
def tens_New (fu : Nat) (x1 : Int) (x2 : List Int) : Option (T_Tensor × Int) :=
  (tens_known fu x1).bind fun x3 => if x3 = true then ((shape_Size fu x2).bind fun x4 => if x4.2 = 0 then ((slices_Clone_int fu x2).bind fun x5 => if x1 = 1 then (chk (0 ≤ x4.1 ∧ x4.1 * 4 ≤ 140737488355328) <| some (T_Tensor.mk x1 x5 (List.replicate x4.1.toNat (0 : Int)) ([]) ([]), 0)) else if x1 = 7 then (chk (0 ≤ x4.1 ∧ x4.1 * 8 ≤ 140737488355328) <| some (T_Tensor.mk x1 x5 ([]) (List.replicate x4.1.toNat (0 : Int)) ([]), 0)) else chk (0 ≤ x4.1 ∧ x4.1 * 1 ≤ 140737488355328) <| some (T_Tensor.mk x1 x5 ([]) ([]) (List.replicate x4.1.toNat (false : Bool)), 0)) else some (T_Tensor.mk 0 ([]) ([]) ([]) ([]), x4.2)) else some (T_Tensor.mk 0 ([]) ([]) ([]) ([]), 5)
def reduce_work_over.k1 (fu : Nat) (x1 : T_reduce_work) : Option (List Bool) :=
  (shape_Axes fu ([x1.fs.fAxis]) (x1.fx.fDims.length : Int)).bind fun x2 => some x2.1
def reduce_work_over (fu : Nat) (x1 : T_reduce_work) : Option (List Bool) :=
  chk (x1.fop = 70) <| jn 1 x1 (fun (t : Unit) => reduce_work_over.k1 fu x1) <| reduce_work_over.k1 fu x1
def shape_strides.L1 (fu : Nat) (x1 : List Int) (nx1 : (List Int) → Int → Int → Option (List Int)) (x3 : List Int) (x4 : Int) (x5 : Int) : Option (List Int) :=
  if 0 ≤ x5 then (chk (0 ≤ x5 ∧ x5 < (x3.length : Int)) <| (at? x1 x5).bind fun x7 => nx1 (x3.set x5.toNat x4) (wk .i64 (x4 * x7)) (wk .i64 (x5 - 1))) else some x3
def shape_strides.W1 (fu : Nat) (x1 : List Int) (x3 : List Int) (x4 : Int) (x5 : Int) : Option (List Int) :=
  cloop (fun next s => shape_strides.L1 fu x1 (fun x3 x4 x5 => next (x3, x4, x5)) s.1 s.2.1 s.2.2) fu (x3, x4, x5)
def shape_strides (fu : Nat) (x1 : List Int) : Option (List Int) :=
  chk (0 ≤ (x1.length : Int) ∧ (x1.length : Int) * 8 ≤ 140737488355328) <| shape_strides.W1 fu x1 (List.replicate (x1.length : Int).toNat (0 : Int)) 1 (wk .i64 ((x1.length : Int) - 1))
def shape_Strides (fu : Nat) (x1 : List Int) : Option ((List Int) × Int) :=
  (shape_Size fu x1).bind fun x2 => if x2.2 = 0 then ((shape_strides fu x1).bind fun x3 => some (x3, 0)) else some ([], x2.2)
def reduce_places.L3 (fu : Nat) (nx2 : (List Int) → Int → Option (List Int)) (x2 : List Int) (x25 : Int) (x47 : Int) (x55 : Int) (x62 : Int) (nx3 : (List Int) → Int → Option (List Int)) (x64 : List Int) (x65 : Int) : Option (List Int) :=
  if x65 < x47 then ((at? x2 x25).bind fun x67 => chk ((x64.length + 1 : Int) * 8 ≤ 140737488355328) <| nx3 (x64 ++ ([wk .i64 (x62 + (wk .i64 (x65 * x67)))])) (wk .i64 (x65 + 1))) else nx2 x64 (wk .i64 (x55 + 1))
def reduce_places.W3 (fu : Nat) (nx2 : (List Int) → Int → Option (List Int)) (x2 : List Int) (x25 : Int) (x47 : Int) (x55 : Int) (x62 : Int) (x64 : List Int) (x65 : Int) : Option (List Int) :=
  cloop (fun next s => reduce_places.L3 fu nx2 x2 x25 x47 x55 x62 (fun x64 x65 => next (x64, x65)) s.1 s.2) fu (x64, x65)
def reduce_places.L2 (fu : Nat) (nx1 : (List Int) → Int → Option (List Int)) (x2 : List Int) (x24 : List Int) (x25 : Int) (x47 : Int) (nx2 : (List Int) → Int → Option (List Int)) (x54 : List Int) (x55 : Int) : Option (List Int) :=
  if x55 < (x24.length : Int) then ((at? x24 x55).bind fun x62 => reduce_places.W3 fu nx2 x2 x25 x47 x55 x62 x54 0) else nx1 x54 (wk .i64 (x25 + 1))
def reduce_places.W2 (fu : Nat) (nx1 : (List Int) → Int → Option (List Int)) (x2 : List Int) (x24 : List Int) (x25 : Int) (x47 : Int) (x54 : List Int) (x55 : Int) : Option (List Int) :=
  cloop (fun next s => reduce_places.L2 fu nx1 x2 x24 x25 x47 (fun x54 x55 => next (x54, x55)) s.1 s.2) fu (x54, x55)
def reduce_places.L1 (fu : Nat) (x1 : List Int) (x2 : List Int) (nx1 : (List Int) → Int → Option (List Int)) (x24 : List Int) (x25 : Int) : Option (List Int) :=
  if x25 < (x1.length : Int) then ((at? x1 x25).bind fun x47 => reduce_places.W2 fu nx1 x2 x24 x25 x47 ([] : List Int) 0) else some x24
def reduce_places.W1 (fu : Nat) (x1 : List Int) (x2 : List Int) (x24 : List Int) (x25 : Int) : Option (List Int) :=
  cloop (fun next s => reduce_places.L1 fu x1 x2 (fun x24 x25 => next (x24, x25)) s.1 s.2) fu (x24, x25)
def reduce_places (fu : Nat) (x1 : List Int) (x2 : List Int) : Option (List Int) :=
  reduce_places.W1 fu x1 x2 ([0]) 0
def rowL (steps : List Int) (x : Int) : List Int := steps.map fun s => wk .i64 (x + s)
def rowsL (steps : List Int) : Nat → List Int → List (Int × List Int)
  | _, [] => []
  | k, x :: xs => ((k : Int), rowL steps x) :: rowsL steps (k + 1) xs
def reduce_rowsIt (fu : Nat) (outer far steps : List Int) : Option (List (Int × List Int)) :=
  (reduce_places fu outer far).bind fun fs => chk (fs.length < fu ∧ steps.length < fu ∧ fs.length ≤ 140737488355328 ∧ steps.length * 8 ≤ 140737488355328) <| some (rowsL steps 0 fs)
def soft_place (fu : Nat) (x1 : Int) : Option Int :=
  (soft_Abs fu x1).bind fun x2 => if (shrk .u32 x1 31) = 1 then (some (wk .i64 (0 - (wk .i64 x2)))) else some (wk .i64 x2)
def soft_Less (fu : Nat) (x1 : Int) (x2 : Int) : Option Bool :=
  (soft_NaN fu x1).bind fun x3 => if x3 = true then (some false) else (soft_NaN fu x2).bind fun x4 => if x4 = true then (some false) else (soft_place fu x1).bind fun x5 => (soft_place fu x2).bind fun x6 => some (decide (x5 < x6))
def soft_Equal (fu : Nat) (x1 : Int) (x2 : Int) : Option Bool :=
  (soft_NaN fu x1).bind fun x3 => if x3 = true then (some false) else (soft_NaN fu x2).bind fun x4 => if x4 = true then (some false) else (soft_place fu x1).bind fun x5 => (soft_place fu x2).bind fun x6 => some (decide (x5 = x6))
def reduce_work_beats.k2 (fu : Nat) (x6 : Bool) : Option Bool :=
  some x6
def reduce_work_beats.k1 (fu : Nat) (x1 : T_reduce_work) (x4 : Int) (x5 : Int) : Option Bool :=
  jn 2 () (fun (t : Bool) => reduce_work_beats.k2 fu t) <| if x5 < x4 then (reduce_work_beats.k2 fu true) else if x4 = x5 then (reduce_work_beats.k2 fu x1.fs.fLast) else reduce_work_beats.k2 fu false
def reduce_work_beats.k4 (fu : Nat) (x1 : T_reduce_work) (x7 : Int) (x8 : Int) : Option Bool :=
  (soft_Less fu x8 x7).bind fun x9 => if x9 = true then (some true) else (soft_Equal fu x7 x8).bind fun x10 => if x10 = true then (some x1.fs.fLast) else some false
def reduce_work_beats.k3 (fu : Nat) (x1 : T_reduce_work) (x7 : Int) (x8 : Int) : Option Bool :=
  jn 4 () (fun (t : Unit) => reduce_work_beats.k4 fu x1 x7 x8) <| reduce_work_beats.k4 fu x1 x7 x8
def reduce_work_beats (fu : Nat) (x1 : T_reduce_work) (x2 : Int) (x3 : Int) : Option Bool :=
  chk (x1.fop = 70) <| if x1.fx.fType = 7 then ((at? x1.fx.fI x2).bind fun x4 => (at? x1.fx.fI x3).bind fun x5 => jn 1 () (fun (t : Unit) => reduce_work_beats.k1 fu x1 x4 x5) <| reduce_work_beats.k1 fu x1 x4 x5) else (at? x1.fx.fF x2).bind fun x7 => (at? x1.fx.fF x3).bind fun x8 => jn 3 () (fun (t : Unit) => reduce_work_beats.k3 fu x1 x7 x8) <| (soft_NaN fu x7).bind fun x11 => if x11 = true then ((soft_NaN fu x8).bind fun x12 => if x12 = true then (some x1.fs.fLast) else some true) else (soft_NaN fu x8).bind fun x13 => if x13 = true then (some false) else reduce_work_beats.k3 fu x1 x7 x8
def reduce_Do.k3 (fu : Nat) (nr1 : (List Int) → Option (T_Tensor × Int)) (x34 : List Int) (x19 : Int) (x48 : Int) : Option (T_Tensor × Int) :=
  chk (0 ≤ x19 ∧ x19 < (x34.length : Int)) <| nr1 (x34.set x19.toNat x48)
def reduce_Do.L1 (fu : Nat) (nr1 : (List Int) → Option (T_Tensor × Int)) (x2 : T_Setting) (x5 : List T_Tensor) (x8 : T_Tensor) (x10 : T_Tensor × Int) (x34 : List Int) (x19 : Int) (x20 : List Int) (nx1 : Int → Int → Option (T_Tensor × Int)) (x53 : Int) (x54 : Int) : Option (T_Tensor × Int) :=
  if x54 < (x20.length : Int) then (if 0 < x54 then ((at? x20 x54).bind fun x58 => (at? x20 x53).bind fun x59 => (reduce_work_beats fu (T_reduce_work.mk 70 x2 x5 x8 (T_Tensor.mk x10.1.fType x10.1.fDims x10.1.fF x34 x10.1.fB)) x58 x59).bind fun x60 => if x60 = true then (nx1 x54 (wk .i64 (x54 + 1))) else nx1 x53 (wk .i64 (x54 + 1))) else nx1 x53 (wk .i64 (x54 + 1))) else reduce_Do.k3 fu nr1 x34 x19 x53
def reduce_Do.W1 (fu : Nat) (nr1 : (List Int) → Option (T_Tensor × Int)) (x2 : T_Setting) (x5 : List T_Tensor) (x8 : T_Tensor) (x10 : T_Tensor × Int) (x34 : List Int) (x19 : Int) (x20 : List Int) (x53 : Int) (x54 : Int) : Option (T_Tensor × Int) :=
  cloop (fun next s => reduce_Do.L1 fu nr1 x2 x5 x8 x10 x34 x19 x20 (fun x53 x54 => next (x53, x54)) s.1 s.2) fu (x53, x54)
def reduce_Do.R1 (fu : Nat) (x2 : T_Setting) (x5 : List T_Tensor) (x8 : T_Tensor) (x10 : T_Tensor × Int) (nr1 : (List Int) → Option (T_Tensor × Int)) (x19 : Int) (x20 : List Int) (x34 : List Int) : Option (T_Tensor × Int) :=
  chk (x10.1.fI.length = x34.length) <| jn 3 () (fun (t : Int) => reduce_Do.k3 fu nr1 x34 x19 t) <| reduce_Do.W1 fu nr1 x2 x5 x8 x10 x34 x19 x20 0 0
def reduce_Do.E1 (fu : Nat) (x10 : T_Tensor × Int) (x34 : List Int) : Option (T_Tensor × Int) :=
  chk (x10.1.fI.length = x34.length) <| some (T_Tensor.mk x10.1.fType x10.1.fDims x10.1.fF x34 x10.1.fB, 0)
def reduce_Do.k2 (fu : Nat) (x2 : T_Setting) (x5 : List T_Tensor) (x8 : T_Tensor) (x10 : T_Tensor × Int) (x13 : List Int) (x14 : List Int) (x15 : List Int) (x16 : List Int) : Option (T_Tensor × Int) :=
  (reduce_places fu x13 x15).bind fun x17 => (reduce_rowsIt fu x14 x16 x17).bind fun x18 => lloop (fun y next (s : List Int) => reduce_Do.R1 fu x2 x5 x8 x10 next y.1 y.2 s) (fun (s : List Int) => reduce_Do.E1 fu x10 s) x18 x10.1.fI
def reduce_Do.L2 (fu : Nat) (x2 : T_Setting) (x5 : List T_Tensor) (x8 : T_Tensor) (x10 : T_Tensor × Int) (x11 : List Bool) (x12 : (List Int) × Int) (nx2 : (List Int) → (List Int) → (List Int) → (List Int) → Int → Option (T_Tensor × Int)) (x65 : List Int) (x66 : List Int) (x67 : List Int) (x68 : List Int) (x69 : Int) : Option (T_Tensor × Int) :=
  if x69 < (x8.fDims.length : Int) then ((at? x8.fDims x69).bind fun x74 => (at? x11 x69).bind fun x75 => if x75 = true then (chk ((x65.length + 1 : Int) * 8 ≤ 140737488355328) <| (at? x12.1 x69).bind fun x76 => chk ((x67.length + 1 : Int) * 8 ≤ 140737488355328) <| nx2 (x65 ++ ([x74])) x66 (x67 ++ ([x76])) x68 (wk .i64 (x69 + 1))) else chk ((x66.length + 1 : Int) * 8 ≤ 140737488355328) <| (at? x12.1 x69).bind fun x77 => chk ((x68.length + 1 : Int) * 8 ≤ 140737488355328) <| nx2 x65 (x66 ++ ([x74])) x67 (x68 ++ ([x77])) (wk .i64 (x69 + 1))) else reduce_Do.k2 fu x2 x5 x8 x10 x65 x66 x67 x68
def reduce_Do.W2 (fu : Nat) (x2 : T_Setting) (x5 : List T_Tensor) (x8 : T_Tensor) (x10 : T_Tensor × Int) (x11 : List Bool) (x12 : (List Int) × Int) (x65 : List Int) (x66 : List Int) (x67 : List Int) (x68 : List Int) (x69 : Int) : Option (T_Tensor × Int) :=
  cloop (fun next s => reduce_Do.L2 fu x2 x5 x8 x10 x11 x12 (fun x65 x66 x67 x68 x69 => next (x65, x66, x67, x68, x69)) s.1 s.2.1 s.2.2.1 s.2.2.2.1 s.2.2.2.2) fu (x65, x66, x67, x68, x69)
def reduce_Do.k1 (fu : Nat) (x2 : T_Setting) (x3 : List T_Tensor) (x5 : List T_Tensor) : Option (T_Tensor × Int) :=
  (ewise_Vals fu x3).bind fun x6 => (infer_Node fu 70 x2 x6 1).bind fun x7 => if x7.2 = 0 then ((at? x5 0).bind fun x8 => (at? x7.1 0).bind fun x9 => (tens_New fu x9.fType x9.fDims).bind fun x10 => (reduce_work_over fu (T_reduce_work.mk 70 x2 x5 x8 x10.1)).bind fun x11 => (shape_Strides fu x8.fDims).bind fun x12 => jn 2 () (fun (t : (List Int) × (List Int) × (List Int) × (List Int)) => reduce_Do.k2 fu x2 x5 x8 x10 t.1 t.2.1 t.2.2.1 t.2.2.2) <| reduce_Do.W2 fu x2 x5 x8 x10 x11 x12 ([] : List Int) ([] : List Int) ([] : List Int) ([] : List Int) 0) else some (T_Tensor.mk 0 ([]) ([]) ([]) ([]), x7.2)
def reduce_Do.L3 (fu : Nat) (x2 : T_Setting) (x3 : List T_Tensor) (nx3 : (List T_Tensor) → Int → Option (T_Tensor × Int)) (x82 : List T_Tensor) (x83 : Int) : Option (T_Tensor × Int) :=
  if x83 < (x3.length : Int) then ((at? x3 x83).bind fun x88 => if x88.fType = 0 then ((tens_Canon fu x88).bind fun x89 => chk ((x82.length + 1 : Int) * 104 ≤ 140737488355328) <| nx3 (x82 ++ ([x89])) (wk .i64 (x83 + 1))) else (tens_Check fu x88).bind fun x90 => if x90 = 0 then ((tens_Canon fu x88).bind fun x91 => chk ((x82.length + 1 : Int) * 104 ≤ 140737488355328) <| nx3 (x82 ++ ([x91])) (wk .i64 (x83 + 1))) else some (T_Tensor.mk 0 ([]) ([]) ([]) ([]), x90)) else reduce_Do.k1 fu x2 x3 x82
def reduce_Do.W3 (fu : Nat) (x2 : T_Setting) (x3 : List T_Tensor) (x82 : List T_Tensor) (x83 : Int) : Option (T_Tensor × Int) :=
  cloop (fun next s => reduce_Do.L3 fu x2 x3 (fun x82 x83 => next (x82, x83)) s.1 s.2) fu (x82, x83)
def reduce_Do (fu : Nat) (x1 : Int) (x2 : T_Setting) (x3 : List T_Tensor) : Option (T_Tensor × Int) :=
  chk (x1 = 70) <| (reduce_Has fu 70).bind fun x4 => if x4 = true then (jn 1 () (fun (t : List T_Tensor) => reduce_Do.k1 fu x2 x3 t) <| reduce_Do.W3 fu x2 x3 ([] : List T_Tensor) 0) else some (T_Tensor.mk 0 ([]) ([]) ([]) ([]), 1)
def law13_ReduceBest.L1 (fu : Nat) (x1 : T_Tensor) (x5 : Int) (x6 : Int) (nx1 : Bool → Int → Option Bool) (x8 : Bool) (x9 : Int) : Option Bool :=
  if x9 < (x1.fI.length : Int) then ((at? x1.fI x9).bind fun x11 => if x6 < x11 then (some false) else if x11 = x6 then (if x8 = true then (if x5 < x9 then (some false) else nx1 true (wk .i64 (x9 + 1))) else if x9 < x5 then (some false) else nx1 false (wk .i64 (x9 + 1))) else nx1 x8 (wk .i64 (x9 + 1))) else some true
def law13_ReduceBest.W1 (fu : Nat) (x1 : T_Tensor) (x5 : Int) (x6 : Int) (x8 : Bool) (x9 : Int) : Option Bool :=
  cloop (fun next s => law13_ReduceBest.L1 fu x1 x5 x6 (fun x8 x9 => next (x8, x9)) s.1 s.2) fu (x8, x9)
def law13_ReduceBest.k2 (fu : Nat) (x1 : T_Tensor) (x2 : Bool) (x4 : T_Tensor × Int) : Option Bool :=
  (at? x4.1.fI 0).bind fun x5 => (at? x1.fI x5).bind fun x6 => law13_ReduceBest.W1 fu x1 x5 x6 x2 0
def law13_ReduceBest.k1 (fu : Nat) (x1 : T_Tensor) (x2 : Bool) : Option Bool :=
  (ref05_Copy fu x1).bind fun x3 => (reduce_Do fu 70 (T_Setting.mk 0 ([]) false false false x2 false ([]) false 0 0 0 false false false 0 0 false false 0 ([]) ([]) ([]) ([]) 0 false false 0 0 0 false (T_Tensor.mk 0 ([]) ([]) ([]) ([]))) ([T_Tensor.mk x3.fType ([(x1.fI.length : Int)]) x3.fF x3.fI x3.fB])).bind fun x4 => jn 2 () (fun (t : Unit) => law13_ReduceBest.k2 fu x1 x2 x4) <| if x4.2 = 0 then (if (x4.1.fI.length : Int) = 1 then ((at? x4.1.fI 0).bind fun x12 => if x12 < 0 then (some false) else if (x1.fI.length : Int) ≤ x12 then (some false) else law13_ReduceBest.k2 fu x1 x2 x4) else some false) else some false
def law13_ReduceBest (fu : Nat) (x1 : T_Tensor) (x2 : Bool) : Option Bool :=
  jn 1 () (fun (t : Unit) => law13_ReduceBest.k1 fu x1 x2) <| (ref05_Check fu x1).bind fun x13 => if x13 = 0 then (if x1.fType = 7 then (if (x1.fI.length : Int) = 0 then (some true) else law13_ReduceBest.k1 fu x1 x2) else some true) else some true
end Go.Av
