/- Plain functions, as the program has them; data of structs. Made by a program of mine. Conditions: none. -/
import Derived.Test.YtnpnomlnajgbcaaGreatUn
set_option linter.unusedVariables false
namespace Go.Av
structure T_Tensor where
  fType:Int
  fDims:List Int
  fF:List Int
  fI:List Int
  fB:List Bool
def c_T_Tensor(x:T_Tensor):List AV:=[.v (.int .i64 x.fType),.arr x.fDims.length (lm (ik .i64) x.fDims),.arr x.fF.length (lm (ik .u32) x.fF),.arr x.fI.length (lm (ik .i64) x.fI),.arr x.fB.length (lm (bk) x.fB)]
theorem c_T_Tensor_len: ∀ x,(c_T_Tensor x).length=5:=λ_=>rfl
theorem c_T_Tensor_one: ∀ x,(c_T_Tensor x).all AV.one=true:=λ_=>rfl
structure T_Setting where
  fAxis:Int
  fAxes:List Int
  fHasAxes:Bool
  fKeep:Bool
  fNoop:Bool
  fLast:Bool
  fZero:Bool
  fPerm:List Int
  fHasPerm:Bool
  fAlpha:Int
  fBeta:Int
  fEpsilon:Int
  fLow:Bool
  fHigh:Bool
  fFmod:Bool
  fTo:Int
  fMode:Int
  fTransA:Bool
  fTransB:Bool
  fGroup:Int
  fKernel:List Int
  fStrides:List Int
  fPads:List Int
  fDilations:List Int
  fAuto:Int
  fCeil:Bool
  fCount:Bool
  fBlock:Int
  fStart:Int
  fEnd:Int
  fHasEnd:Bool
  fValue:T_Tensor
def c_T_Setting(x:T_Setting):List AV:=[.v (.int .i64 x.fAxis),.arr x.fAxes.length (lm (ik .i64) x.fAxes),.v (.bool x.fHasAxes),.v (.bool x.fKeep),.v (.bool x.fNoop),.v (.bool x.fLast),.v (.bool x.fZero),.arr x.fPerm.length (lm (ik .i64) x.fPerm),.v (.bool x.fHasPerm),.v (.int .u32 x.fAlpha),.v (.int .u32 x.fBeta),.v (.int .u32 x.fEpsilon),.v (.bool x.fLow),.v (.bool x.fHigh),.v (.bool x.fFmod),.v (.int .i64 x.fTo),.v (.int .i64 x.fMode),.v (.bool x.fTransA),.v (.bool x.fTransB),.v (.int .i64 x.fGroup),.arr x.fKernel.length (lm (ik .i64) x.fKernel),.arr x.fStrides.length (lm (ik .i64) x.fStrides),.arr x.fPads.length (lm (ik .i64) x.fPads),.arr x.fDilations.length (lm (ik .i64) x.fDilations),.v (.int .i64 x.fAuto),.v (.bool x.fCeil),.v (.bool x.fCount),.v (.int .i64 x.fBlock),.v (.int .i64 x.fStart),.v (.int .i64 x.fEnd),.v (.bool x.fHasEnd),.v (.int .i64 x.fValue.fType),.arr x.fValue.fDims.length (lm (ik .i64) x.fValue.fDims),.arr x.fValue.fF.length (lm (ik .u32) x.fValue.fF),.arr x.fValue.fI.length (lm (ik .i64) x.fValue.fI),.arr x.fValue.fB.length (lm (bk) x.fValue.fB)]
theorem c_T_Setting_len: ∀ x,(c_T_Setting x).length=36:=λ_=>rfl
theorem c_T_Setting_one: ∀ x,(c_T_Setting x).all AV.one=true:=λ_=>rfl
structure T_Val where
  fType:Int
  fDims:List Int
  fConst:Bool
  fT:T_Tensor
def c_T_Val(x:T_Val):List AV:=[.v (.int .i64 x.fType),.arr x.fDims.length (lm (ik .i64) x.fDims),.v (.bool x.fConst),.v (.int .i64 x.fT.fType),.arr x.fT.fDims.length (lm (ik .i64) x.fT.fDims),.arr x.fT.fF.length (lm (ik .u32) x.fT.fF),.arr x.fT.fI.length (lm (ik .i64) x.fT.fI),.arr x.fT.fB.length (lm (bk) x.fT.fB)]
theorem c_T_Val_len: ∀ x,(c_T_Val x).length=8:=λ_=>rfl
theorem c_T_Val_one: ∀ x,(c_T_Val x).all AV.one=true:=λ_=>rfl
structure T_infer_ask where
  fop:Int
  fs:T_Setting
  fin:List T_Val
  fouts:Int
def c_T_infer_ask(x:T_infer_ask):List AV:=[.v (.int .i64 x.fop),.v (.int .i64 x.fs.fAxis),.arr x.fs.fAxes.length (lm (ik .i64) x.fs.fAxes),.v (.bool x.fs.fHasAxes),.v (.bool x.fs.fKeep),.v (.bool x.fs.fNoop),.v (.bool x.fs.fLast),.v (.bool x.fs.fZero),.arr x.fs.fPerm.length (lm (ik .i64) x.fs.fPerm),.v (.bool x.fs.fHasPerm),.v (.int .u32 x.fs.fAlpha),.v (.int .u32 x.fs.fBeta),.v (.int .u32 x.fs.fEpsilon),.v (.bool x.fs.fLow),.v (.bool x.fs.fHigh),.v (.bool x.fs.fFmod),.v (.int .i64 x.fs.fTo),.v (.int .i64 x.fs.fMode),.v (.bool x.fs.fTransA),.v (.bool x.fs.fTransB),.v (.int .i64 x.fs.fGroup),.arr x.fs.fKernel.length (lm (ik .i64) x.fs.fKernel),.arr x.fs.fStrides.length (lm (ik .i64) x.fs.fStrides),.arr x.fs.fPads.length (lm (ik .i64) x.fs.fPads),.arr x.fs.fDilations.length (lm (ik .i64) x.fs.fDilations),.v (.int .i64 x.fs.fAuto),.v (.bool x.fs.fCeil),.v (.bool x.fs.fCount),.v (.int .i64 x.fs.fBlock),.v (.int .i64 x.fs.fStart),.v (.int .i64 x.fs.fEnd),.v (.bool x.fs.fHasEnd),.v (.int .i64 x.fs.fValue.fType),.arr x.fs.fValue.fDims.length (lm (ik .i64) x.fs.fValue.fDims),.arr x.fs.fValue.fF.length (lm (ik .u32) x.fs.fValue.fF),.arr x.fs.fValue.fI.length (lm (ik .i64) x.fs.fValue.fI),.arr x.fs.fValue.fB.length (lm (bk) x.fs.fValue.fB),.arr x.fin.length (fm c_T_Val x.fin),.v (.int .i64 x.fouts)]
theorem c_T_infer_ask_len: ∀ x,(c_T_infer_ask x).length=39:=λ_=>rfl
theorem c_T_infer_ask_one: ∀ x,(c_T_infer_ask x).all AV.one=true:=λ_=>rfl
structure T_moves_move where
  fop:Int
  fs:T_Setting
  fin:List T_Tensor
  fx:T_Tensor
  faxis:Int
def c_T_moves_move(x:T_moves_move):List AV:=[.v (.int .i64 x.fop),.v (.int .i64 x.fs.fAxis),.arr x.fs.fAxes.length (lm (ik .i64) x.fs.fAxes),.v (.bool x.fs.fHasAxes),.v (.bool x.fs.fKeep),.v (.bool x.fs.fNoop),.v (.bool x.fs.fLast),.v (.bool x.fs.fZero),.arr x.fs.fPerm.length (lm (ik .i64) x.fs.fPerm),.v (.bool x.fs.fHasPerm),.v (.int .u32 x.fs.fAlpha),.v (.int .u32 x.fs.fBeta),.v (.int .u32 x.fs.fEpsilon),.v (.bool x.fs.fLow),.v (.bool x.fs.fHigh),.v (.bool x.fs.fFmod),.v (.int .i64 x.fs.fTo),.v (.int .i64 x.fs.fMode),.v (.bool x.fs.fTransA),.v (.bool x.fs.fTransB),.v (.int .i64 x.fs.fGroup),.arr x.fs.fKernel.length (lm (ik .i64) x.fs.fKernel),.arr x.fs.fStrides.length (lm (ik .i64) x.fs.fStrides),.arr x.fs.fPads.length (lm (ik .i64) x.fs.fPads),.arr x.fs.fDilations.length (lm (ik .i64) x.fs.fDilations),.v (.int .i64 x.fs.fAuto),.v (.bool x.fs.fCeil),.v (.bool x.fs.fCount),.v (.int .i64 x.fs.fBlock),.v (.int .i64 x.fs.fStart),.v (.int .i64 x.fs.fEnd),.v (.bool x.fs.fHasEnd),.v (.int .i64 x.fs.fValue.fType),.arr x.fs.fValue.fDims.length (lm (ik .i64) x.fs.fValue.fDims),.arr x.fs.fValue.fF.length (lm (ik .u32) x.fs.fValue.fF),.arr x.fs.fValue.fI.length (lm (ik .i64) x.fs.fValue.fI),.arr x.fs.fValue.fB.length (lm (bk) x.fs.fValue.fB),.arr x.fin.length (fm c_T_Tensor x.fin),.v (.int .i64 x.fx.fType),.arr x.fx.fDims.length (lm (ik .i64) x.fx.fDims),.arr x.fx.fF.length (lm (ik .u32) x.fx.fF),.arr x.fx.fI.length (lm (ik .i64) x.fx.fI),.arr x.fx.fB.length (lm (bk) x.fx.fB),.v (.int .i64 x.faxis)]
theorem c_T_moves_move_len: ∀ x,(c_T_moves_move x).length=44:=λ_=>rfl
theorem c_T_moves_move_one: ∀ x,(c_T_moves_move x).all AV.one=true:=λ_=>rfl
def moves_Has(fu:Nat)(x1:Int):Option Bool:=
  if 45<=x1 then(if x1<=64 then(some (!(decide (x1=61))))else none)else none
def tens_Width(fu:Nat)(x1:Int):Option Int:=
  if x1=1 then(some 4)else if x1=7 then(some 8)else if x1=9 then(some 1)else some 0
def tens_known(fu:Nat)(x1:Int):Option Bool:=
  (tens_Width fu x1).bind λx2=>some (decide (0<x2))
def slices_IndexFunc_int.L1(fu:Nat)(p1:Int→Option Bool)(x1:List Int)(nx1:Int→Option Int)(x4:Int):Option Int:=
  if x4<(x1.length:Int)then((at? x1 x4).bind λx7=>(p1 x7).bind λx8=>if x8=true then(some x4)else nx1 (wk .i64 (x4+1)))else some (-1)
def slices_IndexFunc_int.W1(fu:Nat)(p1:Int→Option Bool)(x1:List Int)(x4:Int):Option Int:=
  cloop (λnext s=>slices_IndexFunc_int.L1 fu p1 x1 next s) fu x4
def slices_IndexFunc_int(fu:Nat)(x1:List Int)(p1:Int→Option Bool):Option Int:=
  slices_IndexFunc_int.W1 fu p1 x1 0
def slices_ContainsFunc_int(fu:Nat)(x1:List Int)(p1:Int→Option Bool):Option Bool:=
  (slices_IndexFunc_int fu x1 p1).bind λx2=>some (decide (0<=x2))
def shape_Size_1(fu:Nat)(x1:Int):Option Bool:=
  some (decide (x1<0))
def shape_Size_2(fu:Nat)(x1:Int):Option Bool:=
  some (decide (4096<x1))
def slices_Index_int.L1(fu:Nat)(x1:List Int)(x2:Int)(nx1:Int→Option Int)(x4:Int):Option Int:=
  if x4<(x1.length:Int)then((at? x1 x4).bind λx6=>if x2=x6 then(some x4)else nx1 (wk .i64 (x4+1)))else some (-1)
def slices_Index_int.W1(fu:Nat)(x1:List Int)(x2:Int)(x4:Int):Option Int:=
  cloop (λnext s=>slices_Index_int.L1 fu x1 x2 next s) fu x4
def slices_Index_int(fu:Nat)(x1:List Int)(x2:Int):Option Int:=
  slices_Index_int.W1 fu x1 x2 0
def slices_Contains_int(fu:Nat)(x1:List Int)(x2:Int):Option Bool:=
  (slices_Index_int fu x1 x2).bind λx3=>some (decide (0<=x3))
def shape_Size.L1(fu:Nat)(x1:List Int)(nx1:Int→Int→Option (Int×Int))(x5:Int)(x6:Int):Option (Int×Int):=
  if x6<(x1.length:Int)then((at? x1 x6).bind λx8=>chk (x5≠0)<|if(wk .i64 (Int.tdiv 4096 x5))<x8 then(some (0,4))else nx1 (wk .i64 (x5*x8)) (wk .i64 (x6+1)))else some (x5,0)
def shape_Size.W1(fu:Nat)(x1:List Int)(x5:Int)(x6:Int):Option (Int×Int):=
  cloop (λnext s=>shape_Size.L1 fu x1 (λx5 x6=>next (x5,x6)) s.1 s.2) fu (x5,x6)
def shape_Size.k1(fu:Nat)(x1:List Int):Option (Int×Int):=
  (slices_Contains_int fu x1 0).bind λx3=>if x3=true then(some (0,0))else shape_Size.W1 fu x1 1 0
def shape_Size(fu:Nat)(x1:List Int):Option (Int×Int):=
  (slices_ContainsFunc_int fu x1 (λy0=>shape_Size_1 fu y0)).bind λx2=>if x2=true then(some (0,1))else jn 1 () (λ(t:Unit)=>shape_Size.k1 fu x1)<|if 8<(x1.length:Int)then(some (0,4))else(slices_ContainsFunc_int fu x1 (λy0=>shape_Size_2 fu y0)).bind λx9=>if x9=true then(some (0,4))else shape_Size.k1 fu x1
def tens_Check.k1(fu:Nat)(x1:T_Tensor)(x3:Int×Int)(x4:Int):Option Int:=
  if x4=x3.1 then(if(wk .i64 ((wk .i64 ((x1.fF.length:Int)+(x1.fI.length:Int)))+(x1.fB.length:Int)))=x3.1 then(some 0)else some 3)else some 3
def tens_Check(fu:Nat)(x1:T_Tensor):Option Int:=
  (tens_known fu x1.fType).bind λx2=>if x2=true then((shape_Size fu x1.fDims).bind λx3=>if x3.2=0 then(jn 1 () (λ(t:Int)=>tens_Check.k1 fu x1 x3 t)<|if x1.fType=7 then(tens_Check.k1 fu x1 x3 (x1.fI.length:Int))else if x1.fType=9 then(tens_Check.k1 fu x1 x3 (x1.fB.length:Int))else tens_Check.k1 fu x1 x3 (x1.fF.length:Int))else some x3.2)else some 5
def tens_own_int(fu:Nat)(x1:List Int):Option (List Int):=
  chk ((x1.length:Int)*8<=140737488355328)<|some x1
def tens_own_uint32(fu:Nat)(x1:List Int):Option (List Int):=
  chk ((x1.length:Int)*4<=140737488355328)<|some x1
def tens_own_int64(fu:Nat)(x1:List Int):Option (List Int):=
  chk ((x1.length:Int)*8<=140737488355328)<|some x1
def tens_own_bool(fu:Nat)(x1:List Bool):Option (List Bool):=
  chk ((x1.length:Int)*1<=140737488355328)<|some x1
def tens_Copy(fu:Nat)(x1:T_Tensor):Option T_Tensor:=
  (tens_own_int fu x1.fDims).bind λx2=>(tens_own_uint32 fu x1.fF).bind λx3=>(tens_own_int64 fu x1.fI).bind λx4=>(tens_own_bool fu x1.fB).bind λx5=>some (T_Tensor.mk x1.fType x2 x3 x4 x5)
def soft_Abs(fu:Nat)(x1:Int):Option Int:=
  some (bandn .u32 x1 2147483648)
def soft_NaN(fu:Nat)(x1:Int):Option Bool:=
  (soft_Abs fu x1).bind λx2=>some (decide (2139095040<x2))
def soft_Canon(fu:Nat)(x1:Int):Option Int:=
  (soft_NaN fu x1).bind λx2=>if x2=true then(some 2143289344)else some x1
def tens_Canon.L1(fu:Nat)(x2:T_Tensor)(nx1:(List Int)→Int→Option T_Tensor)(x5:List Int)(x6:Int):Option T_Tensor:=
  if x6<((x2.fF.length:Nat):Int)then((at? x5 x6).bind λx9=>(soft_Canon fu x9).bind λx10=>chk (0<=x6/\x6<(x5.length:Int))<|nx1 (x5.set x6.toNat x10) (wk .i64 (x6+1)))else some (T_Tensor.mk x2.fType x2.fDims x5 x2.fI x2.fB)
def tens_Canon.W1(fu:Nat)(x2:T_Tensor)(x5:List Int)(x6:Int):Option T_Tensor:=
  cloop (λnext s=>tens_Canon.L1 fu x2 (λx5 x6=>next (x5,x6)) s.1 s.2) fu (x5,x6)
def tens_Canon(fu:Nat)(x1:T_Tensor):Option T_Tensor:=
  (tens_Copy fu x1).bind λx2=>tens_Canon.W1 fu x2 x2.fF 0
def slices_Clone_int(fu:Nat)(x1:List Int):Option (List Int):=
  chk ((x1.length:Int)*8<=140737488355328)<|some x1
def ewise_Vals.L1(fu:Nat)(x1:List T_Tensor)(nx1:(List T_Val)→Int→Option (List T_Val))(x5:List T_Val)(x6:Int):Option (List T_Val):=
  if x6<(x1.length:Int)then((at? x1 x6).bind λx10=>if x10.fType=0 then(chk ((x5.length+1:Int)*144<=140737488355328)<|nx1 (x5++([T_Val.mk 0 ([]) false (T_Tensor.mk 0 ([]) ([]) ([]) ([]))])) (wk .i64 (x6+1)))else(slices_Clone_int fu x10.fDims).bind λx11=>(tens_Copy fu x10).bind λx12=>chk ((x5.length+1:Int)*144<=140737488355328)<|nx1 (x5++([T_Val.mk x10.fType x11 true x12])) (wk .i64 (x6+1)))else some x5
def ewise_Vals.W1(fu:Nat)(x1:List T_Tensor)(x5:List T_Val)(x6:Int):Option (List T_Val):=
  cloop (λnext s=>ewise_Vals.L1 fu x1 (λx5 x6=>next (x5,x6)) s.1 s.2) fu (x5,x6)
def ewise_Vals(fu:Nat)(x1:List T_Tensor):Option (List T_Val):=
  ewise_Vals.W1 fu x1 ([]:List T_Val) 0
def ops_Arity(fu:Nat)(x1:Int):Option (Int×Int×Int×Int):=
  spl (x1=51) (some (2,2,1,1))<|chk (x1=52)<|some (3,3,1,1)
def infer_ask_val(fu:Nat)(x1:T_infer_ask)(x2:Int):Option T_Val:=
  if x2<(x1.fin.length:Int)then((at? x1.fin x2).bind λx3=>some x3)else some (T_Val.mk 0 ([]) false (T_Tensor.mk 0 ([]) ([]) ([]) ([])))
def infer_ask_has(fu:Nat)(x1:T_infer_ask)(x2:Int):Option Bool:=
  (infer_ask_val fu x1 x2).bind λx3=>some (!(decide (x3.fType=0)))
def infer_ask_complete.L1(fu:Nat)(x1:T_infer_ask)(x2:Int×Int×Int×Int)(nx1:Int→Option Bool)(x4:Int):Option Bool:=
  if x4<x2.1 then((infer_ask_has fu x1 x4).bind λx6=>if x6=true then(nx1 (wk .i64 (x4+1)))else some false)else some true
def infer_ask_complete.W1(fu:Nat)(x1:T_infer_ask)(x2:Int×Int×Int×Int)(x4:Int):Option Bool:=
  cloop (λnext s=>infer_ask_complete.L1 fu x1 x2 next s) fu x4
def infer_ask_complete.k1(fu:Nat)(x1:T_infer_ask)(x2:Int×Int×Int×Int):Option Bool:=
  infer_ask_complete.W1 fu x1 x2 0
def infer_ask_complete(fu:Nat)(x1:T_infer_ask):Option Bool:=
  (ops_Arity fu x1.fop).bind λx2=>jn 1 () (λ(t:Unit)=>infer_ask_complete.k1 fu x1 x2)<|if x2.2.2.1=0 then(some false)else if x1.fop=61 then(none)else if(x1.fin.length:Int)<x2.1 then(some false)else if x2.2.1<(x1.fin.length:Int)then(some false)else if x1.fouts<x2.2.2.1 then(some false)else if x2.2.2.2<x1.fouts then(some false)else infer_ask_complete.k1 fu x1 x2
def infer_sorts.k5(fu:Nat)(x1:Int):Option ByteArray:=
  if x1=51 then(some (⟨#[97,105]⟩:ByteArray))else if x1=52 then(some (⟨#[97,105,61]⟩:ByteArray))else none
def infer_sorts.k4(fu:Nat)(x1:Int):Option ByteArray:=
  if x1=64 then(none)else jn 5 x1 (λ(t:Unit)=>infer_sorts.k5 fu x1)<|if x1=46 then(none)else if x1=48 then(none)else if x1=49 then(none)else if x1=54 then(none)else if x1=55 then(none)else if x1=56 then(none)else if x1=57 then(none)else if x1=50 then(none)else infer_sorts.k5 fu x1
def infer_sorts.k3(fu:Nat)(x1:Int):Option ByteArray:=
  if x1=43 then(none)else if x1=37 then(none)else if x1=47 then(none)else if x1=42 then(none)else jn 4 x1 (λ(t:Unit)=>infer_sorts.k4 fu x1)<|if x1=21 then(none)else if x1=44 then(none)else if x1=45 then(none)else if x1=58 then(none)else if x1=59 then(none)else if x1=60 then(none)else if x1=63 then(none)else infer_sorts.k4 fu x1
def infer_sorts.k2(fu:Nat)(x1:Int):Option ByteArray:=
  if x1=25 then(none)else jn 3 x1 (λ(t:Unit)=>infer_sorts.k3 fu x1)<|if x1=28 then(none)else if x1=29 then(none)else if x1=30 then(none)else if x1=31 then(none)else if x1=32 then(none)else if x1=34 then(none)else if x1=35 then(none)else if x1=38 then(none)else if x1=39 then(none)else if x1=40 then(none)else if x1=41 then(none)else infer_sorts.k3 fu x1
def infer_sorts.k1(fu:Nat)(x1:Int):Option ByteArray:=
  if x1=71 then(none)else jn 2 x1 (λ(t:Unit)=>infer_sorts.k2 fu x1)<|if x1=22 then(none)else if x1=23 then(none)else if x1=24 then(none)else infer_sorts.k2 fu x1
def infer_sorts(fu:Nat)(x1:Int):Option ByteArray:=
  jn 1 x1 (λ(t:Unit)=>infer_sorts.k1 fu x1)<|if x1=1 then(none)else if x1=2 then(none)else if x1=3 then(none)else if x1=67 then(none)else if x1=68 then(none)else if x1=69 then(none)else if x1=70 then(none)else infer_sorts.k1 fu x1
def infer_ask_fits.k1(fu:Nat)(x5:Bool):Option Bool:=
  some x5
def infer_ask_fits(fu:Nat)(x1:T_infer_ask)(x2:Int)(x3:Int):Option Bool:=
  (infer_ask_val fu x1 x2).bind λx4=>if x3=110 then(jn 1 () (λ(t:Bool)=>infer_ask_fits.k1 fu t)<|if x4.fType=1 then(infer_ask_fits.k1 fu true)else infer_ask_fits.k1 fu (decide (x4.fType=7)))else if x3=102 then(some (decide (x4.fType=1)))else if x3=98 then(some (decide (x4.fType=9)))else if x3=105 then(some (decide (x4.fType=7)))else if x3=61 then((infer_ask_val fu x1 0).bind λx6=>some (decide (x4.fType=x6.fType)))else if x3=43 then((infer_ask_val fu x1 (wk .i64 (x2 - 1))).bind λx7=>some (decide (x4.fType=x7.fType)))else(tens_Width fu x4.fType).bind λx8=>some (decide (0<x8))
def infer_ask_typed.k1(fu:Nat)(x1:T_infer_ask):Option Bool:=
  if x1.fop=52 then(if x1.fs.fMode=0 then(some true)else(infer_ask_val fu x1 0).bind λx3=>some (!(decide (x3.fType=9))))else some true
def infer_ask_typed.L1(fu:Nat)(x1:T_infer_ask)(x2:ByteArray)(nx1:Int→Option Bool)(x9:Int):Option Bool:=
  if x9<(x1.fin.length:Int)then((infer_ask_has fu x1 x9).bind λx15=>if x15=true then((infer_ask_val fu x1 x9).bind λx16=>(tens_Width fu x16.fType).bind λx17=>if x17=0 then(some false)else(sat? x2 (imin x9 (wk .i64 ((x2.size:Int) - 1)))).bind λx18=>(infer_ask_fits fu x1 x9 x18).bind λx19=>if x19=true then(nx1 (wk .i64 (x9+1)))else some false)else nx1 (wk .i64 (x9+1)))else infer_ask_typed.k1 fu x1
def infer_ask_typed.W1(fu:Nat)(x1:T_infer_ask)(x2:ByteArray)(x9:Int):Option Bool:=
  cloop (λnext s=>infer_ask_typed.L1 fu x1 x2 next s) fu x9
def infer_ask_typed(fu:Nat)(x1:T_infer_ask):Option Bool:=
  (infer_sorts fu x1.fop).bind λx2=>jn 1 () (λ(t:Unit)=>infer_ask_typed.k1 fu x1)<|infer_ask_typed.W1 fu x1 x2 0
def infer_ask_dims(fu:Nat)(x1:T_infer_ask)(x2:Int):Option (List Int):=
  (infer_ask_val fu x1 x2).bind λx3=>some x3.fDims
def infer_ask_rank(fu:Nat)(x1:T_infer_ask):Option Int:=
  (infer_ask_dims fu x1 0).bind λx2=>some (x2.length:Int)
def shape_Axis(fu:Nat)(x1:Int)(x2:Int):Option (Int×Int):=
  if x2<0 then(some (0,2))else if 0<=x1 then(if x1<x2 then(some (x1,0))else some (0,2))else if(wk .i64 (0 - x2))<=x1 then(some (wk .i64 (x2+x1),0))else some (0,2)
def infer_ask_attributes.k1(fu:Nat)(x1:T_infer_ask)(x2:Int):Option Bool:=
  (shape_Axis fu x1.fs.fAxis x2).bind λx3=>some (decide (x3.2=0))
def infer_ask_attributes(fu:Nat)(x1:T_infer_ask):Option Bool:=
  (infer_ask_rank fu x1).bind λx2=>if x1.fop=32 then(none)else if x1.fop=44 then(none)else if x1.fop=62 then(none)else if x1.fop=63 then(none)else if x1.fop=64 then(none)else if x1.fop=45 then(none)else jn 1 () (λ(t:Unit)=>infer_ask_attributes.k1 fu x1 x2)<|if x1.fop=47 then(none)else if x1.fop=48 then(none)else if x1.fop=50 then(none)else if x1.fop=51 then(infer_ask_attributes.k1 fu x1 x2)else if x1.fop=52 then(infer_ask_attributes.k1 fu x1 x2)else none
def infer_ask_lists.k1(fu:Nat)(x1:T_infer_ask):Option (List T_Val):=
  if x1.fop=65 then(none)else some ([])
def infer_ask_lists(fu:Nat)(x1:T_infer_ask):Option (List T_Val):=
  if x1.fop=62 then(none)else if x1.fop=49 then(none)else jn 1 x1 (λ(t:Unit)=>infer_ask_lists.k1 fu x1)<|if x1.fop=46 then(none)else if x1.fop=48 then(none)else if x1.fop=53 then(none)else if x1.fop=54 then(none)else if x1.fop=55 then(none)else if x1.fop=56 then(none)else if x1.fop=57 then(none)else infer_ask_lists.k1 fu x1
def slices_IndexFunc_api_Val_api_Val.L1(fu:Nat)(p1:T_Val→Option Bool)(x1:List T_Val)(nx1:Int→Option Int)(x4:Int):Option Int:=
  if x4<(x1.length:Int)then((at? x1 x4).bind λx7=>(p1 x7).bind λx8=>if x8=true then(some x4)else nx1 (wk .i64 (x4+1)))else some (-1)
def slices_IndexFunc_api_Val_api_Val.W1(fu:Nat)(p1:T_Val→Option Bool)(x1:List T_Val)(x4:Int):Option Int:=
  cloop (λnext s=>slices_IndexFunc_api_Val_api_Val.L1 fu p1 x1 next s) fu x4
def slices_IndexFunc_api_Val_api_Val(fu:Nat)(x1:List T_Val)(p1:T_Val→Option Bool):Option Int:=
  slices_IndexFunc_api_Val_api_Val.W1 fu p1 x1 0
def slices_ContainsFunc_api_Val_api_Val(fu:Nat)(x1:List T_Val)(p1:T_Val→Option Bool):Option Bool:=
  (slices_IndexFunc_api_Val_api_Val fu x1 p1).bind λx2=>some (decide (0<=x2))
def slices_Equal_int.L1(fu:Nat)(x1:List Int)(x2:List Int)(nx1:Int→Option Bool)(x5:Int):Option Bool:=
  if x5<(x1.length:Int)then((at? x1 x5).bind λx8=>(at? x2 x5).bind λx9=>if x8=x9 then(nx1 (wk .i64 (x5+1)))else some false)else some true
def slices_Equal_int.W1(fu:Nat)(x1:List Int)(x2:List Int)(x5:Int):Option Bool:=
  cloop (λnext s=>slices_Equal_int.L1 fu x1 x2 next s) fu x5
def slices_Equal_int(fu:Nat)(x1:List Int)(x2:List Int):Option Bool:=
  if(x1.length:Int)=(x2.length:Int)then(slices_Equal_int.W1 fu x1 x2 0)else some false
def infer_held(fu:Nat)(x1:T_Val):Option Bool:=
  if x1.fConst=true then((tens_Check fu x1.fT).bind λx2=>if x2=0 then(if x1.fT.fType=x1.fType then((slices_Equal_int fu x1.fT.fDims x1.fDims).bind λx3=>some x3)else some false)else some false)else some false
def infer_ask_told_1(fu:Nat)(x1:T_Val):Option Bool:=
  (infer_held fu x1).bind λx2=>some (!x2)
def infer_ask_told_2(fu:Nat)(x1:T_Val):Option Bool:=
  some (!(decide ((x1.fDims.length:Int)=1)))
def slices_IndexFunc_int64.L1(fu:Nat)(p1:Int→Option Bool)(x1:List Int)(nx1:Int→Option Int)(x4:Int):Option Int:=
  if x4<(x1.length:Int)then((at? x1 x4).bind λx7=>(p1 x7).bind λx8=>if x8=true then(some x4)else nx1 (wk .i64 (x4+1)))else some (-1)
def slices_IndexFunc_int64.W1(fu:Nat)(p1:Int→Option Bool)(x1:List Int)(x4:Int):Option Int:=
  cloop (λnext s=>slices_IndexFunc_int64.L1 fu p1 x1 next s) fu x4
def slices_IndexFunc_int64(fu:Nat)(x1:List Int)(p1:Int→Option Bool):Option Int:=
  slices_IndexFunc_int64.W1 fu p1 x1 0
def slices_ContainsFunc_int64(fu:Nat)(x1:List Int)(p1:Int→Option Bool):Option Bool:=
  (slices_IndexFunc_int64 fu x1 p1).bind λx2=>some (decide (0<=x2))
def infer_ask_told_3_1(fu:Nat)(x1:Int):Option Bool:=
  some (decide (4096<x1))
def infer_ask_told_3(fu:Nat)(x1:T_Val):Option Bool:=
  (slices_ContainsFunc_int64 fu x1.fT.fI (λy0=>infer_ask_told_3_1 fu y0)).bind λx2=>some x2
def infer_ask_told(fu:Nat)(x1:T_infer_ask):Option Int:=
  (infer_ask_lists fu x1).bind λx2=>(slices_ContainsFunc_api_Val_api_Val fu x2 (λy0=>infer_ask_told_1 fu y0)).bind λx3=>if x3=true then(some 15)else(slices_ContainsFunc_api_Val_api_Val fu x2 (λy0=>infer_ask_told_2 fu y0)).bind λx4=>if x4=true then(some 3)else if x1.fop=49 then(none)else(slices_ContainsFunc_api_Val_api_Val fu x2 (λy0=>infer_ask_told_3 fu y0)).bind λx5=>if x5=true then(some 4)else some 0
def infer_ask_wrong.k1(fu:Nat)(x1:T_infer_ask):Option Int:=
  (infer_ask_typed fu x1).bind λx2=>if x2=true then((infer_ask_attributes fu x1).bind λx3=>if x3=true then((infer_ask_told fu x1).bind λx4=>some x4)else some 14)else some 5
def infer_ask_wrong.L1(fu:Nat)(x1:T_infer_ask)(nx1:Int→Option Int)(x8:Int):Option Int:=
  if x8<(x1.fin.length:Int)then((at? x1.fin x8).bind λx12=>(shape_Size fu x12.fDims).bind λx13=>(infer_ask_has fu x1 x8).bind λx14=>if x14=true then(if x13.2=0 then(nx1 (wk .i64 (x8+1)))else some 4)else nx1 (wk .i64 (x8+1)))else infer_ask_wrong.k1 fu x1
def infer_ask_wrong.W1(fu:Nat)(x1:T_infer_ask)(x8:Int):Option Int:=
  cloop (λnext s=>infer_ask_wrong.L1 fu x1 next s) fu x8
def infer_ask_wrong(fu:Nat)(x1:T_infer_ask):Option Int:=
  jn 1 () (λ(t:Unit)=>infer_ask_wrong.k1 fu x1)<|infer_ask_wrong.W1 fu x1 0
def infer_ask_axis(fu:Nat)(x1:T_infer_ask):Option Int:=
  (infer_ask_rank fu x1).bind λx2=>(shape_Axis fu x1.fs.fAxis x2).bind λx3=>some x3.1
def infer_misfit(fu:Nat):Option ((List (List Int))×Int):=
  some ([],3)
def infer_one(fu:Nat)(x1:List Int):Option ((List (List Int))×Int):=
  some ([x1],0)
def infer_ask_picked.k1(fu:Nat)(x2:List Int):Option ((List (List Int))×Int):=
  (infer_one fu x2).bind λx5=>some (x5.1,x5.2)
def infer_ask_picked.L1(fu:Nat)(x1:T_infer_ask)(x2:List Int)(x3:List Int)(x4:List Int)(nx1:Int→Option ((List (List Int))×Int))(x10:Int):Option ((List (List Int))×Int):=
  if x10<(x3.length:Int)then((infer_ask_axis fu x1).bind λx15=>if x10=x15 then(nx1 (wk .i64 (x10+1)))else(at? x4 x10).bind λx16=>(at? x3 x10).bind λx17=>if x17<x16 then((infer_misfit fu).bind λx18=>some (x18.1,x18.2))else nx1 (wk .i64 (x10+1)))else infer_ask_picked.k1 fu x2
def infer_ask_picked.W1(fu:Nat)(x1:T_infer_ask)(x2:List Int)(x3:List Int)(x4:List Int)(x10:Int):Option ((List (List Int))×Int):=
  cloop (λnext s=>infer_ask_picked.L1 fu x1 x2 x3 x4 next s) fu x10
def infer_ask_picked(fu:Nat)(x1:T_infer_ask)(x2:List Int):Option ((List (List Int))×Int):=
  (infer_ask_dims fu x1 0).bind λx3=>(infer_ask_dims fu x1 1).bind λx4=>if(x3.length:Int)=(x4.length:Int)then(jn 1 () (λ(t:Unit)=>infer_ask_picked.k1 fu x2)<|infer_ask_picked.W1 fu x1 x2 x3 x4 0)else(infer_misfit fu).bind λx19=>some (x19.1,x19.2)
def infer_ask_moved(fu:Nat)(x1:T_infer_ask):Option ((List (List Int))×Int):=
  (infer_ask_dims fu x1 0).bind λx2=>if x1.fop=45 then(none)else if x1.fop=46 then(none)else if x1.fop=47 then(none)else if x1.fop=48 then(none)else if x1.fop=49 then(none)else if x1.fop=50 then(none)else if x1.fop=51 then((infer_ask_dims fu x1 1).bind λx3=>(infer_ask_picked fu x1 x3).bind λx4=>some (x4.1,x4.2))else if x1.fop=52 then((infer_ask_dims fu x1 1).bind λx5=>(infer_ask_dims fu x1 2).bind λx6=>(slices_Equal_int fu x5 x6).bind λx7=>if x7=true then((infer_ask_picked fu x1 x2).bind λx8=>some (x8.1,x8.2))else(infer_misfit fu).bind λx9=>some (x9.1,x9.2))else none
def infer_ask_shapes.k2(fu:Nat)(x1:T_infer_ask):Option ((List (List Int))×Int):=
  (infer_ask_moved fu x1).bind λx3=>some (x3.1,x3.2)
def infer_ask_shapes.k1(fu:Nat)(x1:T_infer_ask):Option ((List (List Int))×Int):=
  if x1.fop=42 then(none)else if x1.fop=36 then(none)else if x1.fop=43 then(none)else jn 2 () (λ(t:Unit)=>infer_ask_shapes.k2 fu x1)<|if x1.fop=45 then(none)else if x1.fop=46 then(none)else if x1.fop=47 then(none)else if x1.fop=48 then(none)else if x1.fop=49 then(none)else if x1.fop=50 then(none)else if x1.fop=51 then(infer_ask_shapes.k2 fu x1)else if x1.fop=52 then(infer_ask_shapes.k2 fu x1)else none
def infer_ask_shapes(fu:Nat)(x1:T_infer_ask):Option ((List (List Int))×Int):=
  (infer_ask_dims fu x1 0).bind λx2=>jn 1 x1 (λ(t:Unit)=>infer_ask_shapes.k1 fu x1)<|if x1.fop=23 then(none)else if x1.fop=24 then(none)else if x1.fop=25 then(none)else if x1.fop=28 then(none)else if x1.fop=29 then(none)else if x1.fop=30 then(none)else if x1.fop=31 then(none)else if x1.fop=32 then(none)else if x1.fop=33 then(none)else if x1.fop=34 then(none)else if x1.fop=35 then(none)else if x1.fop=37 then(none)else if x1.fop=38 then(none)else if x1.fop=39 then(none)else if x1.fop=40 then(none)else if x1.fop=41 then(none)else infer_ask_shapes.k1 fu x1
def infer_ask_out.k1(fu:Nat)(x1:T_infer_ask):Option Int:=
  (infer_ask_val fu x1 0).bind λx2=>some x2.fType
def infer_ask_out.k3(fu:Nat)(x1:T_infer_ask):Option Int:=
  if x1.fop=71 then(none)else if x1.fop=44 then(none)else if x1.fop=62 then(none)else if x1.fop=42 then(none)else infer_ask_out.k1 fu x1
def infer_ask_out.k2(fu:Nat)(x1:T_infer_ask):Option Int:=
  if x1.fop=41 then(none)else jn 3 x1 (λ(t:Unit)=>infer_ask_out.k3 fu x1)<|if x1.fop=59 then(none)else if x1.fop=60 then(none)else if x1.fop=70 then(none)else infer_ask_out.k3 fu x1
def infer_ask_out(fu:Nat)(x1:T_infer_ask):Option Int:=
  jn 1 () (λ(t:Unit)=>infer_ask_out.k1 fu x1)<|jn 2 x1 (λ(t:Unit)=>infer_ask_out.k2 fu x1)<|if x1.fop=22 then(none)else if x1.fop=23 then(none)else if x1.fop=24 then(none)else if x1.fop=25 then(none)else if x1.fop=26 then(none)else if x1.fop=27 then(none)else if x1.fop=37 then(none)else if x1.fop=38 then(none)else if x1.fop=39 then(none)else if x1.fop=40 then(none)else infer_ask_out.k2 fu x1
def infer_Node.L1(fu:Nat)(x1:Int)(x2:T_Setting)(x3:List T_Val)(x4:Int)(x7:(List (List Int))×Int)(nx1:(List T_Val)→Int→Option ((List T_Val)×Int))(x12:List T_Val)(x13:Int):Option ((List T_Val)×Int):=
  if x13<(x7.1.length:Int)then((at? x7.1 x13).bind λx18=>(shape_Size fu x18).bind λx19=>if x19.2=0 then((infer_ask_out fu (T_infer_ask.mk x1 (T_Setting.mk x2.fAxis x2.fAxes x2.fHasAxes x2.fKeep x2.fNoop x2.fLast x2.fZero x2.fPerm x2.fHasPerm x2.fAlpha x2.fBeta x2.fEpsilon x2.fLow x2.fHigh x2.fFmod x2.fTo 0 x2.fTransA x2.fTransB x2.fGroup x2.fKernel x2.fStrides x2.fPads x2.fDilations x2.fAuto x2.fCeil x2.fCount x2.fBlock x2.fStart x2.fEnd x2.fHasEnd x2.fValue) x3 x4)).bind λx20=>(slices_Clone_int fu x18).bind λx21=>chk ((x12.length+1:Int)*144<=140737488355328)<|nx1 (x12++([T_Val.mk x20 x21 false (T_Tensor.mk 0 ([]) ([]) ([]) ([]))])) (wk .i64 (x13+1)))else some ([],4))else some (x12,0)
def infer_Node.W1(fu:Nat)(x1:Int)(x2:T_Setting)(x3:List T_Val)(x4:Int)(x7:(List (List Int))×Int)(x12:List T_Val)(x13:Int):Option ((List T_Val)×Int):=
  cloop (λnext s=>infer_Node.L1 fu x1 x2 x3 x4 x7 (λx12 x13=>next (x12,x13)) s.1 s.2) fu (x12,x13)
def infer_Node(fu:Nat)(x1:Int)(x2:T_Setting)(x3:List T_Val)(x4:Int):Option ((List T_Val)×Int):=
  chk (x2.fMode=0)<|(infer_ask_complete fu (T_infer_ask.mk x1 (T_Setting.mk x2.fAxis x2.fAxes x2.fHasAxes x2.fKeep x2.fNoop x2.fLast x2.fZero x2.fPerm x2.fHasPerm x2.fAlpha x2.fBeta x2.fEpsilon x2.fLow x2.fHigh x2.fFmod x2.fTo 0 x2.fTransA x2.fTransB x2.fGroup x2.fKernel x2.fStrides x2.fPads x2.fDilations x2.fAuto x2.fCeil x2.fCount x2.fBlock x2.fStart x2.fEnd x2.fHasEnd x2.fValue) x3 x4)).bind λx5=>if x5=true then((infer_ask_wrong fu (T_infer_ask.mk x1 (T_Setting.mk x2.fAxis x2.fAxes x2.fHasAxes x2.fKeep x2.fNoop x2.fLast x2.fZero x2.fPerm x2.fHasPerm x2.fAlpha x2.fBeta x2.fEpsilon x2.fLow x2.fHigh x2.fFmod x2.fTo 0 x2.fTransA x2.fTransB x2.fGroup x2.fKernel x2.fStrides x2.fPads x2.fDilations x2.fAuto x2.fCeil x2.fCount x2.fBlock x2.fStart x2.fEnd x2.fHasEnd x2.fValue) x3 x4)).bind λx6=>if x6=0 then((infer_ask_shapes fu (T_infer_ask.mk x1 (T_Setting.mk x2.fAxis x2.fAxes x2.fHasAxes x2.fKeep x2.fNoop x2.fLast x2.fZero x2.fPerm x2.fHasPerm x2.fAlpha x2.fBeta x2.fEpsilon x2.fLow x2.fHigh x2.fFmod x2.fTo 0 x2.fTransA x2.fTransB x2.fGroup x2.fKernel x2.fStrides x2.fPads x2.fDilations x2.fAuto x2.fCeil x2.fCount x2.fBlock x2.fStart x2.fEnd x2.fHasEnd x2.fValue) x3 x4)).bind λx7=>if x7.2=0 then(infer_Node.W1 fu x1 x2 x3 x4 x7 ([]:List T_Val) 0)else some ([],x7.2))else some ([],x6))else some ([],1)
def moves_wrapped.k1(fu:Nat)(x2:Int)(x3:Int):Option Int:=
  if x3<0 then(some (-1))else if x2<=x3 then(some (-1))else some x3
def moves_wrapped(fu:Nat)(x1:Int)(x2:Int):Option Int:=
  jn 1 () (λ(t:Int)=>moves_wrapped.k1 fu x2 t)<|if x1<0 then(moves_wrapped.k1 fu x2 (wk .i64 (x1+x2)))else moves_wrapped.k1 fu x2 x1
def moves_move_named.L1(fu:Nat)(x1:T_moves_move)(x2:T_Tensor)(nx1:(List Int)→Int→Option ((List Int)×Bool))(x6:List Int)(x7:Int):Option ((List Int)×Bool):=
  if x7<(x2.fI.length:Int)then((at? x2.fI x7).bind λx11=>(at? x1.fx.fDims x1.faxis).bind λx12=>(moves_wrapped fu x11 x12).bind λx13=>if x13<0 then(some ([],false))else chk ((x6.length+1:Int)*8<=140737488355328)<|nx1 (x6++([x13])) (wk .i64 (x7+1)))else some (x6,true)
def moves_move_named.W1(fu:Nat)(x1:T_moves_move)(x2:T_Tensor)(x6:List Int)(x7:Int):Option ((List Int)×Bool):=
  cloop (λnext s=>moves_move_named.L1 fu x1 x2 (λx6 x7=>next (x6,x7)) s.1 s.2) fu (x6,x7)
def moves_move_named(fu:Nat)(x1:T_moves_move):Option ((List Int)×Bool):=
  (at? x1.fin 1).bind λx2=>moves_move_named.W1 fu x1 x2 ([]:List Int) 0
def shape_strides.L1(fu:Nat)(x1:List Int)(nx1:(List Int)→Int→Int→Option (List Int))(x3:List Int)(x4:Int)(x5:Int):Option (List Int):=
  if 0<=x5 then(chk (0<=x5/\x5<(x3.length:Int))<|(at? x1 x5).bind λx7=>nx1 (x3.set x5.toNat x4) (wk .i64 (x4*x7)) (wk .i64 (x5 - 1)))else some x3
def shape_strides.W1(fu:Nat)(x1:List Int)(x3:List Int)(x4:Int)(x5:Int):Option (List Int):=
  cloop (λnext s=>shape_strides.L1 fu x1 (λx3 x4 x5=>next (x3,x4,x5)) s.1 s.2.1 s.2.2) fu (x3,x4,x5)
def shape_strides(fu:Nat)(x1:List Int):Option (List Int):=
  chk (0<=(x1.length:Int)/\(x1.length:Int)*8<=140737488355328)<|shape_strides.W1 fu x1 (List.replicate (x1.length:Int).toNat (0:Int)) 1 (wk .i64 ((x1.length:Int) - 1))
def shape_Strides(fu:Nat)(x1:List Int):Option ((List Int)×Int):=
  (shape_Size fu x1).bind λx2=>if x2.2=0 then((shape_strides fu x1).bind λx3=>some (x3,0))else some ([],x2.2)
def moves_strides(fu:Nat)(x1:List Int):Option (List Int):=
  (shape_Strides fu x1).bind λx2=>some x2.1
def moves_dot.L1(fu:Nat)(x1:List Int)(x2:List Int)(nx1:Int→Int→Option Int)(x5:Int)(x6:Int):Option Int:=
  if x6<(x2.length:Int)then((at? x2 x6).bind λx9=>(at? x1 x6).bind λx10=>nx1 (wk .i64 (x5+(wk .i64 (x10*x9)))) (wk .i64 (x6+1)))else some x5
def moves_dot.W1(fu:Nat)(x1:List Int)(x2:List Int)(x5:Int)(x6:Int):Option Int:=
  cloop (λnext s=>moves_dot.L1 fu x1 x2 (λx5 x6=>next (x5,x6)) s.1 s.2) fu (x5,x6)
def moves_dot(fu:Nat)(x1:List Int)(x2:List Int):Option Int:=
  moves_dot.W1 fu x1 x2 0 0
def moves_move_along.L2(fu:Nat)(nx1:(List Int)→(List Int)→Option (List Int))(x4:T_Tensor)(x21:List Int)(x38:Int)(x39:Int)(x40:Int)(x41:Int)(nx2:(List Int)→Int→Option (List Int))(x45:List Int)(x46:Int):Option (List Int):=
  if 0<=x46 then((at? x45 x46).bind λx50=>chk (0<=x46/\x46<(x45.length:Int))<|(at? (x45.set x46.toNat (wk .i64 (x50+1))) x46).bind λx51=>(at? x4.fDims x46).bind λx52=>if x51<x52 then(nx1 (x21++([wk .i64 (x38+(wk .i64 ((wk .i64 (x39 - x40))*x41)))])) (x45.set x46.toNat (wk .i64 (x50+1))))else chk (0<=x46/\x46<((x45.set x46.toNat (wk .i64 (x50+1))).length:Int))<|nx2 ((x45.set x46.toNat (wk .i64 (x50+1))).set x46.toNat 0) (wk .i64 (x46 - 1)))else some (x21++([wk .i64 (x38+(wk .i64 ((wk .i64 (x39 - x40))*x41)))]))
def moves_move_along.W2(fu:Nat)(nx1:(List Int)→(List Int)→Option (List Int))(x4:T_Tensor)(x21:List Int)(x38:Int)(x39:Int)(x40:Int)(x41:Int)(x45:List Int)(x46:Int):Option (List Int):=
  cloop (λnext s=>moves_move_along.L2 fu nx1 x4 x21 x38 x39 x40 x41 (λx45 x46=>next (x45,x46)) s.1 s.2) fu (x45,x46)
def moves_move_along.L1(fu:Nat)(x1:T_moves_move)(x2:List Int)(x3:List Int)(x4:T_Tensor)(nx1:(List Int)→(List Int)→Option (List Int))(x21:List Int)(x22:List Int):Option (List Int):=
  (moves_dot fu x22 x3).bind λx38=>(at? x2 (x21.length:Int)).bind λx39=>(at? x22 x1.faxis).bind λx40=>(at? x3 x1.faxis).bind λx41=>chk ((x21.length+1:Int)*8<=140737488355328)<|moves_move_along.W2 fu nx1 x4 x21 x38 x39 x40 x41 x22 (wk .i64 ((x4.fDims.length:Int) - 1))
def moves_move_along.W1(fu:Nat)(x1:T_moves_move)(x2:List Int)(x3:List Int)(x4:T_Tensor)(x21:List Int)(x22:List Int):Option (List Int):=
  cloop (λnext s=>moves_move_along.L1 fu x1 x2 x3 x4 (λx21 x22=>next (x21,x22)) s.1 s.2) fu (x21,x22)
def moves_move_along(fu:Nat)(x1:T_moves_move)(x2:List Int):Option (List Int):=
  (moves_strides fu x1.fx.fDims).bind λx3=>(at? x1.fin 1).bind λx4=>(slices_Contains_int fu x4.fDims 0).bind λx5=>if x5=true then(some ([]:List Int))else chk (0<=(x4.fDims.length:Int)/\(x4.fDims.length:Int)*8<=140737488355328)<|moves_move_along.W1 fu x1 x2 x3 x4 ([]:List Int) (List.replicate (x4.fDims.length:Int).toNat (0:Int))
def tens_New(fu:Nat)(x1:Int)(x2:List Int):Option (T_Tensor×Int):=
  (tens_known fu x1).bind λx3=>if x3=true then((shape_Size fu x2).bind λx4=>if x4.2=0 then((slices_Clone_int fu x2).bind λx5=>if x1=1 then(chk (0<=x4.1/\x4.1*4<=140737488355328)<|some (T_Tensor.mk x1 x5 (List.replicate x4.1.toNat (0:Int)) ([]) ([]),0))else if x1=7 then(chk (0<=x4.1/\x4.1*8<=140737488355328)<|some (T_Tensor.mk x1 x5 ([]) (List.replicate x4.1.toNat (0:Int)) ([]),0))else chk (0<=x4.1/\x4.1*1<=140737488355328)<|some (T_Tensor.mk x1 x5 ([]) ([]) (List.replicate x4.1.toNat (false:Bool)),0))else some (T_Tensor.mk 0 ([]) ([]) ([]) ([]),x4.2))else some (T_Tensor.mk 0 ([]) ([]) ([]) ([]),5)
def tens_Pick_1(fu:Nat)(x1:Int)(x2:Int):Option Bool:=
  if x1<(-1)then(some true)else some (decide (x2<=x1))
def tens_Pick.c3(fu:Nat)(x5:T_Tensor×Int)(x7:List Int)(x8:List Int)(x9:List Bool):Option (T_Tensor×Int):=
  chk (x5.1.fB.length=x9.length)<|some (T_Tensor.mk x5.1.fType x5.1.fDims x7 x8 x9,0)
def tens_Pick.L1(fu:Nat)(x1:T_Tensor)(x3:List Int)(x5:T_Tensor×Int)(x7:List Int)(x8:List Int)(nx1:(List Bool)→Int→Option (T_Tensor×Int))(x12:List Bool)(x13:Int):Option (T_Tensor×Int):=
  if x13<(x3.length:Int)then((at? x3 x13).bind λx16=>if 0<=x16 then((at? x1.fB x16).bind λx17=>chk (0<=x13/\x13<((x5.1.fB.length:Nat):Int))<|chk (0<=x13/\x13<(x12.length:Int))<|nx1 (x12.set x13.toNat x17) (wk .i64 (x13+1)))else nx1 x12 (wk .i64 (x13+1)))else tens_Pick.c3 fu x5 x7 x8 x12
def tens_Pick.W1(fu:Nat)(x1:T_Tensor)(x3:List Int)(x5:T_Tensor×Int)(x7:List Int)(x8:List Int)(x12:List Bool)(x13:Int):Option (T_Tensor×Int):=
  cloop (λnext s=>tens_Pick.L1 fu x1 x3 x5 x7 x8 (λx12 x13=>next (x12,x13)) s.1 s.2) fu (x12,x13)
def tens_Pick.c2(fu:Nat)(x1:T_Tensor)(x3:List Int)(x5:T_Tensor×Int)(x7:List Int)(x8:List Int):Option (T_Tensor×Int):=
  chk (x5.1.fI.length=x8.length)<|jc 3 () (λ(t:List Bool)=>tens_Pick.c3 fu x5 x7 x8 t)<|if((x5.1.fB.length:Nat):Int)=0 then(tens_Pick.c3 fu x5 x7 x8 x5.1.fB)else tens_Pick.W1 fu x1 x3 x5 x7 x8 x5.1.fB 0
def tens_Pick.L2(fu:Nat)(x1:T_Tensor)(x3:List Int)(x5:T_Tensor×Int)(x7:List Int)(nx2:(List Int)→Int→Option (T_Tensor×Int))(x20:List Int)(x21:Int):Option (T_Tensor×Int):=
  if x21<(x3.length:Int)then((at? x3 x21).bind λx24=>if 0<=x24 then((at? x1.fI x24).bind λx25=>chk (0<=x21/\x21<((x5.1.fI.length:Nat):Int))<|chk (0<=x21/\x21<(x20.length:Int))<|nx2 (x20.set x21.toNat x25) (wk .i64 (x21+1)))else nx2 x20 (wk .i64 (x21+1)))else tens_Pick.c2 fu x1 x3 x5 x7 x20
def tens_Pick.W2(fu:Nat)(x1:T_Tensor)(x3:List Int)(x5:T_Tensor×Int)(x7:List Int)(x20:List Int)(x21:Int):Option (T_Tensor×Int):=
  cloop (λnext s=>tens_Pick.L2 fu x1 x3 x5 x7 (λx20 x21=>next (x20,x21)) s.1 s.2) fu (x20,x21)
def tens_Pick.c1(fu:Nat)(x1:T_Tensor)(x3:List Int)(x5:T_Tensor×Int)(x7:List Int):Option (T_Tensor×Int):=
  chk (x5.1.fF.length=x7.length)<|jc 2 () (λ(t:List Int)=>tens_Pick.c2 fu x1 x3 x5 x7 t)<|if((x5.1.fI.length:Nat):Int)=0 then(tens_Pick.c2 fu x1 x3 x5 x7 x5.1.fI)else tens_Pick.W2 fu x1 x3 x5 x7 x5.1.fI 0
def tens_Pick.L3(fu:Nat)(x1:T_Tensor)(x3:List Int)(x5:T_Tensor×Int)(nx3:(List Int)→Int→Option (T_Tensor×Int))(x28:List Int)(x29:Int):Option (T_Tensor×Int):=
  if x29<(x3.length:Int)then((at? x3 x29).bind λx32=>if 0<=x32 then((at? x1.fF x32).bind λx33=>chk (0<=x29/\x29<((x5.1.fF.length:Nat):Int))<|chk (0<=x29/\x29<(x28.length:Int))<|nx3 (x28.set x29.toNat x33) (wk .i64 (x29+1)))else nx3 x28 (wk .i64 (x29+1)))else tens_Pick.c1 fu x1 x3 x5 x28
def tens_Pick.W3(fu:Nat)(x1:T_Tensor)(x3:List Int)(x5:T_Tensor×Int)(x28:List Int)(x29:Int):Option (T_Tensor×Int):=
  cloop (λnext s=>tens_Pick.L3 fu x1 x3 x5 (λx28 x29=>next (x28,x29)) s.1 s.2) fu (x28,x29)
def tens_Pick(fu:Nat)(x1:T_Tensor)(x2:List Int)(x3:List Int):Option (T_Tensor×Int):=
  (tens_Check fu x1).bind λx4=>if x4=0 then((tens_New fu x1.fType x2).bind λx5=>if x5.2=0 then(if(x3.length:Int)=(wk .i64 ((wk .i64 (((x5.1.fF.length:Nat):Int)+((x5.1.fI.length:Nat):Int)))+((x5.1.fB.length:Nat):Int)))then((slices_ContainsFunc_int fu x3 (λy0=>tens_Pick_1 fu y0 (wk .i64 ((wk .i64 ((x1.fF.length:Int)+(x1.fI.length:Int)))+(x1.fB.length:Int))))).bind λx6=>if x6=true then(some (T_Tensor.mk 0 ([]) ([]) ([]) ([]),2))else jc 1 () (λ(t:List Int)=>tens_Pick.c1 fu x1 x3 x5 t)<|if((x5.1.fF.length:Nat):Int)=0 then(tens_Pick.c1 fu x1 x3 x5 x5.1.fF)else tens_Pick.W3 fu x1 x3 x5 x5.1.fF 0)else some (T_Tensor.mk 0 ([]) ([]) ([]) ([]),3))else some (T_Tensor.mk 0 ([]) ([]) ([]) ([]),x5.2))else some (T_Tensor.mk 0 ([]) ([]) ([]) ([]),x4)
def moves_Do.k2(fu:Nat)(x2:T_Setting)(x8:Int)(x9:Int)(x10:List Int)(x11:List Int)(x12:List Int)(x13:List Bool)(x14:List Int)(x15:List Int)(x16:List Int)(x17:List Bool)(x19:(List T_Val)×Int)(x20:Int×Int)(x21:List Int):Option ((List T_Tensor)×Int):=
  (at? x19.1 0).bind λx22=>(moves_move_along fu (T_moves_move.mk 51 (T_Setting.mk x2.fAxis x2.fAxes x2.fHasAxes x2.fKeep x2.fNoop x2.fLast x2.fZero x2.fPerm x2.fHasPerm x2.fAlpha x2.fBeta x2.fEpsilon x2.fLow x2.fHigh x2.fFmod x2.fTo 0 x2.fTransA x2.fTransB x2.fGroup x2.fKernel x2.fStrides x2.fPads x2.fDilations x2.fAuto x2.fCeil x2.fCount x2.fBlock x2.fStart x2.fEnd x2.fHasEnd x2.fValue) ([T_Tensor.mk x8 x10 x11 x12 x13,T_Tensor.mk x9 x14 x15 x16 x17]) (T_Tensor.mk x8 x10 x11 x12 x13) x20.1) x21).bind λx23=>(tens_Pick fu (T_Tensor.mk x8 x10 x11 x12 x13) x22.fDims x23).bind λx24=>some ([x24.1],0)
def moves_Do.k1(fu:Nat)(x2:T_Setting)(x4:Int)(x5:T_Tensor)(x6:T_Tensor)(x8:Int)(x9:Int)(x10:List Int)(x11:List Int)(x12:List Int)(x13:List Bool)(x14:List Int)(x15:List Int)(x16:List Int)(x17:List Bool):Option ((List T_Tensor)×Int):=
  (ewise_Vals fu ([x5,x6])).bind λx18=>(infer_Node fu 51 (T_Setting.mk x2.fAxis x2.fAxes x2.fHasAxes x2.fKeep x2.fNoop x2.fLast x2.fZero x2.fPerm x2.fHasPerm x2.fAlpha x2.fBeta x2.fEpsilon x2.fLow x2.fHigh x2.fFmod x2.fTo 0 x2.fTransA x2.fTransB x2.fGroup x2.fKernel x2.fStrides x2.fPads x2.fDilations x2.fAuto x2.fCeil x2.fCount x2.fBlock x2.fStart x2.fEnd x2.fHasEnd x2.fValue) x18 x4).bind λx19=>if x19.2=0 then((shape_Axis fu x2.fAxis (x10.length:Int)).bind λx20=>jn 2 () (λ(t:List Int)=>moves_Do.k2 fu x2 x8 x9 x10 x11 x12 x13 x14 x15 x16 x17 x19 x20 t)<|(moves_move_named fu (T_moves_move.mk 51 (T_Setting.mk x2.fAxis x2.fAxes x2.fHasAxes x2.fKeep x2.fNoop x2.fLast x2.fZero x2.fPerm x2.fHasPerm x2.fAlpha x2.fBeta x2.fEpsilon x2.fLow x2.fHigh x2.fFmod x2.fTo 0 x2.fTransA x2.fTransB x2.fGroup x2.fKernel x2.fStrides x2.fPads x2.fDilations x2.fAuto x2.fCeil x2.fCount x2.fBlock x2.fStart x2.fEnd x2.fHasEnd x2.fValue) ([T_Tensor.mk x8 x10 x11 x12 x13,T_Tensor.mk x9 x14 x15 x16 x17]) (T_Tensor.mk x8 x10 x11 x12 x13) x20.1)).bind λx25=>if x25.2=true then(moves_Do.k2 fu x2 x8 x9 x10 x11 x12 x13 x14 x15 x16 x17 x19 x20 x25.1)else some ([],11))else some ([],x19.2)
def moves_Do.L1(fu:Nat)(x46:Int)(x49:List Int)(x50:List Int)(x51:List Int)(x52:List Bool)(x58:List Int)(x59:List Int)(x60:List Bool)(x66:List Int)(nx1:(List Int)→(List Int)→(List Bool)→Int→Option ((List T_Tensor)×Int))(x71:List Int)(x72:List Int)(x73:List Bool)(x74:Int):Option ((List T_Tensor)×Int):=
  chk (x50.length=x71.length)<|chk (x51.length=x72.length)<|chk (x52.length=x73.length)<|if x74<(x66.length:Int)then((at? x66 x74).bind λx79=>if x46=9 then((at? x60 x74).bind λx80=>chk (0<=x79/\x79<(x73.length:Int))<|nx1 x71 x72 (x73.set x79.toNat x80) (wk .i64 (x74+1)))else if x46=7 then((at? x59 x74).bind λx81=>chk (0<=x79/\x79<(x72.length:Int))<|nx1 x71 (x72.set x79.toNat x81) x73 (wk .i64 (x74+1)))else(at? x58 x74).bind λx82=>chk (0<=x79/\x79<(x71.length:Int))<|nx1 (x71.set x79.toNat x82) x72 x73 (wk .i64 (x74+1)))else some ([T_Tensor.mk x46 x49 x71 x72 x73],0)
def moves_Do.W1(fu:Nat)(x46:Int)(x49:List Int)(x50:List Int)(x51:List Int)(x52:List Bool)(x58:List Int)(x59:List Int)(x60:List Bool)(x66:List Int)(x71:List Int)(x72:List Int)(x73:List Bool)(x74:Int):Option ((List T_Tensor)×Int):=
  cloop (λnext s=>moves_Do.L1 fu x46 x49 x50 x51 x52 x58 x59 x60 x66 (λx71 x72 x73 x74=>next (x71,x72,x73,x74)) s.1 s.2.1 s.2.2.1 s.2.2.2) fu (x71,x72,x73,x74)
def moves_Do.k4(fu:Nat)(x2:T_Setting)(x46:Int)(x47:Int)(x48:Int)(x49:List Int)(x50:List Int)(x51:List Int)(x52:List Bool)(x53:List Int)(x54:List Int)(x55:List Int)(x56:List Bool)(x57:List Int)(x58:List Int)(x59:List Int)(x60:List Bool)(x62:(List T_Val)×Int)(x63:Int×Int)(x64:List Int):Option ((List T_Tensor)×Int):=
  (at? x62.1 0).bind λx65=>(moves_move_along fu (T_moves_move.mk 52 (T_Setting.mk x2.fAxis x2.fAxes x2.fHasAxes x2.fKeep x2.fNoop x2.fLast x2.fZero x2.fPerm x2.fHasPerm x2.fAlpha x2.fBeta x2.fEpsilon x2.fLow x2.fHigh x2.fFmod x2.fTo 0 x2.fTransA x2.fTransB x2.fGroup x2.fKernel x2.fStrides x2.fPads x2.fDilations x2.fAuto x2.fCeil x2.fCount x2.fBlock x2.fStart x2.fEnd x2.fHasEnd x2.fValue) ([T_Tensor.mk x46 x49 x50 x51 x52,T_Tensor.mk x47 x53 x54 x55 x56,T_Tensor.mk x48 x57 x58 x59 x60]) (T_Tensor.mk x46 x49 x50 x51 x52) x63.1) x64).bind λx66=>moves_Do.W1 fu x46 x49 x50 x51 x52 x58 x59 x60 x66 x50 x51 x52 0
def moves_Do.k3(fu:Nat)(x2:T_Setting)(x4:Int)(x42:T_Tensor)(x43:T_Tensor)(x44:T_Tensor)(x46:Int)(x47:Int)(x48:Int)(x49:List Int)(x50:List Int)(x51:List Int)(x52:List Bool)(x53:List Int)(x54:List Int)(x55:List Int)(x56:List Bool)(x57:List Int)(x58:List Int)(x59:List Int)(x60:List Bool):Option ((List T_Tensor)×Int):=
  (ewise_Vals fu ([x42,x43,x44])).bind λx61=>(infer_Node fu 52 (T_Setting.mk x2.fAxis x2.fAxes x2.fHasAxes x2.fKeep x2.fNoop x2.fLast x2.fZero x2.fPerm x2.fHasPerm x2.fAlpha x2.fBeta x2.fEpsilon x2.fLow x2.fHigh x2.fFmod x2.fTo 0 x2.fTransA x2.fTransB x2.fGroup x2.fKernel x2.fStrides x2.fPads x2.fDilations x2.fAuto x2.fCeil x2.fCount x2.fBlock x2.fStart x2.fEnd x2.fHasEnd x2.fValue) x61 x4).bind λx62=>if x62.2=0 then((shape_Axis fu x2.fAxis (x49.length:Int)).bind λx63=>jn 4 () (λ(t:List Int)=>moves_Do.k4 fu x2 x46 x47 x48 x49 x50 x51 x52 x53 x54 x55 x56 x57 x58 x59 x60 x62 x63 t)<|(moves_move_named fu (T_moves_move.mk 52 (T_Setting.mk x2.fAxis x2.fAxes x2.fHasAxes x2.fKeep x2.fNoop x2.fLast x2.fZero x2.fPerm x2.fHasPerm x2.fAlpha x2.fBeta x2.fEpsilon x2.fLow x2.fHigh x2.fFmod x2.fTo 0 x2.fTransA x2.fTransB x2.fGroup x2.fKernel x2.fStrides x2.fPads x2.fDilations x2.fAuto x2.fCeil x2.fCount x2.fBlock x2.fStart x2.fEnd x2.fHasEnd x2.fValue) ([T_Tensor.mk x46 x49 x50 x51 x52,T_Tensor.mk x47 x53 x54 x55 x56,T_Tensor.mk x48 x57 x58 x59 x60]) (T_Tensor.mk x46 x49 x50 x51 x52) x63.1)).bind λx83=>if x83.2=true then(moves_Do.k4 fu x2 x46 x47 x48 x49 x50 x51 x52 x53 x54 x55 x56 x57 x58 x59 x60 x62 x63 x83.1)else some ([],11))else some ([],x62.2)
def moves_Do(fu:Nat)(x1:Int)(x2:T_Setting)(x3:List T_Tensor)(x4:Int):Option ((List T_Tensor)×Int):=
  chk (x2.fMode=0)<|spl (x1=51) (l2 x3 λx5 x6=>(moves_Has fu 51).bind λx7=>if x7=true then(jn 1 () (λ(t:Int×Int×(List Int)×(List Int)×(List Int)×(List Bool)×(List Int)×(List Int)×(List Int)×(List Bool))=>moves_Do.k1 fu x2 x4 x5 x6 t.1 t.2.1 t.2.2.1 t.2.2.2.1 t.2.2.2.2.1 t.2.2.2.2.2.1 t.2.2.2.2.2.2.1 t.2.2.2.2.2.2.2.1 t.2.2.2.2.2.2.2.2.1 t.2.2.2.2.2.2.2.2.2)<|un fu λx26=>if x5.fType=0 then((tens_Canon fu x5).bind λx27=>un x26 λx28=>if x6.fType=0 then((tens_Canon fu x6).bind λx29=>un x28 λx30=>moves_Do.k1 fu x2 x4 x5 x6 x27.fType x29.fType x27.fDims x27.fF x27.fI x27.fB x29.fDims x29.fF x29.fI x29.fB)else(tens_Check fu x6).bind λx31=>if x31=0 then((tens_Canon fu x6).bind λx32=>un x28 λx33=>moves_Do.k1 fu x2 x4 x5 x6 x27.fType x32.fType x27.fDims x27.fF x27.fI x27.fB x32.fDims x32.fF x32.fI x32.fB)else some ([],x31))else(tens_Check fu x5).bind λx34=>if x34=0 then((tens_Canon fu x5).bind λx35=>un x26 λx36=>if x6.fType=0 then((tens_Canon fu x6).bind λx37=>un x36 λx38=>moves_Do.k1 fu x2 x4 x5 x6 x35.fType x37.fType x35.fDims x35.fF x35.fI x35.fB x37.fDims x37.fF x37.fI x37.fB)else(tens_Check fu x6).bind λx39=>if x39=0 then((tens_Canon fu x6).bind λx40=>un x36 λx41=>moves_Do.k1 fu x2 x4 x5 x6 x35.fType x40.fType x35.fDims x35.fF x35.fI x35.fB x40.fDims x40.fF x40.fI x40.fB)else some ([],x39))else some ([],x34))else some ([],1)) (chk (x1=52)<|l3 x3 λx42 x43 x44=>(moves_Has fu 52).bind λx45=>if x45=true then(jn 3 () (λ(t:Int×Int×Int×(List Int)×(List Int)×(List Int)×(List Bool)×(List Int)×(List Int)×(List Int)×(List Bool)×(List Int)×(List Int)×(List Int)×(List Bool))=>moves_Do.k3 fu x2 x4 x42 x43 x44 t.1 t.2.1 t.2.2.1 t.2.2.2.1 t.2.2.2.2.1 t.2.2.2.2.2.1 t.2.2.2.2.2.2.1 t.2.2.2.2.2.2.2.1 t.2.2.2.2.2.2.2.2.1 t.2.2.2.2.2.2.2.2.2.1 t.2.2.2.2.2.2.2.2.2.2.1 t.2.2.2.2.2.2.2.2.2.2.2.1 t.2.2.2.2.2.2.2.2.2.2.2.2.1 t.2.2.2.2.2.2.2.2.2.2.2.2.2.1 t.2.2.2.2.2.2.2.2.2.2.2.2.2.2)<|un fu λx84=>if x42.fType=0 then((tens_Canon fu x42).bind λx85=>un x84 λx86=>if x43.fType=0 then((tens_Canon fu x43).bind λx87=>un x86 λx88=>if x44.fType=0 then((tens_Canon fu x44).bind λx89=>un x88 λx90=>moves_Do.k3 fu x2 x4 x42 x43 x44 x85.fType x87.fType x89.fType x85.fDims x85.fF x85.fI x85.fB x87.fDims x87.fF x87.fI x87.fB x89.fDims x89.fF x89.fI x89.fB)else(tens_Check fu x44).bind λx91=>if x91=0 then((tens_Canon fu x44).bind λx92=>un x88 λx93=>moves_Do.k3 fu x2 x4 x42 x43 x44 x85.fType x87.fType x92.fType x85.fDims x85.fF x85.fI x85.fB x87.fDims x87.fF x87.fI x87.fB x92.fDims x92.fF x92.fI x92.fB)else some ([],x91))else(tens_Check fu x43).bind λx94=>if x94=0 then((tens_Canon fu x43).bind λx95=>un x86 λx96=>if x44.fType=0 then((tens_Canon fu x44).bind λx97=>un x96 λx98=>moves_Do.k3 fu x2 x4 x42 x43 x44 x85.fType x95.fType x97.fType x85.fDims x85.fF x85.fI x85.fB x95.fDims x95.fF x95.fI x95.fB x97.fDims x97.fF x97.fI x97.fB)else(tens_Check fu x44).bind λx99=>if x99=0 then((tens_Canon fu x44).bind λx100=>un x96 λx101=>moves_Do.k3 fu x2 x4 x42 x43 x44 x85.fType x95.fType x100.fType x85.fDims x85.fF x85.fI x85.fB x95.fDims x95.fF x95.fI x95.fB x100.fDims x100.fF x100.fI x100.fB)else some ([],x99))else some ([],x94))else(tens_Check fu x42).bind λx102=>if x102=0 then((tens_Canon fu x42).bind λx103=>un x84 λx104=>if x43.fType=0 then((tens_Canon fu x43).bind λx105=>un x104 λx106=>if x44.fType=0 then((tens_Canon fu x44).bind λx107=>un x106 λx108=>moves_Do.k3 fu x2 x4 x42 x43 x44 x103.fType x105.fType x107.fType x103.fDims x103.fF x103.fI x103.fB x105.fDims x105.fF x105.fI x105.fB x107.fDims x107.fF x107.fI x107.fB)else(tens_Check fu x44).bind λx109=>if x109=0 then((tens_Canon fu x44).bind λx110=>un x106 λx111=>moves_Do.k3 fu x2 x4 x42 x43 x44 x103.fType x105.fType x110.fType x103.fDims x103.fF x103.fI x103.fB x105.fDims x105.fF x105.fI x105.fB x110.fDims x110.fF x110.fI x110.fB)else some ([],x109))else(tens_Check fu x43).bind λx112=>if x112=0 then((tens_Canon fu x43).bind λx113=>un x104 λx114=>if x44.fType=0 then((tens_Canon fu x44).bind λx115=>un x114 λx116=>moves_Do.k3 fu x2 x4 x42 x43 x44 x103.fType x113.fType x115.fType x103.fDims x103.fF x103.fI x103.fB x113.fDims x113.fF x113.fI x113.fB x115.fDims x115.fF x115.fI x115.fB)else(tens_Check fu x44).bind λx117=>if x117=0 then((tens_Canon fu x44).bind λx118=>un x114 λx119=>moves_Do.k3 fu x2 x4 x42 x43 x44 x103.fType x113.fType x118.fType x103.fDims x103.fF x103.fI x103.fB x113.fDims x113.fF x113.fI x113.fB x118.fDims x118.fF x118.fI x118.fB)else some ([],x117))else some ([],x112))else some ([],x102))else some ([],1))
def ref05_Copy(fu:Nat)(x1:T_Tensor):Option T_Tensor:=
  chk ((x1.fDims.length:Int)*8<=140737488355328)<|chk ((x1.fF.length:Int)*4<=140737488355328)<|chk ((x1.fI.length:Int)*8<=140737488355328)<|chk ((x1.fB.length:Int)*1<=140737488355328)<|some x1
def ref01_Abs(fu:Nat)(x1:Int):Option Int:=
  some (Int.tmod x1 2147483648)
def ref01_IsNone(fu:Nat)(x1:Int):Option Bool:=
  (ref01_Abs fu x1).bind λx2=>some (decide (2139095040<x2))
def ref01_Canon(fu:Nat)(x1:Int):Option Int:=
  (ref01_IsNone fu x1).bind λx2=>if x2=true then(some 2143289344)else some x1
def ref05_Canon.L1(fu:Nat)(x2:T_Tensor)(nx1:(List Int)→Int→Option T_Tensor)(x5:List Int)(x6:Int):Option T_Tensor:=
  if x6<(x5.length:Int)then((at? x5 x6).bind λx9=>(ref01_Canon fu x9).bind λx10=>chk (0<=x6/\x6<(x5.length:Int))<|nx1 (x5.set x6.toNat x10) (wk .i64 (x6+1)))else some (T_Tensor.mk x2.fType x2.fDims x5 x2.fI x2.fB)
def ref05_Canon.W1(fu:Nat)(x2:T_Tensor)(x5:List Int)(x6:Int):Option T_Tensor:=
  cloop (λnext s=>ref05_Canon.L1 fu x2 (λx5 x6=>next (x5,x6)) s.1 s.2) fu (x5,x6)
def ref05_Canon(fu:Nat)(x1:T_Tensor):Option T_Tensor:=
  (ref05_Copy fu x1).bind λx2=>ref05_Canon.W1 fu x2 x2.fF 0
def ref04_SameInts.L1(fu:Nat)(x1:List Int)(x2:List Int)(nx1:Int→Option Bool)(x5:Int):Option Bool:=
  if x5<(x1.length:Int)then((at? x1 x5).bind λx8=>(at? x2 x5).bind λx9=>if x8=x9 then(nx1 (wk .i64 (x5+1)))else some false)else some true
def ref04_SameInts.W1(fu:Nat)(x1:List Int)(x2:List Int)(x5:Int):Option Bool:=
  cloop (λnext s=>ref04_SameInts.L1 fu x1 x2 next s) fu x5
def ref04_SameInts(fu:Nat)(x1:List Int)(x2:List Int):Option Bool:=
  if(x1.length:Int)=(x2.length:Int)then(ref04_SameInts.W1 fu x1 x2 0)else some false
def ref05_Same.L1(fu:Nat)(x1:T_Tensor)(x2:T_Tensor)(nx1:Int→Option Bool)(x5:Int):Option Bool:=
  if x5<(x1.fB.length:Int)then((at? x1.fB x5).bind λx8=>(at? x2.fB x5).bind λx9=>if(x8==x9)=true then(nx1 (wk .i64 (x5+1)))else some false)else some true
def ref05_Same.W1(fu:Nat)(x1:T_Tensor)(x2:T_Tensor)(x5:Int):Option Bool:=
  cloop (λnext s=>ref05_Same.L1 fu x1 x2 next s) fu x5
def ref05_Same.k3(fu:Nat)(x1:T_Tensor)(x2:T_Tensor):Option Bool:=
  ref05_Same.W1 fu x1 x2 0
def ref05_Same.L2(fu:Nat)(x1:T_Tensor)(x2:T_Tensor)(nx2:Int→Option Bool)(x12:Int):Option Bool:=
  if x12<(x1.fI.length:Int)then((at? x1.fI x12).bind λx15=>(at? x2.fI x12).bind λx16=>if x15=x16 then(nx2 (wk .i64 (x12+1)))else some false)else ref05_Same.k3 fu x1 x2
def ref05_Same.W2(fu:Nat)(x1:T_Tensor)(x2:T_Tensor)(x12:Int):Option Bool:=
  cloop (λnext s=>ref05_Same.L2 fu x1 x2 next s) fu x12
def ref05_Same.k2(fu:Nat)(x1:T_Tensor)(x2:T_Tensor):Option Bool:=
  jn 3 () (λ(t:Unit)=>ref05_Same.k3 fu x1 x2)<|ref05_Same.W2 fu x1 x2 0
def ref05_Same.L3(fu:Nat)(x1:T_Tensor)(x2:T_Tensor)(nx3:Int→Option Bool)(x19:Int):Option Bool:=
  if x19<(x1.fF.length:Int)then((at? x1.fF x19).bind λx22=>(at? x2.fF x19).bind λx23=>if x22=x23 then(nx3 (wk .i64 (x19+1)))else some false)else ref05_Same.k2 fu x1 x2
def ref05_Same.W3(fu:Nat)(x1:T_Tensor)(x2:T_Tensor)(x19:Int):Option Bool:=
  cloop (λnext s=>ref05_Same.L3 fu x1 x2 next s) fu x19
def ref05_Same.k1(fu:Nat)(x1:T_Tensor)(x2:T_Tensor):Option Bool:=
  jn 2 () (λ(t:Unit)=>ref05_Same.k2 fu x1 x2)<|ref05_Same.W3 fu x1 x2 0
def ref05_Same(fu:Nat)(x1:T_Tensor)(x2:T_Tensor):Option Bool:=
  jn 1 () (λ(t:Unit)=>ref05_Same.k1 fu x1 x2)<|if x1.fType=x2.fType then((ref04_SameInts fu x1.fDims x2.fDims).bind λx24=>if x24=true then(if(x1.fF.length:Int)=(x2.fF.length:Int)then(if(x1.fI.length:Int)=(x2.fI.length:Int)then(if(x1.fB.length:Int)=(x2.fB.length:Int)then(ref05_Same.k1 fu x1 x2)else some false)else some false)else some false)else some false)else some false
def law12_MovesScatter.k1(fu:Nat)(x4:(List T_Tensor)×Int):Option Bool:=
  some (decide ((x4.1.length:Int)=0))
def law12_MovesScatter(fu:Nat)(x1:T_Tensor)(x2:T_Tensor)(x3:Int):Option Bool:=
  (moves_Do fu 51 (T_Setting.mk x3 ([]) false false false false false ([]) false 0 0 0 false false false 0 0 false false 0 ([]) ([]) ([]) ([]) 0 false false 0 0 0 false (T_Tensor.mk 0 ([]) ([]) ([]) ([]))) ([x1,x2]) 1).bind λx4=>if x4.2=0 then(if(x4.1.length:Int)=1 then((at? x4.1 0).bind λx5=>(moves_Do fu 52 (T_Setting.mk x3 ([]) false false false false false ([]) false 0 0 0 false false false 0 0 false false 0 ([]) ([]) ([]) ([]) 0 false false 0 0 0 false (T_Tensor.mk 0 ([]) ([]) ([]) ([]))) ([x1,x2,x5]) 1).bind λx6=>if x6.2=0 then(if(x6.1.length:Int)=1 then((at? x6.1 0).bind λx7=>(ref05_Canon fu x1).bind λx8=>(ref05_Same fu x7 x8).bind λx9=>some x9)else some false)else some false)else some false)else jn 1 x4 (λ(t:Unit)=>law12_MovesScatter.k1 fu x4)<|law12_MovesScatter.k1 fu x4
end Go.Av
