/- Plain functions, as the program has them; data of structs. Made by a program of mine. Conditions: none. -/
import Derived.Test.YtebfneaimafcoaaGreatAy
set_option linter.unusedVariables false
namespace Go.Av
structure T_Tensor where
  fType:Int
  fDims:List Int
  fF:List Int
  fI:List Int
  fB:List Bool
def c_T_Tensor(x:T_Tensor):List AV:=[.v (.int .i64 x.fType),.arr x.fDims.length (lm (ik .i64) x.fDims),.arr x.fF.length (lm (ik .u32) x.fF),.arr x.fI.length (lm (ik .i64) x.fI),.arr x.fB.length (lm (bk) x.fB)]
theorem c_T_Tensor_len: ∀ x,(c_T_Tensor x).length=5:=λ_=>rfl
theorem c_T_Tensor_one: ∀ x,(c_T_Tensor x).all AV.one=true:=λ_=>rfl
structure T_Setting where
  fAxis:Int
  fAxes:List Int
  fHasAxes:Bool
  fKeep:Bool
  fNoop:Bool
  fLast:Bool
  fZero:Bool
  fPerm:List Int
  fHasPerm:Bool
  fAlpha:Int
  fBeta:Int
  fEpsilon:Int
  fLow:Bool
  fHigh:Bool
  fFmod:Bool
  fTo:Int
  fMode:Int
  fTransA:Bool
  fTransB:Bool
  fGroup:Int
  fKernel:List Int
  fStrides:List Int
  fPads:List Int
  fDilations:List Int
  fAuto:Int
  fCeil:Bool
  fCount:Bool
  fBlock:Int
  fStart:Int
  fEnd:Int
  fHasEnd:Bool
  fValue:T_Tensor
def c_T_Setting(x:T_Setting):List AV:=[.v (.int .i64 x.fAxis),.arr x.fAxes.length (lm (ik .i64) x.fAxes),.v (.bool x.fHasAxes),.v (.bool x.fKeep),.v (.bool x.fNoop),.v (.bool x.fLast),.v (.bool x.fZero),.arr x.fPerm.length (lm (ik .i64) x.fPerm),.v (.bool x.fHasPerm),.v (.int .u32 x.fAlpha),.v (.int .u32 x.fBeta),.v (.int .u32 x.fEpsilon),.v (.bool x.fLow),.v (.bool x.fHigh),.v (.bool x.fFmod),.v (.int .i64 x.fTo),.v (.int .i64 x.fMode),.v (.bool x.fTransA),.v (.bool x.fTransB),.v (.int .i64 x.fGroup),.arr x.fKernel.length (lm (ik .i64) x.fKernel),.arr x.fStrides.length (lm (ik .i64) x.fStrides),.arr x.fPads.length (lm (ik .i64) x.fPads),.arr x.fDilations.length (lm (ik .i64) x.fDilations),.v (.int .i64 x.fAuto),.v (.bool x.fCeil),.v (.bool x.fCount),.v (.int .i64 x.fBlock),.v (.int .i64 x.fStart),.v (.int .i64 x.fEnd),.v (.bool x.fHasEnd),.v (.int .i64 x.fValue.fType),.arr x.fValue.fDims.length (lm (ik .i64) x.fValue.fDims),.arr x.fValue.fF.length (lm (ik .u32) x.fValue.fF),.arr x.fValue.fI.length (lm (ik .i64) x.fValue.fI),.arr x.fValue.fB.length (lm (bk) x.fValue.fB)]
theorem c_T_Setting_len: ∀ x,(c_T_Setting x).length=36:=λ_=>rfl
theorem c_T_Setting_one: ∀ x,(c_T_Setting x).all AV.one=true:=λ_=>rfl
structure T_Val where
  fType:Int
  fDims:List Int
  fConst:Bool
  fT:T_Tensor
def c_T_Val(x:T_Val):List AV:=[.v (.int .i64 x.fType),.arr x.fDims.length (lm (ik .i64) x.fDims),.v (.bool x.fConst),.v (.int .i64 x.fT.fType),.arr x.fT.fDims.length (lm (ik .i64) x.fT.fDims),.arr x.fT.fF.length (lm (ik .u32) x.fT.fF),.arr x.fT.fI.length (lm (ik .i64) x.fT.fI),.arr x.fT.fB.length (lm (bk) x.fT.fB)]
theorem c_T_Val_len: ∀ x,(c_T_Val x).length=8:=λ_=>rfl
theorem c_T_Val_one: ∀ x,(c_T_Val x).all AV.one=true:=λ_=>rfl
structure T_infer_ask where
  fop:Int
  fs:T_Setting
  fin:List T_Val
  fouts:Int
def c_T_infer_ask(x:T_infer_ask):List AV:=[.v (.int .i64 x.fop),.v (.int .i64 x.fs.fAxis),.arr x.fs.fAxes.length (lm (ik .i64) x.fs.fAxes),.v (.bool x.fs.fHasAxes),.v (.bool x.fs.fKeep),.v (.bool x.fs.fNoop),.v (.bool x.fs.fLast),.v (.bool x.fs.fZero),.arr x.fs.fPerm.length (lm (ik .i64) x.fs.fPerm),.v (.bool x.fs.fHasPerm),.v (.int .u32 x.fs.fAlpha),.v (.int .u32 x.fs.fBeta),.v (.int .u32 x.fs.fEpsilon),.v (.bool x.fs.fLow),.v (.bool x.fs.fHigh),.v (.bool x.fs.fFmod),.v (.int .i64 x.fs.fTo),.v (.int .i64 x.fs.fMode),.v (.bool x.fs.fTransA),.v (.bool x.fs.fTransB),.v (.int .i64 x.fs.fGroup),.arr x.fs.fKernel.length (lm (ik .i64) x.fs.fKernel),.arr x.fs.fStrides.length (lm (ik .i64) x.fs.fStrides),.arr x.fs.fPads.length (lm (ik .i64) x.fs.fPads),.arr x.fs.fDilations.length (lm (ik .i64) x.fs.fDilations),.v (.int .i64 x.fs.fAuto),.v (.bool x.fs.fCeil),.v (.bool x.fs.fCount),.v (.int .i64 x.fs.fBlock),.v (.int .i64 x.fs.fStart),.v (.int .i64 x.fs.fEnd),.v (.bool x.fs.fHasEnd),.v (.int .i64 x.fs.fValue.fType),.arr x.fs.fValue.fDims.length (lm (ik .i64) x.fs.fValue.fDims),.arr x.fs.fValue.fF.length (lm (ik .u32) x.fs.fValue.fF),.arr x.fs.fValue.fI.length (lm (ik .i64) x.fs.fValue.fI),.arr x.fs.fValue.fB.length (lm (bk) x.fs.fValue.fB),.arr x.fin.length (fm c_T_Val x.fin),.v (.int .i64 x.fouts)]
theorem c_T_infer_ask_len: ∀ x,(c_T_infer_ask x).length=39:=λ_=>rfl
theorem c_T_infer_ask_one: ∀ x,(c_T_infer_ask x).all AV.one=true:=λ_=>rfl
structure T_reduce_work where
  fop:Int
  fs:T_Setting
  fin:List T_Tensor
  fx:T_Tensor
  fout:T_Tensor
def c_T_reduce_work(x:T_reduce_work):List AV:=[.v (.int .i64 x.fop),.v (.int .i64 x.fs.fAxis),.arr x.fs.fAxes.length (lm (ik .i64) x.fs.fAxes),.v (.bool x.fs.fHasAxes),.v (.bool x.fs.fKeep),.v (.bool x.fs.fNoop),.v (.bool x.fs.fLast),.v (.bool x.fs.fZero),.arr x.fs.fPerm.length (lm (ik .i64) x.fs.fPerm),.v (.bool x.fs.fHasPerm),.v (.int .u32 x.fs.fAlpha),.v (.int .u32 x.fs.fBeta),.v (.int .u32 x.fs.fEpsilon),.v (.bool x.fs.fLow),.v (.bool x.fs.fHigh),.v (.bool x.fs.fFmod),.v (.int .i64 x.fs.fTo),.v (.int .i64 x.fs.fMode),.v (.bool x.fs.fTransA),.v (.bool x.fs.fTransB),.v (.int .i64 x.fs.fGroup),.arr x.fs.fKernel.length (lm (ik .i64) x.fs.fKernel),.arr x.fs.fStrides.length (lm (ik .i64) x.fs.fStrides),.arr x.fs.fPads.length (lm (ik .i64) x.fs.fPads),.arr x.fs.fDilations.length (lm (ik .i64) x.fs.fDilations),.v (.int .i64 x.fs.fAuto),.v (.bool x.fs.fCeil),.v (.bool x.fs.fCount),.v (.int .i64 x.fs.fBlock),.v (.int .i64 x.fs.fStart),.v (.int .i64 x.fs.fEnd),.v (.bool x.fs.fHasEnd),.v (.int .i64 x.fs.fValue.fType),.arr x.fs.fValue.fDims.length (lm (ik .i64) x.fs.fValue.fDims),.arr x.fs.fValue.fF.length (lm (ik .u32) x.fs.fValue.fF),.arr x.fs.fValue.fI.length (lm (ik .i64) x.fs.fValue.fI),.arr x.fs.fValue.fB.length (lm (bk) x.fs.fValue.fB),.arr x.fin.length (fm c_T_Tensor x.fin),.v (.int .i64 x.fx.fType),.arr x.fx.fDims.length (lm (ik .i64) x.fx.fDims),.arr x.fx.fF.length (lm (ik .u32) x.fx.fF),.arr x.fx.fI.length (lm (ik .i64) x.fx.fI),.arr x.fx.fB.length (lm (bk) x.fx.fB),.v (.int .i64 x.fout.fType),.arr x.fout.fDims.length (lm (ik .i64) x.fout.fDims),.arr x.fout.fF.length (lm (ik .u32) x.fout.fF),.arr x.fout.fI.length (lm (ik .i64) x.fout.fI),.arr x.fout.fB.length (lm (bk) x.fout.fB)]
theorem c_T_reduce_work_len: ∀ x,(c_T_reduce_work x).length=48:=λ_=>rfl
theorem c_T_reduce_work_one: ∀ x,(c_T_reduce_work x).all AV.one=true:=λ_=>rfl
def ref05_Known(fu:Nat)(x1:Int):Option Bool:=
  if x1=1 then(some true)else if x1=7 then(some true)else some (decide (x1=9))
def ref04_Size.k2(fu:Nat)(nx1:Int→Int→Option (Int×Int))(x1:List Int)(x6:Int)(x7:Int):Option (Int×Int):=
  (at? x1 x7).bind λx10=>nx1 (wk .i64 (x6*x10)) (wk .i64 (x7+1))
def ref04_Size.L1(fu:Nat)(x1:List Int)(nx1:Int→Int→Option (Int×Int))(x6:Int)(x7:Int):Option (Int×Int):=
  if x7<(x1.length:Int)then(jn 2 () (λ(t:Unit)=>ref04_Size.k2 fu nx1 x1 x6 x7)<|(at? x1 x7).bind λx11=>if 4096<x11 then(some (0,4))else if 4096<(wk .i64 (x6*x11))then(some (0,4))else ref04_Size.k2 fu nx1 x1 x6 x7)else some (x6,0)
def ref04_Size.W1(fu:Nat)(x1:List Int)(x6:Int)(x7:Int):Option (Int×Int):=
  cloop (λnext s=>ref04_Size.L1 fu x1 (λx6 x7=>next (x6,x7)) s.1 s.2) fu (x6,x7)
def ref04_Size.k1(fu:Nat)(x1:List Int)(x2:Bool)(x3:Bool):Option (Int×Int):=
  if x3=true then(some (0,4))else if x2=true then(some (0,0))else ref04_Size.W1 fu x1 1 0
def ref04_Size.k3(fu:Nat)(nx2:Bool→Bool→Int→Option (Int×Int))(x14:Bool)(x15:Int)(x18:Int)(x19:Bool):Option (Int×Int):=
  if x14=true then(nx2 x19 true (wk .i64 (x15+1)))else nx2 x19 (decide (4096<x18)) (wk .i64 (x15+1))
def ref04_Size.L2(fu:Nat)(x1:List Int)(nx2:Bool→Bool→Int→Option (Int×Int))(x13:Bool)(x14:Bool)(x15:Int):Option (Int×Int):=
  if x15<(x1.length:Int)then((at? x1 x15).bind λx18=>if x18<0 then(some (0,1))else jn 3 () (λ(t:Bool)=>ref04_Size.k3 fu nx2 x14 x15 x18 t)<|if x13=true then(ref04_Size.k3 fu nx2 x14 x15 x18 true)else ref04_Size.k3 fu nx2 x14 x15 x18 (decide (x18=0)))else ref04_Size.k1 fu x1 x13 x14
def ref04_Size.W2(fu:Nat)(x1:List Int)(x13:Bool)(x14:Bool)(x15:Int):Option (Int×Int):=
  cloop (λnext s=>ref04_Size.L2 fu x1 (λx13 x14 x15=>next (x13,x14,x15)) s.1 s.2.1 s.2.2) fu (x13,x14,x15)
def ref04_Size(fu:Nat)(x1:List Int):Option (Int×Int):=
  jn 1 () (λ(t:Bool×Bool)=>ref04_Size.k1 fu x1 t.1 t.2)<|ref04_Size.W2 fu x1 false (decide (8<(x1.length:Int))) 0
def ref05_Check.k1(fu:Nat)(x1:T_Tensor)(x4:Int)(x5:Int)(x6:Int):Option Int:=
  if(x1.fF.length:Int)=x4 then(if(x1.fI.length:Int)=x5 then(if(x1.fB.length:Int)=x6 then(some 0)else some 3)else some 3)else some 3
def ref05_Check(fu:Nat)(x1:T_Tensor):Option Int:=
  (ref05_Known fu x1.fType).bind λx2=>if x2=true then((ref04_Size fu x1.fDims).bind λx3=>if x3.2=0 then(jn 1 () (λ(t:Int×Int×Int)=>ref05_Check.k1 fu x1 t.1 t.2.1 t.2.2)<|if x1.fType=1 then(ref05_Check.k1 fu x1 x3.1 0 0)else if x1.fType=7 then(ref05_Check.k1 fu x1 0 x3.1 0)else ref05_Check.k1 fu x1 0 0 x3.1)else some x3.2)else some 5
def ref05_Copy(fu:Nat)(x1:T_Tensor):Option T_Tensor:=
  chk ((x1.fDims.length:Int)*8<=140737488355328)<|chk ((x1.fF.length:Int)*4<=140737488355328)<|chk ((x1.fI.length:Int)*8<=140737488355328)<|chk ((x1.fB.length:Int)*1<=140737488355328)<|some x1
def reduce_Has(fu:Nat)(x1:Int):Option Bool:=
  spl (x1=67) (some true) (spl (x1=68) (some true) (spl (x1=65) (some true) (chk (x1=69)<|some true)))
def tens_Width(fu:Nat)(x1:Int):Option Int:=
  if x1=1 then(some 4)else if x1=7 then(some 8)else if x1=9 then(some 1)else some 0
def tens_known(fu:Nat)(x1:Int):Option Bool:=
  (tens_Width fu x1).bind λx2=>some (decide (0<x2))
def slices_IndexFunc_int.L1(fu:Nat)(p1:Int→Option Bool)(x1:List Int)(nx1:Int→Option Int)(x4:Int):Option Int:=
  if x4<(x1.length:Int)then((at? x1 x4).bind λx7=>(p1 x7).bind λx8=>if x8=true then(some x4)else nx1 (wk .i64 (x4+1)))else some (-1)
def slices_IndexFunc_int.W1(fu:Nat)(p1:Int→Option Bool)(x1:List Int)(x4:Int):Option Int:=
  cloop (λnext s=>slices_IndexFunc_int.L1 fu p1 x1 next s) fu x4
def slices_IndexFunc_int(fu:Nat)(x1:List Int)(p1:Int→Option Bool):Option Int:=
  slices_IndexFunc_int.W1 fu p1 x1 0
def slices_ContainsFunc_int(fu:Nat)(x1:List Int)(p1:Int→Option Bool):Option Bool:=
  (slices_IndexFunc_int fu x1 p1).bind λx2=>some (decide (0<=x2))
def shape_Size_1(fu:Nat)(x1:Int):Option Bool:=
  some (decide (x1<0))
def shape_Size_2(fu:Nat)(x1:Int):Option Bool:=
  some (decide (4096<x1))
def slices_Index_int.L1(fu:Nat)(x1:List Int)(x2:Int)(nx1:Int→Option Int)(x4:Int):Option Int:=
  if x4<(x1.length:Int)then((at? x1 x4).bind λx6=>if x2=x6 then(some x4)else nx1 (wk .i64 (x4+1)))else some (-1)
def slices_Index_int.W1(fu:Nat)(x1:List Int)(x2:Int)(x4:Int):Option Int:=
  cloop (λnext s=>slices_Index_int.L1 fu x1 x2 next s) fu x4
def slices_Index_int(fu:Nat)(x1:List Int)(x2:Int):Option Int:=
  slices_Index_int.W1 fu x1 x2 0
def slices_Contains_int(fu:Nat)(x1:List Int)(x2:Int):Option Bool:=
  (slices_Index_int fu x1 x2).bind λx3=>some (decide (0<=x3))
def shape_Size.L1(fu:Nat)(x1:List Int)(nx1:Int→Int→Option (Int×Int))(x5:Int)(x6:Int):Option (Int×Int):=
  if x6<(x1.length:Int)then((at? x1 x6).bind λx8=>chk (x5≠0)<|if(wk .i64 (Int.tdiv 4096 x5))<x8 then(some (0,4))else nx1 (wk .i64 (x5*x8)) (wk .i64 (x6+1)))else some (x5,0)
def shape_Size.W1(fu:Nat)(x1:List Int)(x5:Int)(x6:Int):Option (Int×Int):=
  cloop (λnext s=>shape_Size.L1 fu x1 (λx5 x6=>next (x5,x6)) s.1 s.2) fu (x5,x6)
def shape_Size.k1(fu:Nat)(x1:List Int):Option (Int×Int):=
  (slices_Contains_int fu x1 0).bind λx3=>if x3=true then(some (0,0))else shape_Size.W1 fu x1 1 0
def shape_Size(fu:Nat)(x1:List Int):Option (Int×Int):=
  (slices_ContainsFunc_int fu x1 (λy0=>shape_Size_1 fu y0)).bind λx2=>if x2=true then(some (0,1))else jn 1 () (λ(t:Unit)=>shape_Size.k1 fu x1)<|if 8<(x1.length:Int)then(some (0,4))else(slices_ContainsFunc_int fu x1 (λy0=>shape_Size_2 fu y0)).bind λx9=>if x9=true then(some (0,4))else shape_Size.k1 fu x1
def tens_Check.k1(fu:Nat)(x1:T_Tensor)(x3:Int×Int)(x4:Int):Option Int:=
  if x4=x3.1 then(if(wk .i64 ((wk .i64 ((x1.fF.length:Int)+(x1.fI.length:Int)))+(x1.fB.length:Int)))=x3.1 then(some 0)else some 3)else some 3
def tens_Check(fu:Nat)(x1:T_Tensor):Option Int:=
  (tens_known fu x1.fType).bind λx2=>if x2=true then((shape_Size fu x1.fDims).bind λx3=>if x3.2=0 then(jn 1 () (λ(t:Int)=>tens_Check.k1 fu x1 x3 t)<|if x1.fType=7 then(tens_Check.k1 fu x1 x3 (x1.fI.length:Int))else if x1.fType=9 then(tens_Check.k1 fu x1 x3 (x1.fB.length:Int))else tens_Check.k1 fu x1 x3 (x1.fF.length:Int))else some x3.2)else some 5
def tens_own_int(fu:Nat)(x1:List Int):Option (List Int):=
  chk ((x1.length:Int)*8<=140737488355328)<|some x1
def tens_own_uint32(fu:Nat)(x1:List Int):Option (List Int):=
  chk ((x1.length:Int)*4<=140737488355328)<|some x1
def tens_own_int64(fu:Nat)(x1:List Int):Option (List Int):=
  chk ((x1.length:Int)*8<=140737488355328)<|some x1
def tens_own_bool(fu:Nat)(x1:List Bool):Option (List Bool):=
  chk ((x1.length:Int)*1<=140737488355328)<|some x1
def tens_Copy(fu:Nat)(x1:T_Tensor):Option T_Tensor:=
  (tens_own_int fu x1.fDims).bind λx2=>(tens_own_uint32 fu x1.fF).bind λx3=>(tens_own_int64 fu x1.fI).bind λx4=>(tens_own_bool fu x1.fB).bind λx5=>some (T_Tensor.mk x1.fType x2 x3 x4 x5)
def soft_Abs(fu:Nat)(x1:Int):Option Int:=
  some (bandn .u32 x1 2147483648)
def soft_NaN(fu:Nat)(x1:Int):Option Bool:=
  (soft_Abs fu x1).bind λx2=>some (decide (2139095040<x2))
def soft_Canon(fu:Nat)(x1:Int):Option Int:=
  (soft_NaN fu x1).bind λx2=>if x2=true then(some 2143289344)else some x1
def tens_Canon.L1(fu:Nat)(x2:T_Tensor)(nx1:(List Int)→Int→Option T_Tensor)(x5:List Int)(x6:Int):Option T_Tensor:=
  if x6<((x2.fF.length:Nat):Int)then((at? x5 x6).bind λx9=>(soft_Canon fu x9).bind λx10=>chk (0<=x6/\x6<(x5.length:Int))<|nx1 (x5.set x6.toNat x10) (wk .i64 (x6+1)))else some (T_Tensor.mk x2.fType x2.fDims x5 x2.fI x2.fB)
def tens_Canon.W1(fu:Nat)(x2:T_Tensor)(x5:List Int)(x6:Int):Option T_Tensor:=
  cloop (λnext s=>tens_Canon.L1 fu x2 (λx5 x6=>next (x5,x6)) s.1 s.2) fu (x5,x6)
def tens_Canon(fu:Nat)(x1:T_Tensor):Option T_Tensor:=
  (tens_Copy fu x1).bind λx2=>tens_Canon.W1 fu x2 x2.fF 0
def slices_Clone_int(fu:Nat)(x1:List Int):Option (List Int):=
  chk ((x1.length:Int)*8<=140737488355328)<|some x1
def ewise_Vals.L1(fu:Nat)(x1:List T_Tensor)(nx1:(List T_Val)→Int→Option (List T_Val))(x5:List T_Val)(x6:Int):Option (List T_Val):=
  if x6<(x1.length:Int)then((at? x1 x6).bind λx10=>if x10.fType=0 then(chk ((x5.length+1:Int)*144<=140737488355328)<|nx1 (x5++([T_Val.mk 0 ([]) false (T_Tensor.mk 0 ([]) ([]) ([]) ([]))])) (wk .i64 (x6+1)))else(slices_Clone_int fu x10.fDims).bind λx11=>(tens_Copy fu x10).bind λx12=>chk ((x5.length+1:Int)*144<=140737488355328)<|nx1 (x5++([T_Val.mk x10.fType x11 true x12])) (wk .i64 (x6+1)))else some x5
def ewise_Vals.W1(fu:Nat)(x1:List T_Tensor)(x5:List T_Val)(x6:Int):Option (List T_Val):=
  cloop (λnext s=>ewise_Vals.L1 fu x1 (λx5 x6=>next (x5,x6)) s.1 s.2) fu (x5,x6)
def ewise_Vals(fu:Nat)(x1:List T_Tensor):Option (List T_Val):=
  ewise_Vals.W1 fu x1 ([]:List T_Val) 0
def ops_Arity(fu:Nat)(x1:Int):Option (Int×Int×Int×Int):=
  spl (x1=67) (some (1,1,1,1))<|spl (x1=68) (some (1,1,1,1))<|spl (x1=65) (some (1,2,1,1))<|chk (x1=69)<|some (1,1,1,1)
def infer_ask_val(fu:Nat)(x1:T_infer_ask)(x2:Int):Option T_Val:=
  spl (x1.fop=67) (if x2<(x1.fin.length:Int)then((at? x1.fin x2).bind λx3=>some x3)else some (T_Val.mk 0 ([]) false (T_Tensor.mk 0 ([]) ([]) ([]) ([])))) (spl (x1.fop=68) (if x2<(x1.fin.length:Int)then((at? x1.fin x2).bind λx4=>some x4)else some (T_Val.mk 0 ([]) false (T_Tensor.mk 0 ([]) ([]) ([]) ([])))) (spl (x1.fop=65) (if x2<(x1.fin.length:Int)then((at? x1.fin x2).bind λx5=>some x5)else some (T_Val.mk 0 ([]) false (T_Tensor.mk 0 ([]) ([]) ([]) ([])))) (chk (x1.fop=69)<|if x2<(x1.fin.length:Int)then((at? x1.fin x2).bind λx6=>some x6)else some (T_Val.mk 0 ([]) false (T_Tensor.mk 0 ([]) ([]) ([]) ([]))))))
def infer_ask_has(fu:Nat)(x1:T_infer_ask)(x2:Int):Option Bool:=
  spl (x1.fop=67) ((infer_ask_val fu (T_infer_ask.mk 67 x1.fs x1.fin x1.fouts) x2).bind λx3=>some (!(decide (x3.fType=0)))) (spl (x1.fop=68) ((infer_ask_val fu (T_infer_ask.mk 68 x1.fs x1.fin x1.fouts) x2).bind λx4=>some (!(decide (x4.fType=0)))) (spl (x1.fop=65) ((infer_ask_val fu (T_infer_ask.mk 65 x1.fs x1.fin x1.fouts) x2).bind λx5=>some (!(decide (x5.fType=0)))) (chk (x1.fop=69)<|(infer_ask_val fu (T_infer_ask.mk 69 x1.fs x1.fin x1.fouts) x2).bind λx6=>some (!(decide (x6.fType=0))))))
def infer_ask_complete.L1(fu:Nat)(x1:T_infer_ask)(x2:Int×Int×Int×Int)(nx1:Int→Option Bool)(x4:Int):Option Bool:=
  if x4<x2.1 then((infer_ask_has fu (T_infer_ask.mk 67 x1.fs x1.fin x1.fouts) x4).bind λx6=>if x6=true then(nx1 (wk .i64 (x4+1)))else some false)else some true
def infer_ask_complete.W1(fu:Nat)(x1:T_infer_ask)(x2:Int×Int×Int×Int)(x4:Int):Option Bool:=
  cloop (λnext s=>infer_ask_complete.L1 fu x1 x2 next s) fu x4
def infer_ask_complete.k1(fu:Nat)(x1:T_infer_ask)(x2:Int×Int×Int×Int):Option Bool:=
  infer_ask_complete.W1 fu x1 x2 0
def infer_ask_complete.L2(fu:Nat)(x1:T_infer_ask)(x7:Int×Int×Int×Int)(nx2:Int→Option Bool)(x9:Int):Option Bool:=
  if x9<x7.1 then((infer_ask_has fu (T_infer_ask.mk 68 x1.fs x1.fin x1.fouts) x9).bind λx11=>if x11=true then(nx2 (wk .i64 (x9+1)))else some false)else some true
def infer_ask_complete.W2(fu:Nat)(x1:T_infer_ask)(x7:Int×Int×Int×Int)(x9:Int):Option Bool:=
  cloop (λnext s=>infer_ask_complete.L2 fu x1 x7 next s) fu x9
def infer_ask_complete.k2(fu:Nat)(x1:T_infer_ask)(x7:Int×Int×Int×Int):Option Bool:=
  infer_ask_complete.W2 fu x1 x7 0
def infer_ask_complete.L3(fu:Nat)(x1:T_infer_ask)(x12:Int×Int×Int×Int)(nx3:Int→Option Bool)(x14:Int):Option Bool:=
  if x14<x12.1 then((infer_ask_has fu (T_infer_ask.mk 65 x1.fs x1.fin x1.fouts) x14).bind λx16=>if x16=true then(nx3 (wk .i64 (x14+1)))else some false)else some true
def infer_ask_complete.W3(fu:Nat)(x1:T_infer_ask)(x12:Int×Int×Int×Int)(x14:Int):Option Bool:=
  cloop (λnext s=>infer_ask_complete.L3 fu x1 x12 next s) fu x14
def infer_ask_complete.k3(fu:Nat)(x1:T_infer_ask)(x12:Int×Int×Int×Int):Option Bool:=
  infer_ask_complete.W3 fu x1 x12 0
def infer_ask_complete.L4(fu:Nat)(x1:T_infer_ask)(x17:Int×Int×Int×Int)(nx4:Int→Option Bool)(x19:Int):Option Bool:=
  if x19<x17.1 then((infer_ask_has fu (T_infer_ask.mk 69 x1.fs x1.fin x1.fouts) x19).bind λx21=>if x21=true then(nx4 (wk .i64 (x19+1)))else some false)else some true
def infer_ask_complete.W4(fu:Nat)(x1:T_infer_ask)(x17:Int×Int×Int×Int)(x19:Int):Option Bool:=
  cloop (λnext s=>infer_ask_complete.L4 fu x1 x17 next s) fu x19
def infer_ask_complete.k4(fu:Nat)(x1:T_infer_ask)(x17:Int×Int×Int×Int):Option Bool:=
  infer_ask_complete.W4 fu x1 x17 0
def infer_ask_complete(fu:Nat)(x1:T_infer_ask):Option Bool:=
  spl (x1.fop=67) ((ops_Arity fu 67).bind λx2=>jn 1 () (λ(t:Unit)=>infer_ask_complete.k1 fu x1 x2)<|if x2.2.2.1=0 then(some false)else if(x1.fin.length:Int)<x2.1 then(some false)else if x2.2.1<(x1.fin.length:Int)then(some false)else if x1.fouts<x2.2.2.1 then(some false)else if x2.2.2.2<x1.fouts then(some false)else infer_ask_complete.k1 fu x1 x2) (spl (x1.fop=68) ((ops_Arity fu 68).bind λx7=>jn 2 () (λ(t:Unit)=>infer_ask_complete.k2 fu x1 x7)<|if x7.2.2.1=0 then(some false)else if(x1.fin.length:Int)<x7.1 then(some false)else if x7.2.1<(x1.fin.length:Int)then(some false)else if x1.fouts<x7.2.2.1 then(some false)else if x7.2.2.2<x1.fouts then(some false)else infer_ask_complete.k2 fu x1 x7) (spl (x1.fop=65) ((ops_Arity fu 65).bind λx12=>jn 3 () (λ(t:Unit)=>infer_ask_complete.k3 fu x1 x12)<|if x12.2.2.1=0 then(some false)else if(x1.fin.length:Int)<x12.1 then(some false)else if x12.2.1<(x1.fin.length:Int)then(some false)else if x1.fouts<x12.2.2.1 then(some false)else if x12.2.2.2<x1.fouts then(some false)else infer_ask_complete.k3 fu x1 x12) (chk (x1.fop=69)<|(ops_Arity fu 69).bind λx17=>jn 4 () (λ(t:Unit)=>infer_ask_complete.k4 fu x1 x17)<|if x17.2.2.1=0 then(some false)else if(x1.fin.length:Int)<x17.1 then(some false)else if x17.2.1<(x1.fin.length:Int)then(some false)else if x1.fouts<x17.2.2.1 then(some false)else if x17.2.2.2<x1.fouts then(some false)else infer_ask_complete.k4 fu x1 x17)))
def infer_sorts.k1(fu:Nat):Option ByteArray:=
  some (⟨#[110]⟩:ByteArray)
def infer_sorts.k2(fu:Nat):Option ByteArray:=
  some (⟨#[110]⟩:ByteArray)
def infer_sorts.k7(fu:Nat):Option ByteArray:=
  some (⟨#[110,105]⟩:ByteArray)
def infer_sorts.k6(fu:Nat):Option ByteArray:=
  jn 7 () (λ(t:Unit)=>infer_sorts.k7 fu)<|infer_sorts.k7 fu
def infer_sorts.k5(fu:Nat):Option ByteArray:=
  jn 6 () (λ(t:Unit)=>infer_sorts.k6 fu)<|infer_sorts.k6 fu
def infer_sorts.k4(fu:Nat):Option ByteArray:=
  jn 5 () (λ(t:Unit)=>infer_sorts.k5 fu)<|infer_sorts.k5 fu
def infer_sorts.k3(fu:Nat):Option ByteArray:=
  jn 4 () (λ(t:Unit)=>infer_sorts.k4 fu)<|infer_sorts.k4 fu
def infer_sorts.k8(fu:Nat):Option ByteArray:=
  some (⟨#[110]⟩:ByteArray)
def infer_sorts(fu:Nat)(x1:Int):Option ByteArray:=
  spl (x1=67) (jn 1 () (λ(t:Unit)=>infer_sorts.k1 fu)<|infer_sorts.k1 fu) (spl (x1=68) (jn 2 () (λ(t:Unit)=>infer_sorts.k2 fu)<|infer_sorts.k2 fu) (spl (x1=65) (jn 3 () (λ(t:Unit)=>infer_sorts.k3 fu)<|infer_sorts.k3 fu) (chk (x1=69)<|jn 8 () (λ(t:Unit)=>infer_sorts.k8 fu)<|infer_sorts.k8 fu)))
def infer_ask_fits.k1(fu:Nat)(x5:Bool):Option Bool:=
  some x5
def infer_ask_fits.k2(fu:Nat)(x10:Bool):Option Bool:=
  some x10
def infer_ask_fits.k3(fu:Nat)(x15:Bool):Option Bool:=
  some x15
def infer_ask_fits.k4(fu:Nat)(x20:Bool):Option Bool:=
  some x20
def infer_ask_fits(fu:Nat)(x1:T_infer_ask)(x2:Int)(x3:Int):Option Bool:=
  spl (x1.fop=67) ((infer_ask_val fu (T_infer_ask.mk 67 x1.fs x1.fin x1.fouts) x2).bind λx4=>if x3=110 then(jn 1 () (λ(t:Bool)=>infer_ask_fits.k1 fu t)<|if x4.fType=1 then(infer_ask_fits.k1 fu true)else infer_ask_fits.k1 fu (decide (x4.fType=7)))else if x3=102 then(some (decide (x4.fType=1)))else if x3=98 then(some (decide (x4.fType=9)))else if x3=105 then(some (decide (x4.fType=7)))else if x3=61 then((infer_ask_val fu (T_infer_ask.mk 67 x1.fs x1.fin x1.fouts) 0).bind λx6=>some (decide (x4.fType=x6.fType)))else if x3=43 then((infer_ask_val fu (T_infer_ask.mk 67 x1.fs x1.fin x1.fouts) (wk .i64 (x2 - 1))).bind λx7=>some (decide (x4.fType=x7.fType)))else(tens_Width fu x4.fType).bind λx8=>some (decide (0<x8))) (spl (x1.fop=68) ((infer_ask_val fu (T_infer_ask.mk 68 x1.fs x1.fin x1.fouts) x2).bind λx9=>if x3=110 then(jn 2 () (λ(t:Bool)=>infer_ask_fits.k2 fu t)<|if x9.fType=1 then(infer_ask_fits.k2 fu true)else infer_ask_fits.k2 fu (decide (x9.fType=7)))else if x3=102 then(some (decide (x9.fType=1)))else if x3=98 then(some (decide (x9.fType=9)))else if x3=105 then(some (decide (x9.fType=7)))else if x3=61 then((infer_ask_val fu (T_infer_ask.mk 68 x1.fs x1.fin x1.fouts) 0).bind λx11=>some (decide (x9.fType=x11.fType)))else if x3=43 then((infer_ask_val fu (T_infer_ask.mk 68 x1.fs x1.fin x1.fouts) (wk .i64 (x2 - 1))).bind λx12=>some (decide (x9.fType=x12.fType)))else(tens_Width fu x9.fType).bind λx13=>some (decide (0<x13))) (spl (x1.fop=65) ((infer_ask_val fu (T_infer_ask.mk 65 x1.fs x1.fin x1.fouts) x2).bind λx14=>if x3=110 then(jn 3 () (λ(t:Bool)=>infer_ask_fits.k3 fu t)<|if x14.fType=1 then(infer_ask_fits.k3 fu true)else infer_ask_fits.k3 fu (decide (x14.fType=7)))else if x3=102 then(some (decide (x14.fType=1)))else if x3=98 then(some (decide (x14.fType=9)))else if x3=105 then(some (decide (x14.fType=7)))else if x3=61 then((infer_ask_val fu (T_infer_ask.mk 65 x1.fs x1.fin x1.fouts) 0).bind λx16=>some (decide (x14.fType=x16.fType)))else if x3=43 then((infer_ask_val fu (T_infer_ask.mk 65 x1.fs x1.fin x1.fouts) (wk .i64 (x2 - 1))).bind λx17=>some (decide (x14.fType=x17.fType)))else(tens_Width fu x14.fType).bind λx18=>some (decide (0<x18))) (chk (x1.fop=69)<|(infer_ask_val fu (T_infer_ask.mk 69 x1.fs x1.fin x1.fouts) x2).bind λx19=>if x3=110 then(jn 4 () (λ(t:Bool)=>infer_ask_fits.k4 fu t)<|if x19.fType=1 then(infer_ask_fits.k4 fu true)else infer_ask_fits.k4 fu (decide (x19.fType=7)))else if x3=102 then(some (decide (x19.fType=1)))else if x3=98 then(some (decide (x19.fType=9)))else if x3=105 then(some (decide (x19.fType=7)))else if x3=61 then((infer_ask_val fu (T_infer_ask.mk 69 x1.fs x1.fin x1.fouts) 0).bind λx21=>some (decide (x19.fType=x21.fType)))else if x3=43 then((infer_ask_val fu (T_infer_ask.mk 69 x1.fs x1.fin x1.fouts) (wk .i64 (x2 - 1))).bind λx22=>some (decide (x19.fType=x22.fType)))else(tens_Width fu x19.fType).bind λx23=>some (decide (0<x23)))))
def infer_ask_typed.k1(fu:Nat):Option Bool:=
  some true
def infer_ask_typed.L1(fu:Nat)(x1:T_infer_ask)(x2:ByteArray)(nx1:Int→Option Bool)(x8:Int):Option Bool:=
  if x8<(x1.fin.length:Int)then((infer_ask_has fu (T_infer_ask.mk 67 x1.fs x1.fin x1.fouts) x8).bind λx14=>if x14=true then((infer_ask_val fu (T_infer_ask.mk 67 x1.fs x1.fin x1.fouts) x8).bind λx15=>(tens_Width fu x15.fType).bind λx16=>if x16=0 then(some false)else(sat? x2 (imin x8 (wk .i64 ((x2.size:Int) - 1)))).bind λx17=>(infer_ask_fits fu (T_infer_ask.mk 67 x1.fs x1.fin x1.fouts) x8 x17).bind λx18=>if x18=true then(nx1 (wk .i64 (x8+1)))else some false)else nx1 (wk .i64 (x8+1)))else infer_ask_typed.k1 fu
def infer_ask_typed.W1(fu:Nat)(x1:T_infer_ask)(x2:ByteArray)(x8:Int):Option Bool:=
  cloop (λnext s=>infer_ask_typed.L1 fu x1 x2 next s) fu x8
def infer_ask_typed.k2(fu:Nat):Option Bool:=
  some true
def infer_ask_typed.L2(fu:Nat)(x1:T_infer_ask)(x19:ByteArray)(nx2:Int→Option Bool)(x25:Int):Option Bool:=
  if x25<(x1.fin.length:Int)then((infer_ask_has fu (T_infer_ask.mk 68 x1.fs x1.fin x1.fouts) x25).bind λx31=>if x31=true then((infer_ask_val fu (T_infer_ask.mk 68 x1.fs x1.fin x1.fouts) x25).bind λx32=>(tens_Width fu x32.fType).bind λx33=>if x33=0 then(some false)else(sat? x19 (imin x25 (wk .i64 ((x19.size:Int) - 1)))).bind λx34=>(infer_ask_fits fu (T_infer_ask.mk 68 x1.fs x1.fin x1.fouts) x25 x34).bind λx35=>if x35=true then(nx2 (wk .i64 (x25+1)))else some false)else nx2 (wk .i64 (x25+1)))else infer_ask_typed.k2 fu
def infer_ask_typed.W2(fu:Nat)(x1:T_infer_ask)(x19:ByteArray)(x25:Int):Option Bool:=
  cloop (λnext s=>infer_ask_typed.L2 fu x1 x19 next s) fu x25
def infer_ask_typed.k3(fu:Nat):Option Bool:=
  some true
def infer_ask_typed.L3(fu:Nat)(x1:T_infer_ask)(x36:ByteArray)(nx3:Int→Option Bool)(x42:Int):Option Bool:=
  if x42<(x1.fin.length:Int)then((infer_ask_has fu (T_infer_ask.mk 65 x1.fs x1.fin x1.fouts) x42).bind λx48=>if x48=true then((infer_ask_val fu (T_infer_ask.mk 65 x1.fs x1.fin x1.fouts) x42).bind λx49=>(tens_Width fu x49.fType).bind λx50=>if x50=0 then(some false)else(sat? x36 (imin x42 (wk .i64 ((x36.size:Int) - 1)))).bind λx51=>(infer_ask_fits fu (T_infer_ask.mk 65 x1.fs x1.fin x1.fouts) x42 x51).bind λx52=>if x52=true then(nx3 (wk .i64 (x42+1)))else some false)else nx3 (wk .i64 (x42+1)))else infer_ask_typed.k3 fu
def infer_ask_typed.W3(fu:Nat)(x1:T_infer_ask)(x36:ByteArray)(x42:Int):Option Bool:=
  cloop (λnext s=>infer_ask_typed.L3 fu x1 x36 next s) fu x42
def infer_ask_typed.k4(fu:Nat):Option Bool:=
  some true
def infer_ask_typed.L4(fu:Nat)(x1:T_infer_ask)(x53:ByteArray)(nx4:Int→Option Bool)(x59:Int):Option Bool:=
  if x59<(x1.fin.length:Int)then((infer_ask_has fu (T_infer_ask.mk 69 x1.fs x1.fin x1.fouts) x59).bind λx65=>if x65=true then((infer_ask_val fu (T_infer_ask.mk 69 x1.fs x1.fin x1.fouts) x59).bind λx66=>(tens_Width fu x66.fType).bind λx67=>if x67=0 then(some false)else(sat? x53 (imin x59 (wk .i64 ((x53.size:Int) - 1)))).bind λx68=>(infer_ask_fits fu (T_infer_ask.mk 69 x1.fs x1.fin x1.fouts) x59 x68).bind λx69=>if x69=true then(nx4 (wk .i64 (x59+1)))else some false)else nx4 (wk .i64 (x59+1)))else infer_ask_typed.k4 fu
def infer_ask_typed.W4(fu:Nat)(x1:T_infer_ask)(x53:ByteArray)(x59:Int):Option Bool:=
  cloop (λnext s=>infer_ask_typed.L4 fu x1 x53 next s) fu x59
def infer_ask_typed(fu:Nat)(x1:T_infer_ask):Option Bool:=
  spl (x1.fop=67) ((infer_sorts fu 67).bind λx2=>jn 1 () (λ(t:Unit)=>infer_ask_typed.k1 fu)<|infer_ask_typed.W1 fu x1 x2 0) (spl (x1.fop=68) ((infer_sorts fu 68).bind λx19=>jn 2 () (λ(t:Unit)=>infer_ask_typed.k2 fu)<|infer_ask_typed.W2 fu x1 x19 0) (spl (x1.fop=65) ((infer_sorts fu 65).bind λx36=>jn 3 () (λ(t:Unit)=>infer_ask_typed.k3 fu)<|infer_ask_typed.W3 fu x1 x36 0) (chk (x1.fop=69)<|(infer_sorts fu 69).bind λx53=>jn 4 () (λ(t:Unit)=>infer_ask_typed.k4 fu)<|infer_ask_typed.W4 fu x1 x53 0)))
def infer_ask_dims(fu:Nat)(x1:T_infer_ask)(x2:Int):Option (List Int):=
  spl (x1.fop=67) ((infer_ask_val fu (T_infer_ask.mk 67 x1.fs x1.fin x1.fouts) x2).bind λx3=>some x3.fDims) (spl (x1.fop=68) ((infer_ask_val fu (T_infer_ask.mk 68 x1.fs x1.fin x1.fouts) x2).bind λx4=>some x4.fDims) (spl (x1.fop=65) ((infer_ask_val fu (T_infer_ask.mk 65 x1.fs x1.fin x1.fouts) x2).bind λx5=>some x5.fDims) (chk (x1.fop=69)<|(infer_ask_val fu (T_infer_ask.mk 69 x1.fs x1.fin x1.fouts) x2).bind λx6=>some x6.fDims)))
def infer_ask_rank(fu:Nat)(x1:T_infer_ask):Option Int:=
  spl (x1.fop=67) ((infer_ask_dims fu (T_infer_ask.mk 67 x1.fs x1.fin x1.fouts) 0).bind λx2=>some (x2.length:Int)) (spl (x1.fop=68) ((infer_ask_dims fu (T_infer_ask.mk 68 x1.fs x1.fin x1.fouts) 0).bind λx3=>some (x3.length:Int)) (spl (x1.fop=65) ((infer_ask_dims fu (T_infer_ask.mk 65 x1.fs x1.fin x1.fouts) 0).bind λx4=>some (x4.length:Int)) (chk (x1.fop=69)<|(infer_ask_dims fu (T_infer_ask.mk 69 x1.fs x1.fin x1.fouts) 0).bind λx5=>some (x5.length:Int))))
def shape_Axis(fu:Nat)(x1:Int)(x2:Int):Option (Int×Int):=
  if x2<0 then(some (0,2))else if 0<=x1 then(if x1<x2 then(some (x1,0))else some (0,2))else if(wk .i64 (0 - x2))<=x1 then(some (wk .i64 (x2+x1),0))else some (0,2)
def shape_Axes.k2(fu:Nat)(x3:List Bool)(x4:Bool):Option ((List Bool)×Int):=
  if x4=true then(some ([],1))else some (x3,0)
def shape_Axes.L1(fu:Nat)(x1:List Int)(x2:Int)(nx1:(List Bool)→Bool→Int→Option ((List Bool)×Int))(x8:List Bool)(x9:Bool)(x10:Int):Option ((List Bool)×Int):=
  if x10<(x1.length:Int)then((at? x1 x10).bind λx14=>(shape_Axis fu x14 x2).bind λx15=>if x15.2=0 then(if x9=true then(chk (0<=x15.1/\x15.1<(x8.length:Int))<|nx1 (x8.set x15.1.toNat true) true (wk .i64 (x10+1)))else(at? x8 x15.1).bind λx16=>chk (0<=x15.1/\x15.1<(x8.length:Int))<|nx1 (x8.set x15.1.toNat true) x16 (wk .i64 (x10+1)))else some ([],x15.2))else shape_Axes.k2 fu x8 x9
def shape_Axes.W1(fu:Nat)(x1:List Int)(x2:Int)(x8:List Bool)(x9:Bool)(x10:Int):Option ((List Bool)×Int):=
  cloop (λnext s=>shape_Axes.L1 fu x1 x2 (λx8 x9 x10=>next (x8,x9,x10)) s.1 s.2.1 s.2.2) fu (x8,x9,x10)
def shape_Axes.k1(fu:Nat)(x1:List Int)(x2:Int):Option ((List Bool)×Int):=
  chk (0<=x2/\x2*1<=140737488355328)<|jn 2 () (λ(t:(List Bool)×Bool)=>shape_Axes.k2 fu t.1 t.2)<|shape_Axes.W1 fu x1 x2 (List.replicate x2.toNat (false:Bool)) false 0
def shape_Axes(fu:Nat)(x1:List Int)(x2:Int):Option ((List Bool)×Int):=
  jn 1 () (λ(t:Unit)=>shape_Axes.k1 fu x1 x2)<|if x2<0 then(some ([],1))else if 8<x2 then(some ([],1))else shape_Axes.k1 fu x1 x2
def infer_ask_attributes.k2(fu:Nat)(x1:T_infer_ask)(x2:Int):Option Bool:=
  (shape_Axes fu x1.fs.fAxes x2).bind λx3=>some (decide (x3.2=0))
def infer_ask_attributes.k1(fu:Nat)(x1:T_infer_ask)(x2:Int):Option Bool:=
  jn 2 () (λ(t:Unit)=>infer_ask_attributes.k2 fu x1 x2)<|infer_ask_attributes.k2 fu x1 x2
def infer_ask_attributes.k4(fu:Nat)(x1:T_infer_ask)(x4:Int):Option Bool:=
  (shape_Axes fu x1.fs.fAxes x4).bind λx5=>some (decide (x5.2=0))
def infer_ask_attributes.k3(fu:Nat)(x1:T_infer_ask)(x4:Int):Option Bool:=
  jn 4 () (λ(t:Unit)=>infer_ask_attributes.k4 fu x1 x4)<|infer_ask_attributes.k4 fu x1 x4
def infer_ask_attributes.k6(fu:Nat):Option Bool:=
  some true
def infer_ask_attributes.k5(fu:Nat):Option Bool:=
  jn 6 () (λ(t:Unit)=>infer_ask_attributes.k6 fu)<|infer_ask_attributes.k6 fu
def infer_ask_attributes.k8(fu:Nat)(x1:T_infer_ask)(x7:Int):Option Bool:=
  (shape_Axes fu x1.fs.fAxes x7).bind λx8=>some (decide (x8.2=0))
def infer_ask_attributes.k7(fu:Nat)(x1:T_infer_ask)(x7:Int):Option Bool:=
  jn 8 () (λ(t:Unit)=>infer_ask_attributes.k8 fu x1 x7)<|infer_ask_attributes.k8 fu x1 x7
def infer_ask_attributes(fu:Nat)(x1:T_infer_ask):Option Bool:=
  spl (x1.fop=67) ((infer_ask_rank fu (T_infer_ask.mk 67 x1.fs x1.fin x1.fouts)).bind λx2=>jn 1 () (λ(t:Unit)=>infer_ask_attributes.k1 fu x1 x2)<|infer_ask_attributes.k1 fu x1 x2) (spl (x1.fop=68) ((infer_ask_rank fu (T_infer_ask.mk 68 x1.fs x1.fin x1.fouts)).bind λx4=>jn 3 () (λ(t:Unit)=>infer_ask_attributes.k3 fu x1 x4)<|infer_ask_attributes.k3 fu x1 x4) (spl (x1.fop=65) ((infer_ask_rank fu (T_infer_ask.mk 65 x1.fs x1.fin x1.fouts)).bind λx6=>jn 5 () (λ(t:Unit)=>infer_ask_attributes.k5 fu)<|infer_ask_attributes.k5 fu) (chk (x1.fop=69)<|(infer_ask_rank fu (T_infer_ask.mk 69 x1.fs x1.fin x1.fouts)).bind λx7=>jn 7 () (λ(t:Unit)=>infer_ask_attributes.k7 fu x1 x7)<|infer_ask_attributes.k7 fu x1 x7)))
def infer_ask_lists.k1(fu:Nat):Option (List T_Val):=
  some ([])
def infer_ask_lists.k2(fu:Nat):Option (List T_Val):=
  some ([])
def infer_ask_lists.L1(fu:Nat)(x1:T_infer_ask)(nx1:(List T_Val)→Int→Option (List T_Val))(x4:List T_Val)(x5:Int):Option (List T_Val):=
  if x5<2 then((infer_ask_has fu (T_infer_ask.mk 65 x1.fs x1.fin x1.fouts) x5).bind λx8=>if x8=true then((infer_ask_val fu (T_infer_ask.mk 65 x1.fs x1.fin x1.fouts) x5).bind λx9=>chk ((x4.length+1:Int)*144<=140737488355328)<|nx1 (x4++([x9])) (wk .i64 (x5+1)))else nx1 x4 (wk .i64 (x5+1)))else some x4
def infer_ask_lists.W1(fu:Nat)(x1:T_infer_ask)(x4:List T_Val)(x5:Int):Option (List T_Val):=
  cloop (λnext s=>infer_ask_lists.L1 fu x1 (λx4 x5=>next (x4,x5)) s.1 s.2) fu (x4,x5)
def infer_ask_lists.k3(fu:Nat)(x1:T_infer_ask):Option (List T_Val):=
  infer_ask_lists.W1 fu x1 ([]:List T_Val) 1
def infer_ask_lists.k4(fu:Nat):Option (List T_Val):=
  some ([])
def infer_ask_lists(fu:Nat)(x1:T_infer_ask):Option (List T_Val):=
  spl (x1.fop=67) (jn 1 () (λ(t:Unit)=>infer_ask_lists.k1 fu)<|infer_ask_lists.k1 fu) (spl (x1.fop=68) (jn 2 () (λ(t:Unit)=>infer_ask_lists.k2 fu)<|infer_ask_lists.k2 fu) (spl (x1.fop=65) (jn 3 () (λ(t:Unit)=>infer_ask_lists.k3 fu x1)<|infer_ask_lists.k3 fu x1) (chk (x1.fop=69)<|jn 4 () (λ(t:Unit)=>infer_ask_lists.k4 fu)<|infer_ask_lists.k4 fu)))
def slices_IndexFunc_api_Val_api_Val.L1(fu:Nat)(p1:T_Val→Option Bool)(x1:List T_Val)(nx1:Int→Option Int)(x4:Int):Option Int:=
  if x4<(x1.length:Int)then((at? x1 x4).bind λx7=>(p1 x7).bind λx8=>if x8=true then(some x4)else nx1 (wk .i64 (x4+1)))else some (-1)
def slices_IndexFunc_api_Val_api_Val.W1(fu:Nat)(p1:T_Val→Option Bool)(x1:List T_Val)(x4:Int):Option Int:=
  cloop (λnext s=>slices_IndexFunc_api_Val_api_Val.L1 fu p1 x1 next s) fu x4
def slices_IndexFunc_api_Val_api_Val(fu:Nat)(x1:List T_Val)(p1:T_Val→Option Bool):Option Int:=
  slices_IndexFunc_api_Val_api_Val.W1 fu p1 x1 0
def slices_ContainsFunc_api_Val_api_Val(fu:Nat)(x1:List T_Val)(p1:T_Val→Option Bool):Option Bool:=
  (slices_IndexFunc_api_Val_api_Val fu x1 p1).bind λx2=>some (decide (0<=x2))
def slices_Equal_int.L1(fu:Nat)(x1:List Int)(x2:List Int)(nx1:Int→Option Bool)(x5:Int):Option Bool:=
  if x5<(x1.length:Int)then((at? x1 x5).bind λx8=>(at? x2 x5).bind λx9=>if x8=x9 then(nx1 (wk .i64 (x5+1)))else some false)else some true
def slices_Equal_int.W1(fu:Nat)(x1:List Int)(x2:List Int)(x5:Int):Option Bool:=
  cloop (λnext s=>slices_Equal_int.L1 fu x1 x2 next s) fu x5
def slices_Equal_int(fu:Nat)(x1:List Int)(x2:List Int):Option Bool:=
  if(x1.length:Int)=(x2.length:Int)then(slices_Equal_int.W1 fu x1 x2 0)else some false
def infer_held(fu:Nat)(x1:T_Val):Option Bool:=
  if x1.fConst=true then((tens_Check fu x1.fT).bind λx2=>if x2=0 then(if x1.fT.fType=x1.fType then((slices_Equal_int fu x1.fT.fDims x1.fDims).bind λx3=>some x3)else some false)else some false)else some false
def infer_ask_told_1(fu:Nat)(x1:T_Val):Option Bool:=
  (infer_held fu x1).bind λx2=>some (!x2)
def infer_ask_told_2(fu:Nat)(x1:T_Val):Option Bool:=
  some (!(decide ((x1.fDims.length:Int)=1)))
def slices_IndexFunc_int64.L1(fu:Nat)(p1:Int→Option Bool)(x1:List Int)(nx1:Int→Option Int)(x4:Int):Option Int:=
  if x4<(x1.length:Int)then((at? x1 x4).bind λx7=>(p1 x7).bind λx8=>if x8=true then(some x4)else nx1 (wk .i64 (x4+1)))else some (-1)
def slices_IndexFunc_int64.W1(fu:Nat)(p1:Int→Option Bool)(x1:List Int)(x4:Int):Option Int:=
  cloop (λnext s=>slices_IndexFunc_int64.L1 fu p1 x1 next s) fu x4
def slices_IndexFunc_int64(fu:Nat)(x1:List Int)(p1:Int→Option Bool):Option Int:=
  slices_IndexFunc_int64.W1 fu p1 x1 0
def slices_ContainsFunc_int64(fu:Nat)(x1:List Int)(p1:Int→Option Bool):Option Bool:=
  (slices_IndexFunc_int64 fu x1 p1).bind λx2=>some (decide (0<=x2))
def infer_ask_told_3_1(fu:Nat)(x1:Int):Option Bool:=
  some (decide (4096<x1))
def infer_ask_told_3(fu:Nat)(x1:T_Val):Option Bool:=
  (slices_ContainsFunc_int64 fu x1.fT.fI (λy0=>infer_ask_told_3_1 fu y0)).bind λx2=>some x2
def infer_ask_told(fu:Nat)(x1:T_infer_ask):Option Int:=
  spl (x1.fop=67) ((infer_ask_lists fu (T_infer_ask.mk 67 x1.fs x1.fin x1.fouts)).bind λx2=>(slices_ContainsFunc_api_Val_api_Val fu x2 (λy0=>infer_ask_told_1 fu y0)).bind λx3=>if x3=true then(some 15)else(slices_ContainsFunc_api_Val_api_Val fu x2 (λy0=>infer_ask_told_2 fu y0)).bind λx4=>if x4=true then(some 3)else(slices_ContainsFunc_api_Val_api_Val fu x2 (λy0=>infer_ask_told_3 fu y0)).bind λx5=>if x5=true then(some 4)else some 0) (spl (x1.fop=68) ((infer_ask_lists fu (T_infer_ask.mk 68 x1.fs x1.fin x1.fouts)).bind λx6=>(slices_ContainsFunc_api_Val_api_Val fu x6 (λy0=>infer_ask_told_1 fu y0)).bind λx7=>if x7=true then(some 15)else(slices_ContainsFunc_api_Val_api_Val fu x6 (λy0=>infer_ask_told_2 fu y0)).bind λx8=>if x8=true then(some 3)else(slices_ContainsFunc_api_Val_api_Val fu x6 (λy0=>infer_ask_told_3 fu y0)).bind λx9=>if x9=true then(some 4)else some 0) (spl (x1.fop=65) ((infer_ask_lists fu (T_infer_ask.mk 65 x1.fs x1.fin x1.fouts)).bind λx10=>(slices_ContainsFunc_api_Val_api_Val fu x10 (λy0=>infer_ask_told_1 fu y0)).bind λx11=>if x11=true then(some 15)else(slices_ContainsFunc_api_Val_api_Val fu x10 (λy0=>infer_ask_told_2 fu y0)).bind λx12=>if x12=true then(some 3)else(slices_ContainsFunc_api_Val_api_Val fu x10 (λy0=>infer_ask_told_3 fu y0)).bind λx13=>if x13=true then(some 4)else some 0) (chk (x1.fop=69)<|(infer_ask_lists fu (T_infer_ask.mk 69 x1.fs x1.fin x1.fouts)).bind λx14=>(slices_ContainsFunc_api_Val_api_Val fu x14 (λy0=>infer_ask_told_1 fu y0)).bind λx15=>if x15=true then(some 15)else(slices_ContainsFunc_api_Val_api_Val fu x14 (λy0=>infer_ask_told_2 fu y0)).bind λx16=>if x16=true then(some 3)else(slices_ContainsFunc_api_Val_api_Val fu x14 (λy0=>infer_ask_told_3 fu y0)).bind λx17=>if x17=true then(some 4)else some 0)))
def infer_ask_wrong.k1(fu:Nat)(x1:T_infer_ask):Option Int:=
  (infer_ask_typed fu (T_infer_ask.mk 67 x1.fs x1.fin x1.fouts)).bind λx2=>if x2=true then((infer_ask_attributes fu (T_infer_ask.mk 67 x1.fs x1.fin x1.fouts)).bind λx3=>if x3=true then((infer_ask_told fu (T_infer_ask.mk 67 x1.fs x1.fin x1.fouts)).bind λx4=>some x4)else some 14)else some 5
def infer_ask_wrong.L1(fu:Nat)(x1:T_infer_ask)(nx1:Int→Option Int)(x8:Int):Option Int:=
  if x8<(x1.fin.length:Int)then((at? x1.fin x8).bind λx12=>(shape_Size fu x12.fDims).bind λx13=>(infer_ask_has fu (T_infer_ask.mk 67 x1.fs x1.fin x1.fouts) x8).bind λx14=>if x14=true then(if x13.2=0 then(nx1 (wk .i64 (x8+1)))else some 4)else nx1 (wk .i64 (x8+1)))else infer_ask_wrong.k1 fu x1
def infer_ask_wrong.W1(fu:Nat)(x1:T_infer_ask)(x8:Int):Option Int:=
  cloop (λnext s=>infer_ask_wrong.L1 fu x1 next s) fu x8
def infer_ask_wrong.k2(fu:Nat)(x1:T_infer_ask):Option Int:=
  (infer_ask_typed fu (T_infer_ask.mk 68 x1.fs x1.fin x1.fouts)).bind λx15=>if x15=true then((infer_ask_attributes fu (T_infer_ask.mk 68 x1.fs x1.fin x1.fouts)).bind λx16=>if x16=true then((infer_ask_told fu (T_infer_ask.mk 68 x1.fs x1.fin x1.fouts)).bind λx17=>some x17)else some 14)else some 5
def infer_ask_wrong.L2(fu:Nat)(x1:T_infer_ask)(nx2:Int→Option Int)(x21:Int):Option Int:=
  if x21<(x1.fin.length:Int)then((at? x1.fin x21).bind λx25=>(shape_Size fu x25.fDims).bind λx26=>(infer_ask_has fu (T_infer_ask.mk 68 x1.fs x1.fin x1.fouts) x21).bind λx27=>if x27=true then(if x26.2=0 then(nx2 (wk .i64 (x21+1)))else some 4)else nx2 (wk .i64 (x21+1)))else infer_ask_wrong.k2 fu x1
def infer_ask_wrong.W2(fu:Nat)(x1:T_infer_ask)(x21:Int):Option Int:=
  cloop (λnext s=>infer_ask_wrong.L2 fu x1 next s) fu x21
def infer_ask_wrong.k3(fu:Nat)(x1:T_infer_ask):Option Int:=
  (infer_ask_typed fu (T_infer_ask.mk 65 x1.fs x1.fin x1.fouts)).bind λx28=>if x28=true then((infer_ask_attributes fu (T_infer_ask.mk 65 x1.fs x1.fin x1.fouts)).bind λx29=>if x29=true then((infer_ask_told fu (T_infer_ask.mk 65 x1.fs x1.fin x1.fouts)).bind λx30=>some x30)else some 14)else some 5
def infer_ask_wrong.L3(fu:Nat)(x1:T_infer_ask)(nx3:Int→Option Int)(x34:Int):Option Int:=
  if x34<(x1.fin.length:Int)then((at? x1.fin x34).bind λx38=>(shape_Size fu x38.fDims).bind λx39=>(infer_ask_has fu (T_infer_ask.mk 65 x1.fs x1.fin x1.fouts) x34).bind λx40=>if x40=true then(if x39.2=0 then(nx3 (wk .i64 (x34+1)))else some 4)else nx3 (wk .i64 (x34+1)))else infer_ask_wrong.k3 fu x1
def infer_ask_wrong.W3(fu:Nat)(x1:T_infer_ask)(x34:Int):Option Int:=
  cloop (λnext s=>infer_ask_wrong.L3 fu x1 next s) fu x34
def infer_ask_wrong.k4(fu:Nat)(x1:T_infer_ask):Option Int:=
  (infer_ask_typed fu (T_infer_ask.mk 69 x1.fs x1.fin x1.fouts)).bind λx41=>if x41=true then((infer_ask_attributes fu (T_infer_ask.mk 69 x1.fs x1.fin x1.fouts)).bind λx42=>if x42=true then((infer_ask_told fu (T_infer_ask.mk 69 x1.fs x1.fin x1.fouts)).bind λx43=>some x43)else some 14)else some 5
def infer_ask_wrong.L4(fu:Nat)(x1:T_infer_ask)(nx4:Int→Option Int)(x47:Int):Option Int:=
  if x47<(x1.fin.length:Int)then((at? x1.fin x47).bind λx51=>(shape_Size fu x51.fDims).bind λx52=>(infer_ask_has fu (T_infer_ask.mk 69 x1.fs x1.fin x1.fouts) x47).bind λx53=>if x53=true then(if x52.2=0 then(nx4 (wk .i64 (x47+1)))else some 4)else nx4 (wk .i64 (x47+1)))else infer_ask_wrong.k4 fu x1
def infer_ask_wrong.W4(fu:Nat)(x1:T_infer_ask)(x47:Int):Option Int:=
  cloop (λnext s=>infer_ask_wrong.L4 fu x1 next s) fu x47
def infer_ask_wrong(fu:Nat)(x1:T_infer_ask):Option Int:=
  spl (x1.fop=67) (jn 1 () (λ(t:Unit)=>infer_ask_wrong.k1 fu x1)<|infer_ask_wrong.W1 fu x1 0) (spl (x1.fop=68) (jn 2 () (λ(t:Unit)=>infer_ask_wrong.k2 fu x1)<|infer_ask_wrong.W2 fu x1 0) (spl (x1.fop=65) (jn 3 () (λ(t:Unit)=>infer_ask_wrong.k3 fu x1)<|infer_ask_wrong.W3 fu x1 0) (chk (x1.fop=69)<|jn 4 () (λ(t:Unit)=>infer_ask_wrong.k4 fu x1)<|infer_ask_wrong.W4 fu x1 0)))
def infer_ask_numbers.L1(fu:Nat)(x4:T_Val)(nx1:(List Int)→Int→Option (List Int))(x6:List Int)(x7:Int):Option (List Int):=
  if x7<(x4.fT.fI.length:Int)then((at? x4.fT.fI x7).bind λx9=>chk ((x6.length+1:Int)*8<=140737488355328)<|nx1 (x6++([x9])) (wk .i64 (x7+1)))else some x6
def infer_ask_numbers.W1(fu:Nat)(x4:T_Val)(x6:List Int)(x7:Int):Option (List Int):=
  cloop (λnext s=>infer_ask_numbers.L1 fu x4 (λx6 x7=>next (x6,x7)) s.1 s.2) fu (x6,x7)
def infer_ask_numbers.L2(fu:Nat)(x11:T_Val)(nx2:(List Int)→Int→Option (List Int))(x13:List Int)(x14:Int):Option (List Int):=
  if x14<(x11.fT.fI.length:Int)then((at? x11.fT.fI x14).bind λx16=>chk ((x13.length+1:Int)*8<=140737488355328)<|nx2 (x13++([x16])) (wk .i64 (x14+1)))else some x13
def infer_ask_numbers.W2(fu:Nat)(x11:T_Val)(x13:List Int)(x14:Int):Option (List Int):=
  cloop (λnext s=>infer_ask_numbers.L2 fu x11 (λx13 x14=>next (x13,x14)) s.1 s.2) fu (x13,x14)
def infer_ask_numbers.L3(fu:Nat)(x18:T_Val)(nx3:(List Int)→Int→Option (List Int))(x20:List Int)(x21:Int):Option (List Int):=
  if x21<(x18.fT.fI.length:Int)then((at? x18.fT.fI x21).bind λx23=>chk ((x20.length+1:Int)*8<=140737488355328)<|nx3 (x20++([x23])) (wk .i64 (x21+1)))else some x20
def infer_ask_numbers.W3(fu:Nat)(x18:T_Val)(x20:List Int)(x21:Int):Option (List Int):=
  cloop (λnext s=>infer_ask_numbers.L3 fu x18 (λx20 x21=>next (x20,x21)) s.1 s.2) fu (x20,x21)
def infer_ask_numbers.L4(fu:Nat)(x25:T_Val)(nx4:(List Int)→Int→Option (List Int))(x27:List Int)(x28:Int):Option (List Int):=
  if x28<(x25.fT.fI.length:Int)then((at? x25.fT.fI x28).bind λx30=>chk ((x27.length+1:Int)*8<=140737488355328)<|nx4 (x27++([x30])) (wk .i64 (x28+1)))else some x27
def infer_ask_numbers.W4(fu:Nat)(x25:T_Val)(x27:List Int)(x28:Int):Option (List Int):=
  cloop (λnext s=>infer_ask_numbers.L4 fu x25 (λx27 x28=>next (x27,x28)) s.1 s.2) fu (x27,x28)
def infer_ask_numbers(fu:Nat)(x1:T_infer_ask)(x2:Int):Option (List Int):=
  spl (x1.fop=67) ((infer_ask_has fu (T_infer_ask.mk 67 x1.fs x1.fin x1.fouts) x2).bind λx3=>if x3=true then((infer_ask_val fu (T_infer_ask.mk 67 x1.fs x1.fin x1.fouts) x2).bind λx4=>infer_ask_numbers.W1 fu x4 ([]:List Int) 0)else some ([])) (spl (x1.fop=68) ((infer_ask_has fu (T_infer_ask.mk 68 x1.fs x1.fin x1.fouts) x2).bind λx10=>if x10=true then((infer_ask_val fu (T_infer_ask.mk 68 x1.fs x1.fin x1.fouts) x2).bind λx11=>infer_ask_numbers.W2 fu x11 ([]:List Int) 0)else some ([])) (spl (x1.fop=65) ((infer_ask_has fu (T_infer_ask.mk 65 x1.fs x1.fin x1.fouts) x2).bind λx17=>if x17=true then((infer_ask_val fu (T_infer_ask.mk 65 x1.fs x1.fin x1.fouts) x2).bind λx18=>infer_ask_numbers.W3 fu x18 ([]:List Int) 0)else some ([])) (chk (x1.fop=69)<|(infer_ask_has fu (T_infer_ask.mk 69 x1.fs x1.fin x1.fouts) x2).bind λx24=>if x24=true then((infer_ask_val fu (T_infer_ask.mk 69 x1.fs x1.fin x1.fouts) x2).bind λx25=>infer_ask_numbers.W4 fu x25 ([]:List Int) 0)else some ([]))))
def infer_ask_over.L1(fu:Nat)(x3:(List Bool)×Int)(nx1:(List Bool)→Int→Option ((List Bool)×Int))(x4:List Bool)(x5:Int):Option ((List Bool)×Int):=
  if x5<((x3.1.length:Nat):Int)then(chk (0<=x5/\x5<(x4.length:Int))<|nx1 (x4.set x5.toNat true) (wk .i64 (x5+1)))else some (x4,x3.2)
def infer_ask_over.W1(fu:Nat)(x3:(List Bool)×Int)(x4:List Bool)(x5:Int):Option ((List Bool)×Int):=
  cloop (λnext s=>infer_ask_over.L1 fu x3 (λx4 x5=>next (x4,x5)) s.1 s.2) fu (x4,x5)
def infer_ask_over.k1(fu:Nat)(x1:T_infer_ask):Option ((List Bool)×Int):=
  (infer_ask_rank fu (T_infer_ask.mk 67 x1.fs x1.fin x1.fouts)).bind λx2=>(shape_Axes fu x1.fs.fAxes x2).bind λx3=>if(x1.fs.fAxes.length:Int)=0 then(infer_ask_over.W1 fu x3 x3.1 0)else some (x3.1,x3.2)
def infer_ask_over.L2(fu:Nat)(x7:(List Bool)×Int)(nx2:(List Bool)→Int→Option ((List Bool)×Int))(x8:List Bool)(x9:Int):Option ((List Bool)×Int):=
  if x9<((x7.1.length:Nat):Int)then(chk (0<=x9/\x9<(x8.length:Int))<|nx2 (x8.set x9.toNat true) (wk .i64 (x9+1)))else some (x8,x7.2)
def infer_ask_over.W2(fu:Nat)(x7:(List Bool)×Int)(x8:List Bool)(x9:Int):Option ((List Bool)×Int):=
  cloop (λnext s=>infer_ask_over.L2 fu x7 (λx8 x9=>next (x8,x9)) s.1 s.2) fu (x8,x9)
def infer_ask_over.k2(fu:Nat)(x1:T_infer_ask):Option ((List Bool)×Int):=
  (infer_ask_rank fu (T_infer_ask.mk 68 x1.fs x1.fin x1.fouts)).bind λx6=>(shape_Axes fu x1.fs.fAxes x6).bind λx7=>if(x1.fs.fAxes.length:Int)=0 then(infer_ask_over.W2 fu x7 x7.1 0)else some (x7.1,x7.2)
def infer_ask_over.L3(fu:Nat)(x13:(List Bool)×Int)(nx3:(List Bool)→Int→Option ((List Bool)×Int))(x14:List Bool)(x15:Int):Option ((List Bool)×Int):=
  if x15<((x13.1.length:Nat):Int)then(chk (0<=x15/\x15<(x14.length:Int))<|nx3 (x14.set x15.toNat true) (wk .i64 (x15+1)))else some (x14,x13.2)
def infer_ask_over.W3(fu:Nat)(x13:(List Bool)×Int)(x14:List Bool)(x15:Int):Option ((List Bool)×Int):=
  cloop (λnext s=>infer_ask_over.L3 fu x13 (λx14 x15=>next (x14,x15)) s.1 s.2) fu (x14,x15)
def infer_ask_over.L4(fu:Nat)(x17:(List Bool)×Int)(nx4:(List Bool)→Int→Option ((List Bool)×Int))(x18:List Bool)(x19:Int):Option ((List Bool)×Int):=
  if x19<((x17.1.length:Nat):Int)then(chk (0<=x19/\x19<(x18.length:Int))<|nx4 (x18.set x19.toNat true) (wk .i64 (x19+1)))else some (x18,x17.2)
def infer_ask_over.W4(fu:Nat)(x17:(List Bool)×Int)(x18:List Bool)(x19:Int):Option ((List Bool)×Int):=
  cloop (λnext s=>infer_ask_over.L4 fu x17 (λx18 x19=>next (x18,x19)) s.1 s.2) fu (x18,x19)
def infer_ask_over.L5(fu:Nat)(x21:(List Bool)×Int)(nx5:(List Bool)→Int→Option ((List Bool)×Int))(x22:List Bool)(x23:Int):Option ((List Bool)×Int):=
  if x23<((x21.1.length:Nat):Int)then(chk (0<=x23/\x23<(x22.length:Int))<|nx5 (x22.set x23.toNat true) (wk .i64 (x23+1)))else some (x22,x21.2)
def infer_ask_over.W5(fu:Nat)(x21:(List Bool)×Int)(x22:List Bool)(x23:Int):Option ((List Bool)×Int):=
  cloop (λnext s=>infer_ask_over.L5 fu x21 (λx22 x23=>next (x22,x23)) s.1 s.2) fu (x22,x23)
def infer_ask_over.k3(fu:Nat)(x1:T_infer_ask):Option ((List Bool)×Int):=
  (infer_ask_rank fu (T_infer_ask.mk 69 x1.fs x1.fin x1.fouts)).bind λx20=>(shape_Axes fu x1.fs.fAxes x20).bind λx21=>if(x1.fs.fAxes.length:Int)=0 then(infer_ask_over.W5 fu x21 x21.1 0)else some (x21.1,x21.2)
def infer_ask_over(fu:Nat)(x1:T_infer_ask):Option ((List Bool)×Int):=
  spl (x1.fop=67) (jn 1 () (λ(t:Unit)=>infer_ask_over.k1 fu x1)<|infer_ask_over.k1 fu x1) (spl (x1.fop=68) (jn 2 () (λ(t:Unit)=>infer_ask_over.k2 fu x1)<|infer_ask_over.k2 fu x1) (spl (x1.fop=65) ((infer_ask_numbers fu (T_infer_ask.mk 65 x1.fs x1.fin x1.fouts) 1).bind λx10=>(infer_ask_has fu (T_infer_ask.mk 65 x1.fs x1.fin x1.fouts) 1).bind λx11=>if x11=true then((infer_ask_rank fu (T_infer_ask.mk 65 x1.fs x1.fin x1.fouts)).bind λx12=>(shape_Axes fu x10 x12).bind λx13=>if(x10.length:Int)=0 then(if x1.fs.fNoop=true then(some (x13.1,x13.2))else infer_ask_over.W3 fu x13 x13.1 0)else some (x13.1,x13.2))else(infer_ask_rank fu (T_infer_ask.mk 65 x1.fs x1.fin x1.fouts)).bind λx16=>(shape_Axes fu ([]:List Int) x16).bind λx17=>if x1.fs.fNoop=true then(some (x17.1,x17.2))else infer_ask_over.W4 fu x17 x17.1 0) (chk (x1.fop=69)<|jn 3 () (λ(t:Unit)=>infer_ask_over.k3 fu x1)<|infer_ask_over.k3 fu x1)))
def infer_misfit(fu:Nat):Option ((List (List Int))×Int):=
  some ([],3)
def infer_one(fu:Nat)(x1:List Int):Option ((List (List Int))×Int):=
  some ([x1],0)
def infer_ask_reduced.k1(fu:Nat)(x3:Bool)(x4:List Int):Option ((List (List Int))×Int):=
  (infer_one fu x4).bind λx5=>some (x5.1,x5.2)
def infer_ask_reduced.L1(fu:Nat)(x2:(List Bool)×Int)(x6:List Int)(nx1:Bool→(List Int)→Int→Option ((List (List Int))×Int))(x10:Bool)(x11:List Int)(x12:Int):Option ((List (List Int))×Int):=
  if x12<(x6.length:Int)then((at? x6 x12).bind λx16=>(at? x2.1 x12).bind λx17=>if x17=true then(if x16=0 then((infer_misfit fu).bind λx18=>some (x18.1,x18.2))else if x10=true then(chk ((x11.length+1:Int)*8<=140737488355328)<|nx1 true (x11++([1])) (wk .i64 (x12+1)))else nx1 false x11 (wk .i64 (x12+1)))else chk ((x11.length+1:Int)*8<=140737488355328)<|nx1 x10 (x11++([x16])) (wk .i64 (x12+1)))else infer_ask_reduced.k1 fu x10 x11
def infer_ask_reduced.W1(fu:Nat)(x2:(List Bool)×Int)(x6:List Int)(x10:Bool)(x11:List Int)(x12:Int):Option ((List (List Int))×Int):=
  cloop (λnext s=>infer_ask_reduced.L1 fu x2 x6 (λx10 x11 x12=>next (x10,x11,x12)) s.1 s.2.1 s.2.2) fu (x10,x11,x12)
def infer_ask_reduced.k2(fu:Nat)(x21:Bool)(x22:List Int):Option ((List (List Int))×Int):=
  (infer_one fu x22).bind λx23=>some (x23.1,x23.2)
def infer_ask_reduced.L2(fu:Nat)(x20:(List Bool)×Int)(x24:List Int)(nx2:Bool→(List Int)→Int→Option ((List (List Int))×Int))(x28:Bool)(x29:List Int)(x30:Int):Option ((List (List Int))×Int):=
  if x30<(x24.length:Int)then((at? x24 x30).bind λx34=>(at? x20.1 x30).bind λx35=>if x35=true then(if x34=0 then((infer_misfit fu).bind λx36=>some (x36.1,x36.2))else if x28=true then(chk ((x29.length+1:Int)*8<=140737488355328)<|nx2 true (x29++([1])) (wk .i64 (x30+1)))else nx2 false x29 (wk .i64 (x30+1)))else chk ((x29.length+1:Int)*8<=140737488355328)<|nx2 x28 (x29++([x34])) (wk .i64 (x30+1)))else infer_ask_reduced.k2 fu x28 x29
def infer_ask_reduced.W2(fu:Nat)(x20:(List Bool)×Int)(x24:List Int)(x28:Bool)(x29:List Int)(x30:Int):Option ((List (List Int))×Int):=
  cloop (λnext s=>infer_ask_reduced.L2 fu x20 x24 (λx28 x29 x30=>next (x28,x29,x30)) s.1 s.2.1 s.2.2) fu (x28,x29,x30)
def infer_ask_reduced.k3(fu:Nat)(x39:Bool)(x40:List Int):Option ((List (List Int))×Int):=
  (infer_one fu x40).bind λx41=>some (x41.1,x41.2)
def infer_ask_reduced.L3(fu:Nat)(x38:(List Bool)×Int)(x42:List Int)(nx3:Bool→(List Int)→Int→Option ((List (List Int))×Int))(x45:Bool)(x46:List Int)(x47:Int):Option ((List (List Int))×Int):=
  if x47<(x42.length:Int)then((at? x42 x47).bind λx50=>(at? x38.1 x47).bind λx51=>if x51=true then(if x50=0 then(if x45=true then(chk ((x46.length+1:Int)*8<=140737488355328)<|nx3 true (x46++([1])) (wk .i64 (x47+1)))else nx3 false x46 (wk .i64 (x47+1)))else if x45=true then(chk ((x46.length+1:Int)*8<=140737488355328)<|nx3 true (x46++([1])) (wk .i64 (x47+1)))else nx3 false x46 (wk .i64 (x47+1)))else chk ((x46.length+1:Int)*8<=140737488355328)<|nx3 x45 (x46++([x50])) (wk .i64 (x47+1)))else infer_ask_reduced.k3 fu x45 x46
def infer_ask_reduced.W3(fu:Nat)(x38:(List Bool)×Int)(x42:List Int)(x45:Bool)(x46:List Int)(x47:Int):Option ((List (List Int))×Int):=
  cloop (λnext s=>infer_ask_reduced.L3 fu x38 x42 (λx45 x46 x47=>next (x45,x46,x47)) s.1 s.2.1 s.2.2) fu (x45,x46,x47)
def infer_ask_reduced.k4(fu:Nat)(x54:Bool)(x55:List Int):Option ((List (List Int))×Int):=
  (infer_one fu x55).bind λx56=>some (x56.1,x56.2)
def infer_ask_reduced.L4(fu:Nat)(x53:(List Bool)×Int)(x57:List Int)(nx4:Bool→(List Int)→Int→Option ((List (List Int))×Int))(x60:Bool)(x61:List Int)(x62:Int):Option ((List (List Int))×Int):=
  if x62<(x57.length:Int)then((at? x57 x62).bind λx65=>(at? x53.1 x62).bind λx66=>if x66=true then(if x65=0 then(if x60=true then(chk ((x61.length+1:Int)*8<=140737488355328)<|nx4 true (x61++([1])) (wk .i64 (x62+1)))else nx4 false x61 (wk .i64 (x62+1)))else if x60=true then(chk ((x61.length+1:Int)*8<=140737488355328)<|nx4 true (x61++([1])) (wk .i64 (x62+1)))else nx4 false x61 (wk .i64 (x62+1)))else chk ((x61.length+1:Int)*8<=140737488355328)<|nx4 x60 (x61++([x65])) (wk .i64 (x62+1)))else infer_ask_reduced.k4 fu x60 x61
def infer_ask_reduced.W4(fu:Nat)(x53:(List Bool)×Int)(x57:List Int)(x60:Bool)(x61:List Int)(x62:Int):Option ((List (List Int))×Int):=
  cloop (λnext s=>infer_ask_reduced.L4 fu x53 x57 (λx60 x61 x62=>next (x60,x61,x62)) s.1 s.2.1 s.2.2) fu (x60,x61,x62)
def infer_ask_reduced(fu:Nat)(x1:T_infer_ask):Option ((List (List Int))×Int):=
  spl (x1.fop=67) ((infer_ask_over fu (T_infer_ask.mk 67 x1.fs x1.fin x1.fouts)).bind λx2=>if x2.2=0 then(jn 1 () (λ(t:Bool×(List Int))=>infer_ask_reduced.k1 fu t.1 t.2)<|(infer_ask_dims fu (T_infer_ask.mk 67 x1.fs x1.fin x1.fouts) 0).bind λx6=>infer_ask_reduced.W1 fu x2 x6 x1.fs.fKeep ([]:List Int) 0)else(infer_misfit fu).bind λx19=>some (x19.1,x19.2)) (spl (x1.fop=68) ((infer_ask_over fu (T_infer_ask.mk 68 x1.fs x1.fin x1.fouts)).bind λx20=>if x20.2=0 then(jn 2 () (λ(t:Bool×(List Int))=>infer_ask_reduced.k2 fu t.1 t.2)<|(infer_ask_dims fu (T_infer_ask.mk 68 x1.fs x1.fin x1.fouts) 0).bind λx24=>infer_ask_reduced.W2 fu x20 x24 x1.fs.fKeep ([]:List Int) 0)else(infer_misfit fu).bind λx37=>some (x37.1,x37.2)) (spl (x1.fop=65) ((infer_ask_over fu (T_infer_ask.mk 65 x1.fs x1.fin x1.fouts)).bind λx38=>if x38.2=0 then(jn 3 () (λ(t:Bool×(List Int))=>infer_ask_reduced.k3 fu t.1 t.2)<|(infer_ask_dims fu (T_infer_ask.mk 65 x1.fs x1.fin x1.fouts) 0).bind λx42=>infer_ask_reduced.W3 fu x38 x42 x1.fs.fKeep ([]:List Int) 0)else(infer_misfit fu).bind λx52=>some (x52.1,x52.2)) (chk (x1.fop=69)<|(infer_ask_over fu (T_infer_ask.mk 69 x1.fs x1.fin x1.fouts)).bind λx53=>if x53.2=0 then(jn 4 () (λ(t:Bool×(List Int))=>infer_ask_reduced.k4 fu t.1 t.2)<|(infer_ask_dims fu (T_infer_ask.mk 69 x1.fs x1.fin x1.fouts) 0).bind λx57=>infer_ask_reduced.W4 fu x53 x57 x1.fs.fKeep ([]:List Int) 0)else(infer_misfit fu).bind λx67=>some (x67.1,x67.2))))
def infer_ask_shapes.k3(fu:Nat)(x1:T_infer_ask):Option ((List (List Int))×Int):=
  (infer_ask_reduced fu (T_infer_ask.mk 67 x1.fs x1.fin x1.fouts)).bind λx3=>some (x3.1,x3.2)
def infer_ask_shapes.k2(fu:Nat)(x1:T_infer_ask):Option ((List (List Int))×Int):=
  jn 3 () (λ(t:Unit)=>infer_ask_shapes.k3 fu x1)<|infer_ask_shapes.k3 fu x1
def infer_ask_shapes.k1(fu:Nat)(x1:T_infer_ask):Option ((List (List Int))×Int):=
  jn 2 () (λ(t:Unit)=>infer_ask_shapes.k2 fu x1)<|infer_ask_shapes.k2 fu x1
def infer_ask_shapes.k6(fu:Nat)(x1:T_infer_ask):Option ((List (List Int))×Int):=
  (infer_ask_reduced fu (T_infer_ask.mk 68 x1.fs x1.fin x1.fouts)).bind λx5=>some (x5.1,x5.2)
def infer_ask_shapes.k5(fu:Nat)(x1:T_infer_ask):Option ((List (List Int))×Int):=
  jn 6 () (λ(t:Unit)=>infer_ask_shapes.k6 fu x1)<|infer_ask_shapes.k6 fu x1
def infer_ask_shapes.k4(fu:Nat)(x1:T_infer_ask):Option ((List (List Int))×Int):=
  jn 5 () (λ(t:Unit)=>infer_ask_shapes.k5 fu x1)<|infer_ask_shapes.k5 fu x1
def infer_ask_shapes.k9(fu:Nat)(x1:T_infer_ask):Option ((List (List Int))×Int):=
  (infer_ask_reduced fu (T_infer_ask.mk 65 x1.fs x1.fin x1.fouts)).bind λx7=>some (x7.1,x7.2)
def infer_ask_shapes.k8(fu:Nat)(x1:T_infer_ask):Option ((List (List Int))×Int):=
  jn 9 () (λ(t:Unit)=>infer_ask_shapes.k9 fu x1)<|infer_ask_shapes.k9 fu x1
def infer_ask_shapes.k7(fu:Nat)(x1:T_infer_ask):Option ((List (List Int))×Int):=
  jn 8 () (λ(t:Unit)=>infer_ask_shapes.k8 fu x1)<|infer_ask_shapes.k8 fu x1
def infer_ask_shapes.k12(fu:Nat)(x1:T_infer_ask):Option ((List (List Int))×Int):=
  (infer_ask_reduced fu (T_infer_ask.mk 69 x1.fs x1.fin x1.fouts)).bind λx9=>some (x9.1,x9.2)
def infer_ask_shapes.k11(fu:Nat)(x1:T_infer_ask):Option ((List (List Int))×Int):=
  jn 12 () (λ(t:Unit)=>infer_ask_shapes.k12 fu x1)<|infer_ask_shapes.k12 fu x1
def infer_ask_shapes.k10(fu:Nat)(x1:T_infer_ask):Option ((List (List Int))×Int):=
  jn 11 () (λ(t:Unit)=>infer_ask_shapes.k11 fu x1)<|infer_ask_shapes.k11 fu x1
def infer_ask_shapes(fu:Nat)(x1:T_infer_ask):Option ((List (List Int))×Int):=
  spl (x1.fop=67) ((infer_ask_dims fu (T_infer_ask.mk 67 x1.fs x1.fin x1.fouts) 0).bind λx2=>jn 1 () (λ(t:Unit)=>infer_ask_shapes.k1 fu x1)<|infer_ask_shapes.k1 fu x1) (spl (x1.fop=68) ((infer_ask_dims fu (T_infer_ask.mk 68 x1.fs x1.fin x1.fouts) 0).bind λx4=>jn 4 () (λ(t:Unit)=>infer_ask_shapes.k4 fu x1)<|infer_ask_shapes.k4 fu x1) (spl (x1.fop=65) ((infer_ask_dims fu (T_infer_ask.mk 65 x1.fs x1.fin x1.fouts) 0).bind λx6=>jn 7 () (λ(t:Unit)=>infer_ask_shapes.k7 fu x1)<|infer_ask_shapes.k7 fu x1) (chk (x1.fop=69)<|(infer_ask_dims fu (T_infer_ask.mk 69 x1.fs x1.fin x1.fouts) 0).bind λx8=>jn 10 () (λ(t:Unit)=>infer_ask_shapes.k10 fu x1)<|infer_ask_shapes.k10 fu x1)))
def infer_ask_out.k1(fu:Nat)(x1:T_infer_ask):Option Int:=
  (infer_ask_val fu (T_infer_ask.mk 67 x1.fs x1.fin x1.fouts) 0).bind λx2=>some x2.fType
def infer_ask_out.k3(fu:Nat)(x1:T_infer_ask):Option Int:=
  infer_ask_out.k1 fu x1
def infer_ask_out.k2(fu:Nat)(x1:T_infer_ask):Option Int:=
  jn 3 () (λ(t:Unit)=>infer_ask_out.k3 fu x1)<|infer_ask_out.k3 fu x1
def infer_ask_out.k4(fu:Nat)(x1:T_infer_ask):Option Int:=
  (infer_ask_val fu (T_infer_ask.mk 68 x1.fs x1.fin x1.fouts) 0).bind λx3=>some x3.fType
def infer_ask_out.k6(fu:Nat)(x1:T_infer_ask):Option Int:=
  infer_ask_out.k4 fu x1
def infer_ask_out.k5(fu:Nat)(x1:T_infer_ask):Option Int:=
  jn 6 () (λ(t:Unit)=>infer_ask_out.k6 fu x1)<|infer_ask_out.k6 fu x1
def infer_ask_out.k7(fu:Nat)(x1:T_infer_ask):Option Int:=
  (infer_ask_val fu (T_infer_ask.mk 65 x1.fs x1.fin x1.fouts) 0).bind λx4=>some x4.fType
def infer_ask_out.k9(fu:Nat)(x1:T_infer_ask):Option Int:=
  infer_ask_out.k7 fu x1
def infer_ask_out.k8(fu:Nat)(x1:T_infer_ask):Option Int:=
  jn 9 () (λ(t:Unit)=>infer_ask_out.k9 fu x1)<|infer_ask_out.k9 fu x1
def infer_ask_out.k10(fu:Nat)(x1:T_infer_ask):Option Int:=
  (infer_ask_val fu (T_infer_ask.mk 69 x1.fs x1.fin x1.fouts) 0).bind λx5=>some x5.fType
def infer_ask_out.k12(fu:Nat)(x1:T_infer_ask):Option Int:=
  infer_ask_out.k10 fu x1
def infer_ask_out.k11(fu:Nat)(x1:T_infer_ask):Option Int:=
  jn 12 () (λ(t:Unit)=>infer_ask_out.k12 fu x1)<|infer_ask_out.k12 fu x1
def infer_ask_out(fu:Nat)(x1:T_infer_ask):Option Int:=
  spl (x1.fop=67) (jn 1 () (λ(t:Unit)=>infer_ask_out.k1 fu x1)<|jn 2 () (λ(t:Unit)=>infer_ask_out.k2 fu x1)<|infer_ask_out.k2 fu x1) (spl (x1.fop=68) (jn 4 () (λ(t:Unit)=>infer_ask_out.k4 fu x1)<|jn 5 () (λ(t:Unit)=>infer_ask_out.k5 fu x1)<|infer_ask_out.k5 fu x1) (spl (x1.fop=65) (jn 7 () (λ(t:Unit)=>infer_ask_out.k7 fu x1)<|jn 8 () (λ(t:Unit)=>infer_ask_out.k8 fu x1)<|infer_ask_out.k8 fu x1) (chk (x1.fop=69)<|jn 10 () (λ(t:Unit)=>infer_ask_out.k10 fu x1)<|jn 11 () (λ(t:Unit)=>infer_ask_out.k11 fu x1)<|infer_ask_out.k11 fu x1)))
def infer_Node.L1(fu:Nat)(x2:T_Setting)(x3:List T_Val)(x4:Int)(x7:(List (List Int))×Int)(nx1:(List T_Val)→Int→Option ((List T_Val)×Int))(x12:List T_Val)(x13:Int):Option ((List T_Val)×Int):=
  if x13<(x7.1.length:Int)then((at? x7.1 x13).bind λx18=>(shape_Size fu x18).bind λx19=>if x19.2=0 then((infer_ask_out fu (T_infer_ask.mk 67 x2 x3 x4)).bind λx20=>(slices_Clone_int fu x18).bind λx21=>chk ((x12.length+1:Int)*144<=140737488355328)<|nx1 (x12++([T_Val.mk x20 x21 false (T_Tensor.mk 0 ([]) ([]) ([]) ([]))])) (wk .i64 (x13+1)))else some ([],4))else some (x12,0)
def infer_Node.W1(fu:Nat)(x2:T_Setting)(x3:List T_Val)(x4:Int)(x7:(List (List Int))×Int)(x12:List T_Val)(x13:Int):Option ((List T_Val)×Int):=
  cloop (λnext s=>infer_Node.L1 fu x2 x3 x4 x7 (λx12 x13=>next (x12,x13)) s.1 s.2) fu (x12,x13)
def infer_Node.L2(fu:Nat)(x2:T_Setting)(x3:List T_Val)(x4:Int)(x24:(List (List Int))×Int)(nx2:(List T_Val)→Int→Option ((List T_Val)×Int))(x29:List T_Val)(x30:Int):Option ((List T_Val)×Int):=
  if x30<(x24.1.length:Int)then((at? x24.1 x30).bind λx35=>(shape_Size fu x35).bind λx36=>if x36.2=0 then((infer_ask_out fu (T_infer_ask.mk 68 x2 x3 x4)).bind λx37=>(slices_Clone_int fu x35).bind λx38=>chk ((x29.length+1:Int)*144<=140737488355328)<|nx2 (x29++([T_Val.mk x37 x38 false (T_Tensor.mk 0 ([]) ([]) ([]) ([]))])) (wk .i64 (x30+1)))else some ([],4))else some (x29,0)
def infer_Node.W2(fu:Nat)(x2:T_Setting)(x3:List T_Val)(x4:Int)(x24:(List (List Int))×Int)(x29:List T_Val)(x30:Int):Option ((List T_Val)×Int):=
  cloop (λnext s=>infer_Node.L2 fu x2 x3 x4 x24 (λx29 x30=>next (x29,x30)) s.1 s.2) fu (x29,x30)
def infer_Node.L3(fu:Nat)(x2:T_Setting)(x3:List T_Val)(x4:Int)(x41:(List (List Int))×Int)(nx3:(List T_Val)→Int→Option ((List T_Val)×Int))(x46:List T_Val)(x47:Int):Option ((List T_Val)×Int):=
  if x47<(x41.1.length:Int)then((at? x41.1 x47).bind λx52=>(shape_Size fu x52).bind λx53=>if x53.2=0 then((infer_ask_out fu (T_infer_ask.mk 65 x2 x3 x4)).bind λx54=>(slices_Clone_int fu x52).bind λx55=>chk ((x46.length+1:Int)*144<=140737488355328)<|nx3 (x46++([T_Val.mk x54 x55 false (T_Tensor.mk 0 ([]) ([]) ([]) ([]))])) (wk .i64 (x47+1)))else some ([],4))else some (x46,0)
def infer_Node.W3(fu:Nat)(x2:T_Setting)(x3:List T_Val)(x4:Int)(x41:(List (List Int))×Int)(x46:List T_Val)(x47:Int):Option ((List T_Val)×Int):=
  cloop (λnext s=>infer_Node.L3 fu x2 x3 x4 x41 (λx46 x47=>next (x46,x47)) s.1 s.2) fu (x46,x47)
def infer_Node.L4(fu:Nat)(x2:T_Setting)(x3:List T_Val)(x4:Int)(x58:(List (List Int))×Int)(nx4:(List T_Val)→Int→Option ((List T_Val)×Int))(x63:List T_Val)(x64:Int):Option ((List T_Val)×Int):=
  if x64<(x58.1.length:Int)then((at? x58.1 x64).bind λx69=>(shape_Size fu x69).bind λx70=>if x70.2=0 then((infer_ask_out fu (T_infer_ask.mk 69 x2 x3 x4)).bind λx71=>(slices_Clone_int fu x69).bind λx72=>chk ((x63.length+1:Int)*144<=140737488355328)<|nx4 (x63++([T_Val.mk x71 x72 false (T_Tensor.mk 0 ([]) ([]) ([]) ([]))])) (wk .i64 (x64+1)))else some ([],4))else some (x63,0)
def infer_Node.W4(fu:Nat)(x2:T_Setting)(x3:List T_Val)(x4:Int)(x58:(List (List Int))×Int)(x63:List T_Val)(x64:Int):Option ((List T_Val)×Int):=
  cloop (λnext s=>infer_Node.L4 fu x2 x3 x4 x58 (λx63 x64=>next (x63,x64)) s.1 s.2) fu (x63,x64)
def infer_Node(fu:Nat)(x1:Int)(x2:T_Setting)(x3:List T_Val)(x4:Int):Option ((List T_Val)×Int):=
  spl (x1=67) ((infer_ask_complete fu (T_infer_ask.mk 67 x2 x3 x4)).bind λx5=>if x5=true then((infer_ask_wrong fu (T_infer_ask.mk 67 x2 x3 x4)).bind λx6=>if x6=0 then((infer_ask_shapes fu (T_infer_ask.mk 67 x2 x3 x4)).bind λx7=>if x7.2=0 then(infer_Node.W1 fu x2 x3 x4 x7 ([]:List T_Val) 0)else some ([],x7.2))else some ([],x6))else some ([],1)) (spl (x1=68) ((infer_ask_complete fu (T_infer_ask.mk 68 x2 x3 x4)).bind λx22=>if x22=true then((infer_ask_wrong fu (T_infer_ask.mk 68 x2 x3 x4)).bind λx23=>if x23=0 then((infer_ask_shapes fu (T_infer_ask.mk 68 x2 x3 x4)).bind λx24=>if x24.2=0 then(infer_Node.W2 fu x2 x3 x4 x24 ([]:List T_Val) 0)else some ([],x24.2))else some ([],x23))else some ([],1)) (spl (x1=65) ((infer_ask_complete fu (T_infer_ask.mk 65 x2 x3 x4)).bind λx39=>if x39=true then((infer_ask_wrong fu (T_infer_ask.mk 65 x2 x3 x4)).bind λx40=>if x40=0 then((infer_ask_shapes fu (T_infer_ask.mk 65 x2 x3 x4)).bind λx41=>if x41.2=0 then(infer_Node.W3 fu x2 x3 x4 x41 ([]:List T_Val) 0)else some ([],x41.2))else some ([],x40))else some ([],1)) (chk (x1=69)<|(infer_ask_complete fu (T_infer_ask.mk 69 x2 x3 x4)).bind λx56=>if x56=true then((infer_ask_wrong fu (T_infer_ask.mk 69 x2 x3 x4)).bind λx57=>if x57=0 then((infer_ask_shapes fu (T_infer_ask.mk 69 x2 x3 x4)).bind λx58=>if x58.2=0 then(infer_Node.W4 fu x2 x3 x4 x58 ([]:List T_Val) 0)else some ([],x58.2))else some ([],x57))else some ([],1))))
def tens_New(fu:Nat)(x1:Int)(x2:List Int):Option (T_Tensor×Int):=
  (tens_known fu x1).bind λx3=>if x3=true then((shape_Size fu x2).bind λx4=>if x4.2=0 then((slices_Clone_int fu x2).bind λx5=>if x1=1 then(chk (0<=x4.1/\x4.1*4<=140737488355328)<|some (T_Tensor.mk x1 x5 (List.replicate x4.1.toNat (0:Int)) ([]) ([]),0))else if x1=7 then(chk (0<=x4.1/\x4.1*8<=140737488355328)<|some (T_Tensor.mk x1 x5 ([]) (List.replicate x4.1.toNat (0:Int)) ([]),0))else chk (0<=x4.1/\x4.1*1<=140737488355328)<|some (T_Tensor.mk x1 x5 ([]) ([]) (List.replicate x4.1.toNat (false:Bool)),0))else some (T_Tensor.mk 0 ([]) ([]) ([]) ([]),x4.2))else some (T_Tensor.mk 0 ([]) ([]) ([]) ([]),5)
def reduce_work_has(fu:Nat)(x1:T_reduce_work)(x2:Int):Option Bool:=
  spl (x1.fop=67) (if x2<(x1.fin.length:Int)then((at? x1.fin x2).bind λx3=>some (!(decide (x3.fType=0))))else some false) (spl (x1.fop=68) (if x2<(x1.fin.length:Int)then((at? x1.fin x2).bind λx4=>some (!(decide (x4.fType=0))))else some false) (spl (x1.fop=65) (if x2<(x1.fin.length:Int)then((at? x1.fin x2).bind λx5=>some (!(decide (x5.fType=0))))else some false) (chk (x1.fop=69)<|if x2<(x1.fin.length:Int)then((at? x1.fin x2).bind λx6=>some (!(decide (x6.fType=0))))else some false)))
def tens_Ints.L1(fu:Nat)(x1:T_Tensor)(nx1:(List Int)→Int→Option ((List Int)×Int))(x4:List Int)(x5:Int):Option ((List Int)×Int):=
  if x5<(x1.fI.length:Int)then((at? x1.fI x5).bind λx7=>chk ((x4.length+1:Int)*8<=140737488355328)<|nx1 (x4++([x7])) (wk .i64 (x5+1)))else some (x4,0)
def tens_Ints.W1(fu:Nat)(x1:T_Tensor)(x4:List Int)(x5:Int):Option ((List Int)×Int):=
  cloop (λnext s=>tens_Ints.L1 fu x1 (λx4 x5=>next (x4,x5)) s.1 s.2) fu (x4,x5)
def tens_Ints(fu:Nat)(x1:T_Tensor):Option ((List Int)×Int):=
  (tens_Check fu x1).bind λx2=>if x2=0 then(if x1.fType=7 then(if 1<(x1.fDims.length:Int)then(some ([],3))else tens_Ints.W1 fu x1 ([]:List Int) 0)else some ([],5))else some ([],x2)
def reduce_work_over.L1(fu:Nat)(x2:(List Bool)×Int)(nx1:(List Bool)→Int→Option (List Bool))(x3:List Bool)(x4:Int):Option (List Bool):=
  if x4<((x2.1.length:Nat):Int)then(chk (0<=x4/\x4<(x3.length:Int))<|nx1 (x3.set x4.toNat true) (wk .i64 (x4+1)))else some x3
def reduce_work_over.W1(fu:Nat)(x2:(List Bool)×Int)(x3:List Bool)(x4:Int):Option (List Bool):=
  cloop (λnext s=>reduce_work_over.L1 fu x2 (λx3 x4=>next (x3,x4)) s.1 s.2) fu (x3,x4)
def reduce_work_over.k1(fu:Nat)(x1:T_reduce_work):Option (List Bool):=
  (shape_Axes fu x1.fs.fAxes (x1.fx.fDims.length:Int)).bind λx2=>if(x1.fs.fAxes.length:Int)=0 then(reduce_work_over.W1 fu x2 x2.1 0)else some x2.1
def reduce_work_over.L2(fu:Nat)(x5:(List Bool)×Int)(nx2:(List Bool)→Int→Option (List Bool))(x6:List Bool)(x7:Int):Option (List Bool):=
  if x7<((x5.1.length:Nat):Int)then(chk (0<=x7/\x7<(x6.length:Int))<|nx2 (x6.set x7.toNat true) (wk .i64 (x7+1)))else some x6
def reduce_work_over.W2(fu:Nat)(x5:(List Bool)×Int)(x6:List Bool)(x7:Int):Option (List Bool):=
  cloop (λnext s=>reduce_work_over.L2 fu x5 (λx6 x7=>next (x6,x7)) s.1 s.2) fu (x6,x7)
def reduce_work_over.k2(fu:Nat)(x1:T_reduce_work):Option (List Bool):=
  (shape_Axes fu x1.fs.fAxes (x1.fx.fDims.length:Int)).bind λx5=>if(x1.fs.fAxes.length:Int)=0 then(reduce_work_over.W2 fu x5 x5.1 0)else some x5.1
def reduce_work_over.L3(fu:Nat)(x11:(List Bool)×Int)(nx3:(List Bool)→Int→Option (List Bool))(x12:List Bool)(x13:Int):Option (List Bool):=
  if x13<((x11.1.length:Nat):Int)then(chk (0<=x13/\x13<(x12.length:Int))<|nx3 (x12.set x13.toNat true) (wk .i64 (x13+1)))else some x12
def reduce_work_over.W3(fu:Nat)(x11:(List Bool)×Int)(x12:List Bool)(x13:Int):Option (List Bool):=
  cloop (λnext s=>reduce_work_over.L3 fu x11 (λx12 x13=>next (x12,x13)) s.1 s.2) fu (x12,x13)
def reduce_work_over.L4(fu:Nat)(x14:(List Bool)×Int)(nx4:(List Bool)→Int→Option (List Bool))(x15:List Bool)(x16:Int):Option (List Bool):=
  if x16<((x14.1.length:Nat):Int)then(chk (0<=x16/\x16<(x15.length:Int))<|nx4 (x15.set x16.toNat true) (wk .i64 (x16+1)))else some x15
def reduce_work_over.W4(fu:Nat)(x14:(List Bool)×Int)(x15:List Bool)(x16:Int):Option (List Bool):=
  cloop (λnext s=>reduce_work_over.L4 fu x14 (λx15 x16=>next (x15,x16)) s.1 s.2) fu (x15,x16)
def reduce_work_over.L5(fu:Nat)(x17:(List Bool)×Int)(nx5:(List Bool)→Int→Option (List Bool))(x18:List Bool)(x19:Int):Option (List Bool):=
  if x19<((x17.1.length:Nat):Int)then(chk (0<=x19/\x19<(x18.length:Int))<|nx5 (x18.set x19.toNat true) (wk .i64 (x19+1)))else some x18
def reduce_work_over.W5(fu:Nat)(x17:(List Bool)×Int)(x18:List Bool)(x19:Int):Option (List Bool):=
  cloop (λnext s=>reduce_work_over.L5 fu x17 (λx18 x19=>next (x18,x19)) s.1 s.2) fu (x18,x19)
def reduce_work_over.k3(fu:Nat)(x1:T_reduce_work):Option (List Bool):=
  (shape_Axes fu x1.fs.fAxes (x1.fx.fDims.length:Int)).bind λx17=>if(x1.fs.fAxes.length:Int)=0 then(reduce_work_over.W5 fu x17 x17.1 0)else some x17.1
def reduce_work_over(fu:Nat)(x1:T_reduce_work):Option (List Bool):=
  spl (x1.fop=67) (jn 1 () (λ(t:Unit)=>reduce_work_over.k1 fu x1)<|reduce_work_over.k1 fu x1) (spl (x1.fop=68) (jn 2 () (λ(t:Unit)=>reduce_work_over.k2 fu x1)<|reduce_work_over.k2 fu x1) (spl (x1.fop=65) ((reduce_work_has fu (T_reduce_work.mk 65 x1.fs x1.fin x1.fx x1.fout) 1).bind λx8=>if x8=true then((at? x1.fin 1).bind λx9=>(tens_Ints fu x9).bind λx10=>(shape_Axes fu x10.1 (x1.fx.fDims.length:Int)).bind λx11=>if((x10.1.length:Nat):Int)=0 then(if x1.fs.fNoop=true then(some x11.1)else reduce_work_over.W3 fu x11 x11.1 0)else some x11.1)else(shape_Axes fu ([]:List Int) (x1.fx.fDims.length:Int)).bind λx14=>if x1.fs.fNoop=true then(some x14.1)else reduce_work_over.W4 fu x14 x14.1 0) (chk (x1.fop=69)<|jn 3 () (λ(t:Unit)=>reduce_work_over.k3 fu x1)<|reduce_work_over.k3 fu x1)))
def shape_strides.L1(fu:Nat)(x1:List Int)(nx1:(List Int)→Int→Int→Option (List Int))(x3:List Int)(x4:Int)(x5:Int):Option (List Int):=
  if 0<=x5 then(chk (0<=x5/\x5<(x3.length:Int))<|(at? x1 x5).bind λx7=>nx1 (x3.set x5.toNat x4) (wk .i64 (x4*x7)) (wk .i64 (x5 - 1)))else some x3
def shape_strides.W1(fu:Nat)(x1:List Int)(x3:List Int)(x4:Int)(x5:Int):Option (List Int):=
  cloop (λnext s=>shape_strides.L1 fu x1 (λx3 x4 x5=>next (x3,x4,x5)) s.1 s.2.1 s.2.2) fu (x3,x4,x5)
def shape_strides(fu:Nat)(x1:List Int):Option (List Int):=
  chk (0<=(x1.length:Int)/\(x1.length:Int)*8<=140737488355328)<|shape_strides.W1 fu x1 (List.replicate (x1.length:Int).toNat (0:Int)) 1 (wk .i64 ((x1.length:Int) - 1))
def shape_Strides(fu:Nat)(x1:List Int):Option ((List Int)×Int):=
  (shape_Size fu x1).bind λx2=>if x2.2=0 then((shape_strides fu x1).bind λx3=>some (x3,0))else some ([],x2.2)
def reduce_places.L3(fu:Nat)(nx2:(List Int)→Int→Option (List Int))(x2:List Int)(x25:Int)(x47:Int)(x55:Int)(x62:Int)(nx3:(List Int)→Int→Option (List Int))(x64:List Int)(x65:Int):Option (List Int):=
  if x65<x47 then((at? x2 x25).bind λx67=>chk ((x64.length+1:Int)*8<=140737488355328)<|nx3 (x64++([wk .i64 (x62+(wk .i64 (x65*x67)))])) (wk .i64 (x65+1)))else nx2 x64 (wk .i64 (x55+1))
def reduce_places.W3(fu:Nat)(nx2:(List Int)→Int→Option (List Int))(x2:List Int)(x25:Int)(x47:Int)(x55:Int)(x62:Int)(x64:List Int)(x65:Int):Option (List Int):=
  cloop (λnext s=>reduce_places.L3 fu nx2 x2 x25 x47 x55 x62 (λx64 x65=>next (x64,x65)) s.1 s.2) fu (x64,x65)
def reduce_places.L2(fu:Nat)(nx1:(List Int)→Int→Option (List Int))(x2:List Int)(x24:List Int)(x25:Int)(x47:Int)(nx2:(List Int)→Int→Option (List Int))(x54:List Int)(x55:Int):Option (List Int):=
  if x55<(x24.length:Int)then((at? x24 x55).bind λx62=>reduce_places.W3 fu nx2 x2 x25 x47 x55 x62 x54 0)else nx1 x54 (wk .i64 (x25+1))
def reduce_places.W2(fu:Nat)(nx1:(List Int)→Int→Option (List Int))(x2:List Int)(x24:List Int)(x25:Int)(x47:Int)(x54:List Int)(x55:Int):Option (List Int):=
  cloop (λnext s=>reduce_places.L2 fu nx1 x2 x24 x25 x47 (λx54 x55=>next (x54,x55)) s.1 s.2) fu (x54,x55)
def reduce_places.L1(fu:Nat)(x1:List Int)(x2:List Int)(nx1:(List Int)→Int→Option (List Int))(x24:List Int)(x25:Int):Option (List Int):=
  if x25<(x1.length:Int)then((at? x1 x25).bind λx47=>reduce_places.W2 fu nx1 x2 x24 x25 x47 ([]:List Int) 0)else some x24
def reduce_places.W1(fu:Nat)(x1:List Int)(x2:List Int)(x24:List Int)(x25:Int):Option (List Int):=
  cloop (λnext s=>reduce_places.L1 fu x1 x2 (λx24 x25=>next (x24,x25)) s.1 s.2) fu (x24,x25)
def reduce_places(fu:Nat)(x1:List Int)(x2:List Int):Option (List Int):=
  reduce_places.W1 fu x1 x2 ([0]) 0
def rowL(steps:List Int)(x:Int):List Int:=steps.map λs=>wk .i64 (x+s)
def rowsL(steps:List Int):Nat→List Int→List (Int×List Int)
  |_,[]=>[]
  |k,x::xs=>((k:Int),rowL steps x)::rowsL steps (k+1) xs
def reduce_rowsIt(fu:Nat)(outer far steps:List Int):Option (List (Int×List Int)):=
  (reduce_places fu outer far).bind λfs=>chk (fs.length<fu/\steps.length<fu/\fs.length<=140737488355328/\steps.length*8<=140737488355328)<|some (rowsL steps 0 fs)
def reduce_at_uint32.L1(fu:Nat)(x1:List Int)(x2:List Int)(nx1:(List Int)→Int→Option (List Int))(x5:List Int)(x6:Int):Option (List Int):=
  if x6<(x2.length:Int)then((at? x2 x6).bind λx9=>(at? x1 x9).bind λx10=>chk ((x5.length+1:Int)*4<=140737488355328)<|nx1 (x5++([x10])) (wk .i64 (x6+1)))else some x5
def reduce_at_uint32.W1(fu:Nat)(x1:List Int)(x2:List Int)(x5:List Int)(x6:Int):Option (List Int):=
  cloop (λnext s=>reduce_at_uint32.L1 fu x1 x2 (λx5 x6=>next (x5,x6)) s.1 s.2) fu (x5,x6)
def reduce_at_uint32(fu:Nat)(x1:List Int)(x2:List Int):Option (List Int):=
  reduce_at_uint32.W1 fu x1 x2 ([]:List Int) 0
def reduce_fold_uint32.L1(fu:Nat)(p2:Int→Int→Option Int)(x1:List Int)(nx1:Int→Int→Option Int)(x5:Int)(x6:Int):Option Int:=
  if x6<(x1.length:Int)then((at? x1 x6).bind λx9=>(p2 x5 x9).bind λx10=>nx1 x10 (wk .i64 (x6+1)))else some x5
def reduce_fold_uint32.W1(fu:Nat)(p2:Int→Int→Option Int)(x1:List Int)(x5:Int)(x6:Int):Option Int:=
  cloop (λnext s=>reduce_fold_uint32.L1 fu p2 x1 (λx5 x6=>next (x5,x6)) s.1 s.2) fu (x5,x6)
def reduce_fold_uint32(fu:Nat)(x1:List Int)(x2:Int)(p2:Int→Int→Option Int):Option Int:=
  reduce_fold_uint32.W1 fu p2 x1 x2 0
def soft_place(fu:Nat)(x1:Int):Option Int:=
  (soft_Abs fu x1).bind λx2=>if(shrk .u32 x1 31)=1 then(some (wk .i64 (0 - (wk .i64 x2))))else some (wk .i64 x2)
def soft_Equal(fu:Nat)(x1:Int)(x2:Int):Option Bool:=
  (soft_NaN fu x1).bind λx3=>if x3=true then(some false)else(soft_NaN fu x2).bind λx4=>if x4=true then(some false)else(soft_place fu x1).bind λx5=>(soft_place fu x2).bind λx6=>some (decide (x5=x6))
def soft_Less(fu:Nat)(x1:Int)(x2:Int):Option Bool:=
  (soft_NaN fu x1).bind λx3=>if x3=true then(some false)else(soft_NaN fu x2).bind λx4=>if x4=true then(some false)else(soft_place fu x1).bind λx5=>(soft_place fu x2).bind λx6=>some (decide (x5<x6))
def soft_Max(fu:Nat)(x1:Int)(x2:Int):Option Int:=
  (soft_NaN fu x1).bind λx3=>if x3=true then(some 2143289344)else(soft_NaN fu x2).bind λx4=>if x4=true then(some 2143289344)else(soft_Equal fu x1 x2).bind λx5=>if x5=true then(some (band .u32 x1 x2))else(soft_Less fu x1 x2).bind λx6=>if x6=true then(some x2)else some x1
def reduce_floatOf_1(fu:Nat)(x1:List Int):Option Int:=
  chk (0<=1/\1<=(x1.length:Int))<|(at? x1 0).bind λx2=>(reduce_fold_uint32 fu (subN x1 (1:Int).toNat x1.length) x2 (λy0 y1=>soft_Max fu y0 y1)).bind λx3=>some x3
def reduce_at_int64.L1(fu:Nat)(x1:List Int)(x2:List Int)(nx1:(List Int)→Int→Option (List Int))(x5:List Int)(x6:Int):Option (List Int):=
  if x6<(x2.length:Int)then((at? x2 x6).bind λx9=>(at? x1 x9).bind λx10=>chk ((x5.length+1:Int)*8<=140737488355328)<|nx1 (x5++([x10])) (wk .i64 (x6+1)))else some x5
def reduce_at_int64.W1(fu:Nat)(x1:List Int)(x2:List Int)(x5:List Int)(x6:Int):Option (List Int):=
  cloop (λnext s=>reduce_at_int64.L1 fu x1 x2 (λx5 x6=>next (x5,x6)) s.1 s.2) fu (x5,x6)
def reduce_at_int64(fu:Nat)(x1:List Int)(x2:List Int):Option (List Int):=
  reduce_at_int64.W1 fu x1 x2 ([]:List Int) 0
def reduce_fold_int64.L1(fu:Nat)(p2:Int→Int→Option Int)(x1:List Int)(nx1:Int→Int→Option Int)(x5:Int)(x6:Int):Option Int:=
  if x6<(x1.length:Int)then((at? x1 x6).bind λx9=>(p2 x5 x9).bind λx10=>nx1 x10 (wk .i64 (x6+1)))else some x5
def reduce_fold_int64.W1(fu:Nat)(p2:Int→Int→Option Int)(x1:List Int)(x5:Int)(x6:Int):Option Int:=
  cloop (λnext s=>reduce_fold_int64.L1 fu p2 x1 (λx5 x6=>next (x5,x6)) s.1 s.2) fu (x5,x6)
def reduce_fold_int64(fu:Nat)(x1:List Int)(x2:Int)(p2:Int→Int→Option Int):Option Int:=
  reduce_fold_int64.W1 fu p2 x1 x2 0
def reduce_intOf_2_1(fu:Nat)(x1:Int)(x2:Int):Option Int:=
  some (imax x1 x2)
def reduce_intOf_2(fu:Nat)(x1:List Int):Option Int:=
  (at? x1 0).bind λx2=>(reduce_fold_int64 fu x1 x2 (λy0 y1=>reduce_intOf_2_1 fu y0 y1)).bind λx3=>some x3
def soft_Min(fu:Nat)(x1:Int)(x2:Int):Option Int:=
  (soft_NaN fu x1).bind λx3=>if x3=true then(some 2143289344)else(soft_NaN fu x2).bind λx4=>if x4=true then(some 2143289344)else(soft_Equal fu x1 x2).bind λx5=>if x5=true then(some (bor .u32 x1 x2))else(soft_Less fu x2 x1).bind λx6=>if x6=true then(some x2)else some x1
def reduce_floatOf_2(fu:Nat)(x1:List Int):Option Int:=
  chk (0<=1/\1<=(x1.length:Int))<|(at? x1 0).bind λx2=>(reduce_fold_uint32 fu (subN x1 (1:Int).toNat x1.length) x2 (λy0 y1=>soft_Min fu y0 y1)).bind λx3=>some x3
def reduce_intOf_3_1(fu:Nat)(x1:Int)(x2:Int):Option Int:=
  some (imin x1 x2)
def reduce_intOf_3(fu:Nat)(x1:List Int):Option Int:=
  (at? x1 0).bind λx2=>(reduce_fold_int64 fu x1 x2 (λy0 y1=>reduce_intOf_3_1 fu y0 y1)).bind λx3=>some x3
def reduce_intOf_1_1(fu:Nat)(x1:Int)(x2:Int):Option Int:=
  some (wk .i64 (x1+x2))
def reduce_intOf_1(fu:Nat)(x1:List Int):Option Int:=
  (reduce_fold_int64 fu x1 0 (λy0 y1=>reduce_intOf_1_1 fu y0 y1)).bind λx2=>some x2
def reduce_intOf_4_1(fu:Nat)(x1:Int)(x2:Int):Option Int:=
  some (wk .i64 (x1*x2))
def reduce_intOf_4(fu:Nat)(x1:List Int):Option Int:=
  (reduce_fold_int64 fu x1 1 (λy0 y1=>reduce_intOf_4_1 fu y0 y1)).bind λx2=>some x2
def reduce_Do.R1(fu:Nat)(x8:T_Tensor)(x10:T_Tensor×Int)(nr1:(List Int)→(List Int)→Option (T_Tensor×Int))(x19:Int)(x20:List Int)(x25:List Int)(x26:List Int):Option (T_Tensor×Int):=
  chk (x10.1.fF.length=x25.length)<|chk (x10.1.fI.length=x26.length)<|if x8.fType=1 then((reduce_at_uint32 fu x8.fF x20).bind λx31=>(reduce_floatOf_1 fu x31).bind λx32=>chk (0<=x19/\x19<(x25.length:Int))<|nr1 (x25.set x19.toNat x32) x26)else(reduce_at_int64 fu x8.fI x20).bind λx33=>(reduce_intOf_2 fu x33).bind λx34=>chk (0<=x19/\x19<(x26.length:Int))<|nr1 x25 (x26.set x19.toNat x34)
def reduce_Do.E1(fu:Nat)(x10:T_Tensor×Int)(x25:List Int)(x26:List Int):Option (T_Tensor×Int):=
  chk (x10.1.fF.length=x25.length)<|chk (x10.1.fI.length=x26.length)<|some (T_Tensor.mk x10.1.fType x10.1.fDims x25 x26 x10.1.fB,0)
def reduce_Do.k2(fu:Nat)(x8:T_Tensor)(x10:T_Tensor×Int)(x13:List Int)(x14:List Int)(x15:List Int)(x16:List Int):Option (T_Tensor×Int):=
  (reduce_places fu x13 x15).bind λx17=>(reduce_rowsIt fu x14 x16 x17).bind λx18=>lloop (λy next (s:(List Int)×(List Int))=>reduce_Do.R1 fu x8 x10 (λu0 u1=>next (u0,u1)) y.1 y.2 s.1 s.2) (λ(s:(List Int)×(List Int))=>reduce_Do.E1 fu x10 s.1 s.2) x18 (x10.1.fF,x10.1.fI)
def reduce_Do.L1(fu:Nat)(x8:T_Tensor)(x10:T_Tensor×Int)(x11:List Bool)(x12:(List Int)×Int)(nx1:(List Int)→(List Int)→(List Int)→(List Int)→Int→Option (T_Tensor×Int))(x39:List Int)(x40:List Int)(x41:List Int)(x42:List Int)(x43:Int):Option (T_Tensor×Int):=
  if x43<(x8.fDims.length:Int)then((at? x8.fDims x43).bind λx48=>(at? x11 x43).bind λx49=>if x49=true then(chk ((x39.length+1:Int)*8<=140737488355328)<|(at? x12.1 x43).bind λx50=>chk ((x41.length+1:Int)*8<=140737488355328)<|nx1 (x39++([x48])) x40 (x41++([x50])) x42 (wk .i64 (x43+1)))else chk ((x40.length+1:Int)*8<=140737488355328)<|(at? x12.1 x43).bind λx51=>chk ((x42.length+1:Int)*8<=140737488355328)<|nx1 x39 (x40++([x48])) x41 (x42++([x51])) (wk .i64 (x43+1)))else reduce_Do.k2 fu x8 x10 x39 x40 x41 x42
def reduce_Do.W1(fu:Nat)(x8:T_Tensor)(x10:T_Tensor×Int)(x11:List Bool)(x12:(List Int)×Int)(x39:List Int)(x40:List Int)(x41:List Int)(x42:List Int)(x43:Int):Option (T_Tensor×Int):=
  cloop (λnext s=>reduce_Do.L1 fu x8 x10 x11 x12 (λx39 x40 x41 x42 x43=>next (x39,x40,x41,x42,x43)) s.1 s.2.1 s.2.2.1 s.2.2.2.1 s.2.2.2.2) fu (x39,x40,x41,x42,x43)
def reduce_Do.k1(fu:Nat)(x2:T_Setting)(x3:List T_Tensor)(x5:List T_Tensor):Option (T_Tensor×Int):=
  (ewise_Vals fu x3).bind λx6=>(infer_Node fu 67 x2 x6 1).bind λx7=>if x7.2=0 then((at? x5 0).bind λx8=>(at? x7.1 0).bind λx9=>(tens_New fu x9.fType x9.fDims).bind λx10=>(reduce_work_over fu (T_reduce_work.mk 67 x2 x5 x8 x10.1)).bind λx11=>(shape_Strides fu x8.fDims).bind λx12=>jn 2 () (λ(t:(List Int)×(List Int)×(List Int)×(List Int))=>reduce_Do.k2 fu x8 x10 t.1 t.2.1 t.2.2.1 t.2.2.2)<|reduce_Do.W1 fu x8 x10 x11 x12 ([]:List Int) ([]:List Int) ([]:List Int) ([]:List Int) 0)else some (T_Tensor.mk 0 ([]) ([]) ([]) ([]),x7.2)
def reduce_Do.L2(fu:Nat)(x2:T_Setting)(x3:List T_Tensor)(nx2:(List T_Tensor)→Int→Option (T_Tensor×Int))(x56:List T_Tensor)(x57:Int):Option (T_Tensor×Int):=
  if x57<(x3.length:Int)then((at? x3 x57).bind λx62=>if x62.fType=0 then((tens_Canon fu x62).bind λx63=>chk ((x56.length+1:Int)*104<=140737488355328)<|nx2 (x56++([x63])) (wk .i64 (x57+1)))else(tens_Check fu x62).bind λx64=>if x64=0 then((tens_Canon fu x62).bind λx65=>chk ((x56.length+1:Int)*104<=140737488355328)<|nx2 (x56++([x65])) (wk .i64 (x57+1)))else some (T_Tensor.mk 0 ([]) ([]) ([]) ([]),x64))else reduce_Do.k1 fu x2 x3 x56
def reduce_Do.W2(fu:Nat)(x2:T_Setting)(x3:List T_Tensor)(x56:List T_Tensor)(x57:Int):Option (T_Tensor×Int):=
  cloop (λnext s=>reduce_Do.L2 fu x2 x3 (λx56 x57=>next (x56,x57)) s.1 s.2) fu (x56,x57)
def reduce_Do.R2(fu:Nat)(x70:T_Tensor)(x72:T_Tensor×Int)(nr2:(List Int)→(List Int)→Option (T_Tensor×Int))(x81:Int)(x82:List Int)(x87:List Int)(x88:List Int):Option (T_Tensor×Int):=
  chk (x72.1.fF.length=x87.length)<|chk (x72.1.fI.length=x88.length)<|if x70.fType=1 then((reduce_at_uint32 fu x70.fF x82).bind λx93=>(reduce_floatOf_2 fu x93).bind λx94=>chk (0<=x81/\x81<(x87.length:Int))<|nr2 (x87.set x81.toNat x94) x88)else(reduce_at_int64 fu x70.fI x82).bind λx95=>(reduce_intOf_3 fu x95).bind λx96=>chk (0<=x81/\x81<(x88.length:Int))<|nr2 x87 (x88.set x81.toNat x96)
def reduce_Do.E2(fu:Nat)(x72:T_Tensor×Int)(x87:List Int)(x88:List Int):Option (T_Tensor×Int):=
  chk (x72.1.fF.length=x87.length)<|chk (x72.1.fI.length=x88.length)<|some (T_Tensor.mk x72.1.fType x72.1.fDims x87 x88 x72.1.fB,0)
def reduce_Do.k4(fu:Nat)(x70:T_Tensor)(x72:T_Tensor×Int)(x75:List Int)(x76:List Int)(x77:List Int)(x78:List Int):Option (T_Tensor×Int):=
  (reduce_places fu x75 x77).bind λx79=>(reduce_rowsIt fu x76 x78 x79).bind λx80=>lloop (λy next (s:(List Int)×(List Int))=>reduce_Do.R2 fu x70 x72 (λu0 u1=>next (u0,u1)) y.1 y.2 s.1 s.2) (λ(s:(List Int)×(List Int))=>reduce_Do.E2 fu x72 s.1 s.2) x80 (x72.1.fF,x72.1.fI)
def reduce_Do.L3(fu:Nat)(x70:T_Tensor)(x72:T_Tensor×Int)(x73:List Bool)(x74:(List Int)×Int)(nx3:(List Int)→(List Int)→(List Int)→(List Int)→Int→Option (T_Tensor×Int))(x101:List Int)(x102:List Int)(x103:List Int)(x104:List Int)(x105:Int):Option (T_Tensor×Int):=
  if x105<(x70.fDims.length:Int)then((at? x70.fDims x105).bind λx110=>(at? x73 x105).bind λx111=>if x111=true then(chk ((x101.length+1:Int)*8<=140737488355328)<|(at? x74.1 x105).bind λx112=>chk ((x103.length+1:Int)*8<=140737488355328)<|nx3 (x101++([x110])) x102 (x103++([x112])) x104 (wk .i64 (x105+1)))else chk ((x102.length+1:Int)*8<=140737488355328)<|(at? x74.1 x105).bind λx113=>chk ((x104.length+1:Int)*8<=140737488355328)<|nx3 x101 (x102++([x110])) x103 (x104++([x113])) (wk .i64 (x105+1)))else reduce_Do.k4 fu x70 x72 x101 x102 x103 x104
def reduce_Do.W3(fu:Nat)(x70:T_Tensor)(x72:T_Tensor×Int)(x73:List Bool)(x74:(List Int)×Int)(x101:List Int)(x102:List Int)(x103:List Int)(x104:List Int)(x105:Int):Option (T_Tensor×Int):=
  cloop (λnext s=>reduce_Do.L3 fu x70 x72 x73 x74 (λx101 x102 x103 x104 x105=>next (x101,x102,x103,x104,x105)) s.1 s.2.1 s.2.2.1 s.2.2.2.1 s.2.2.2.2) fu (x101,x102,x103,x104,x105)
def reduce_Do.k3(fu:Nat)(x2:T_Setting)(x3:List T_Tensor)(x67:List T_Tensor):Option (T_Tensor×Int):=
  (ewise_Vals fu x3).bind λx68=>(infer_Node fu 68 x2 x68 1).bind λx69=>if x69.2=0 then((at? x67 0).bind λx70=>(at? x69.1 0).bind λx71=>(tens_New fu x71.fType x71.fDims).bind λx72=>(reduce_work_over fu (T_reduce_work.mk 68 x2 x67 x70 x72.1)).bind λx73=>(shape_Strides fu x70.fDims).bind λx74=>jn 4 () (λ(t:(List Int)×(List Int)×(List Int)×(List Int))=>reduce_Do.k4 fu x70 x72 t.1 t.2.1 t.2.2.1 t.2.2.2)<|reduce_Do.W3 fu x70 x72 x73 x74 ([]:List Int) ([]:List Int) ([]:List Int) ([]:List Int) 0)else some (T_Tensor.mk 0 ([]) ([]) ([]) ([]),x69.2)
def reduce_Do.L4(fu:Nat)(x2:T_Setting)(x3:List T_Tensor)(nx4:(List T_Tensor)→Int→Option (T_Tensor×Int))(x118:List T_Tensor)(x119:Int):Option (T_Tensor×Int):=
  if x119<(x3.length:Int)then((at? x3 x119).bind λx124=>if x124.fType=0 then((tens_Canon fu x124).bind λx125=>chk ((x118.length+1:Int)*104<=140737488355328)<|nx4 (x118++([x125])) (wk .i64 (x119+1)))else(tens_Check fu x124).bind λx126=>if x126=0 then((tens_Canon fu x124).bind λx127=>chk ((x118.length+1:Int)*104<=140737488355328)<|nx4 (x118++([x127])) (wk .i64 (x119+1)))else some (T_Tensor.mk 0 ([]) ([]) ([]) ([]),x126))else reduce_Do.k3 fu x2 x3 x118
def reduce_Do.W4(fu:Nat)(x2:T_Setting)(x3:List T_Tensor)(x118:List T_Tensor)(x119:Int):Option (T_Tensor×Int):=
  cloop (λnext s=>reduce_Do.L4 fu x2 x3 (λx118 x119=>next (x118,x119)) s.1 s.2) fu (x118,x119)
def reduce_Do.R3(fu:Nat)(x132:T_Tensor)(x134:T_Tensor×Int)(nr3:(List Int)→Option (T_Tensor×Int))(x143:Int)(x144:List Int)(x148:List Int):Option (T_Tensor×Int):=
  chk (x134.1.fI.length=x148.length)<|if x132.fType=1 then((reduce_at_uint32 fu x132.fF x144).bind λx152=>none)else(reduce_at_int64 fu x132.fI x144).bind λx153=>(reduce_intOf_1 fu x153).bind λx154=>chk (0<=x143/\x143<(x148.length:Int))<|nr3 (x148.set x143.toNat x154)
def reduce_Do.E3(fu:Nat)(x134:T_Tensor×Int)(x148:List Int):Option (T_Tensor×Int):=
  chk (x134.1.fI.length=x148.length)<|some (T_Tensor.mk x134.1.fType x134.1.fDims x134.1.fF x148 x134.1.fB,0)
def reduce_Do.k6(fu:Nat)(x132:T_Tensor)(x134:T_Tensor×Int)(x137:List Int)(x138:List Int)(x139:List Int)(x140:List Int):Option (T_Tensor×Int):=
  (reduce_places fu x137 x139).bind λx141=>(reduce_rowsIt fu x138 x140 x141).bind λx142=>lloop (λy next (s:List Int)=>reduce_Do.R3 fu x132 x134 next y.1 y.2 s) (λ(s:List Int)=>reduce_Do.E3 fu x134 s) x142 x134.1.fI
def reduce_Do.L5(fu:Nat)(x132:T_Tensor)(x134:T_Tensor×Int)(x135:List Bool)(x136:(List Int)×Int)(nx5:(List Int)→(List Int)→(List Int)→(List Int)→Int→Option (T_Tensor×Int))(x159:List Int)(x160:List Int)(x161:List Int)(x162:List Int)(x163:Int):Option (T_Tensor×Int):=
  if x163<(x132.fDims.length:Int)then((at? x132.fDims x163).bind λx168=>(at? x135 x163).bind λx169=>if x169=true then(chk ((x159.length+1:Int)*8<=140737488355328)<|(at? x136.1 x163).bind λx170=>chk ((x161.length+1:Int)*8<=140737488355328)<|nx5 (x159++([x168])) x160 (x161++([x170])) x162 (wk .i64 (x163+1)))else chk ((x160.length+1:Int)*8<=140737488355328)<|(at? x136.1 x163).bind λx171=>chk ((x162.length+1:Int)*8<=140737488355328)<|nx5 x159 (x160++([x168])) x161 (x162++([x171])) (wk .i64 (x163+1)))else reduce_Do.k6 fu x132 x134 x159 x160 x161 x162
def reduce_Do.W5(fu:Nat)(x132:T_Tensor)(x134:T_Tensor×Int)(x135:List Bool)(x136:(List Int)×Int)(x159:List Int)(x160:List Int)(x161:List Int)(x162:List Int)(x163:Int):Option (T_Tensor×Int):=
  cloop (λnext s=>reduce_Do.L5 fu x132 x134 x135 x136 (λx159 x160 x161 x162 x163=>next (x159,x160,x161,x162,x163)) s.1 s.2.1 s.2.2.1 s.2.2.2.1 s.2.2.2.2) fu (x159,x160,x161,x162,x163)
def reduce_Do.k5(fu:Nat)(x2:T_Setting)(x3:List T_Tensor)(x129:List T_Tensor):Option (T_Tensor×Int):=
  (ewise_Vals fu x3).bind λx130=>(infer_Node fu 65 x2 x130 1).bind λx131=>if x131.2=0 then((at? x129 0).bind λx132=>(at? x131.1 0).bind λx133=>(tens_New fu x133.fType x133.fDims).bind λx134=>(reduce_work_over fu (T_reduce_work.mk 65 x2 x129 x132 x134.1)).bind λx135=>(shape_Strides fu x132.fDims).bind λx136=>jn 6 () (λ(t:(List Int)×(List Int)×(List Int)×(List Int))=>reduce_Do.k6 fu x132 x134 t.1 t.2.1 t.2.2.1 t.2.2.2)<|reduce_Do.W5 fu x132 x134 x135 x136 ([]:List Int) ([]:List Int) ([]:List Int) ([]:List Int) 0)else some (T_Tensor.mk 0 ([]) ([]) ([]) ([]),x131.2)
def reduce_Do.L6(fu:Nat)(x2:T_Setting)(x3:List T_Tensor)(nx6:(List T_Tensor)→Int→Option (T_Tensor×Int))(x176:List T_Tensor)(x177:Int):Option (T_Tensor×Int):=
  if x177<(x3.length:Int)then((at? x3 x177).bind λx182=>if x182.fType=0 then((tens_Canon fu x182).bind λx183=>chk ((x176.length+1:Int)*104<=140737488355328)<|nx6 (x176++([x183])) (wk .i64 (x177+1)))else(tens_Check fu x182).bind λx184=>if x184=0 then((tens_Canon fu x182).bind λx185=>chk ((x176.length+1:Int)*104<=140737488355328)<|nx6 (x176++([x185])) (wk .i64 (x177+1)))else some (T_Tensor.mk 0 ([]) ([]) ([]) ([]),x184))else reduce_Do.k5 fu x2 x3 x176
def reduce_Do.W6(fu:Nat)(x2:T_Setting)(x3:List T_Tensor)(x176:List T_Tensor)(x177:Int):Option (T_Tensor×Int):=
  cloop (λnext s=>reduce_Do.L6 fu x2 x3 (λx176 x177=>next (x176,x177)) s.1 s.2) fu (x176,x177)
def reduce_Do.R4(fu:Nat)(x190:T_Tensor)(x192:T_Tensor×Int)(nr4:(List Int)→Option (T_Tensor×Int))(x201:Int)(x202:List Int)(x206:List Int):Option (T_Tensor×Int):=
  chk (x192.1.fI.length=x206.length)<|if x190.fType=1 then((reduce_at_uint32 fu x190.fF x202).bind λx210=>none)else(reduce_at_int64 fu x190.fI x202).bind λx211=>(reduce_intOf_4 fu x211).bind λx212=>chk (0<=x201/\x201<(x206.length:Int))<|nr4 (x206.set x201.toNat x212)
def reduce_Do.E4(fu:Nat)(x192:T_Tensor×Int)(x206:List Int):Option (T_Tensor×Int):=
  chk (x192.1.fI.length=x206.length)<|some (T_Tensor.mk x192.1.fType x192.1.fDims x192.1.fF x206 x192.1.fB,0)
def reduce_Do.k8(fu:Nat)(x190:T_Tensor)(x192:T_Tensor×Int)(x195:List Int)(x196:List Int)(x197:List Int)(x198:List Int):Option (T_Tensor×Int):=
  (reduce_places fu x195 x197).bind λx199=>(reduce_rowsIt fu x196 x198 x199).bind λx200=>lloop (λy next (s:List Int)=>reduce_Do.R4 fu x190 x192 next y.1 y.2 s) (λ(s:List Int)=>reduce_Do.E4 fu x192 s) x200 x192.1.fI
def reduce_Do.L7(fu:Nat)(x190:T_Tensor)(x192:T_Tensor×Int)(x193:List Bool)(x194:(List Int)×Int)(nx7:(List Int)→(List Int)→(List Int)→(List Int)→Int→Option (T_Tensor×Int))(x217:List Int)(x218:List Int)(x219:List Int)(x220:List Int)(x221:Int):Option (T_Tensor×Int):=
  if x221<(x190.fDims.length:Int)then((at? x190.fDims x221).bind λx226=>(at? x193 x221).bind λx227=>if x227=true then(chk ((x217.length+1:Int)*8<=140737488355328)<|(at? x194.1 x221).bind λx228=>chk ((x219.length+1:Int)*8<=140737488355328)<|nx7 (x217++([x226])) x218 (x219++([x228])) x220 (wk .i64 (x221+1)))else chk ((x218.length+1:Int)*8<=140737488355328)<|(at? x194.1 x221).bind λx229=>chk ((x220.length+1:Int)*8<=140737488355328)<|nx7 x217 (x218++([x226])) x219 (x220++([x229])) (wk .i64 (x221+1)))else reduce_Do.k8 fu x190 x192 x217 x218 x219 x220
def reduce_Do.W7(fu:Nat)(x190:T_Tensor)(x192:T_Tensor×Int)(x193:List Bool)(x194:(List Int)×Int)(x217:List Int)(x218:List Int)(x219:List Int)(x220:List Int)(x221:Int):Option (T_Tensor×Int):=
  cloop (λnext s=>reduce_Do.L7 fu x190 x192 x193 x194 (λx217 x218 x219 x220 x221=>next (x217,x218,x219,x220,x221)) s.1 s.2.1 s.2.2.1 s.2.2.2.1 s.2.2.2.2) fu (x217,x218,x219,x220,x221)
def reduce_Do.k7(fu:Nat)(x2:T_Setting)(x3:List T_Tensor)(x187:List T_Tensor):Option (T_Tensor×Int):=
  (ewise_Vals fu x3).bind λx188=>(infer_Node fu 69 x2 x188 1).bind λx189=>if x189.2=0 then((at? x187 0).bind λx190=>(at? x189.1 0).bind λx191=>(tens_New fu x191.fType x191.fDims).bind λx192=>(reduce_work_over fu (T_reduce_work.mk 69 x2 x187 x190 x192.1)).bind λx193=>(shape_Strides fu x190.fDims).bind λx194=>jn 8 () (λ(t:(List Int)×(List Int)×(List Int)×(List Int))=>reduce_Do.k8 fu x190 x192 t.1 t.2.1 t.2.2.1 t.2.2.2)<|reduce_Do.W7 fu x190 x192 x193 x194 ([]:List Int) ([]:List Int) ([]:List Int) ([]:List Int) 0)else some (T_Tensor.mk 0 ([]) ([]) ([]) ([]),x189.2)
def reduce_Do.L8(fu:Nat)(x2:T_Setting)(x3:List T_Tensor)(nx8:(List T_Tensor)→Int→Option (T_Tensor×Int))(x234:List T_Tensor)(x235:Int):Option (T_Tensor×Int):=
  if x235<(x3.length:Int)then((at? x3 x235).bind λx240=>if x240.fType=0 then((tens_Canon fu x240).bind λx241=>chk ((x234.length+1:Int)*104<=140737488355328)<|nx8 (x234++([x241])) (wk .i64 (x235+1)))else(tens_Check fu x240).bind λx242=>if x242=0 then((tens_Canon fu x240).bind λx243=>chk ((x234.length+1:Int)*104<=140737488355328)<|nx8 (x234++([x243])) (wk .i64 (x235+1)))else some (T_Tensor.mk 0 ([]) ([]) ([]) ([]),x242))else reduce_Do.k7 fu x2 x3 x234
def reduce_Do.W8(fu:Nat)(x2:T_Setting)(x3:List T_Tensor)(x234:List T_Tensor)(x235:Int):Option (T_Tensor×Int):=
  cloop (λnext s=>reduce_Do.L8 fu x2 x3 (λx234 x235=>next (x234,x235)) s.1 s.2) fu (x234,x235)
def reduce_Do(fu:Nat)(x1:Int)(x2:T_Setting)(x3:List T_Tensor):Option (T_Tensor×Int):=
  spl (x1=67) ((reduce_Has fu 67).bind λx4=>if x4=true then(jn 1 () (λ(t:List T_Tensor)=>reduce_Do.k1 fu x2 x3 t)<|reduce_Do.W2 fu x2 x3 ([]:List T_Tensor) 0)else some (T_Tensor.mk 0 ([]) ([]) ([]) ([]),1)) (spl (x1=68) ((reduce_Has fu 68).bind λx66=>if x66=true then(jn 3 () (λ(t:List T_Tensor)=>reduce_Do.k3 fu x2 x3 t)<|reduce_Do.W4 fu x2 x3 ([]:List T_Tensor) 0)else some (T_Tensor.mk 0 ([]) ([]) ([]) ([]),1)) (spl (x1=65) ((reduce_Has fu 65).bind λx128=>if x128=true then(jn 5 () (λ(t:List T_Tensor)=>reduce_Do.k5 fu x2 x3 t)<|reduce_Do.W6 fu x2 x3 ([]:List T_Tensor) 0)else some (T_Tensor.mk 0 ([]) ([]) ([]) ([]),1)) (chk (x1=69)<|(reduce_Has fu 69).bind λx186=>if x186=true then(jn 7 () (λ(t:List T_Tensor)=>reduce_Do.k7 fu x2 x3 t)<|reduce_Do.W8 fu x2 x3 ([]:List T_Tensor) 0)else some (T_Tensor.mk 0 ([]) ([]) ([]) ([]),1))))
def ref05_New(fu:Nat)(x1:Int)(x2:List Int):Option (T_Tensor×Int):=
  (ref05_Known fu x1).bind λx3=>if x3=true then((ref04_Size fu x2).bind λx4=>if x4.2=0 then(chk ((x2.length:Int)*8<=140737488355328)<|if x1=1 then(chk (0<=x4.1/\x4.1*4<=140737488355328)<|some (T_Tensor.mk x1 x2 (List.replicate x4.1.toNat (0:Int)) ([]) ([]),0))else if x1=7 then(chk (0<=x4.1/\x4.1*8<=140737488355328)<|some (T_Tensor.mk x1 x2 ([]) (List.replicate x4.1.toNat (0:Int)) ([]),0))else chk (0<=x4.1/\x4.1*1<=140737488355328)<|some (T_Tensor.mk x1 x2 ([]) ([]) (List.replicate x4.1.toNat (false:Bool)),0))else some (T_Tensor.mk 0 ([]) ([]) ([]) ([]),x4.2))else some (T_Tensor.mk 0 ([]) ([]) ([]) ([]),5)
def ref05_Pick.c2(fu:Nat)(nx1:(List Int)→(List Int)→(List Bool)→Int→Option (T_Tensor×Int))(x15:List Int)(x16:List Int)(x17:List Bool)(x18:Int)(x28:List Int)(x29:List Int)(x30:List Bool):Option (T_Tensor×Int):=
  chk (x15.length=x28.length)<|chk (x16.length=x29.length)<|chk (x17.length=x30.length)<|nx1 x28 x29 x30 (wk .i64 (x18+1))
def ref05_Pick.k1(fu:Nat)(nx1:(List Int)→(List Int)→(List Bool)→Int→Option (T_Tensor×Int))(x1:T_Tensor)(x3:List Int)(x5:T_Tensor×Int)(x15:List Int)(x16:List Int)(x17:List Bool)(x18:Int):Option (T_Tensor×Int):=
  (at? x3 x18).bind λx27=>if 0<=x27 then(jc 2 () (λ(t:(List Int)×(List Int)×(List Bool))=>ref05_Pick.c2 fu nx1 x15 x16 x17 x18 t.1 t.2.1 t.2.2)<|if x5.1.fType=1 then((at? x1.fF x27).bind λx31=>chk (0<=x18/\x18<(x15.length:Int))<|ref05_Pick.c2 fu nx1 x15 x16 x17 x18 (x15.set x18.toNat x31) x16 x17)else if x5.1.fType=7 then((at? x1.fI x27).bind λx32=>chk (0<=x18/\x18<(x16.length:Int))<|ref05_Pick.c2 fu nx1 x15 x16 x17 x18 x15 (x16.set x18.toNat x32) x17)else(at? x1.fB x27).bind λx33=>chk (0<=x18/\x18<(x17.length:Int))<|ref05_Pick.c2 fu nx1 x15 x16 x17 x18 x15 x16 (x17.set x18.toNat x33))else nx1 x15 x16 x17 (wk .i64 (x18+1))
def ref05_Pick.L1(fu:Nat)(x1:T_Tensor)(x3:List Int)(x5:T_Tensor×Int)(x6:Int×Int)(nx1:(List Int)→(List Int)→(List Bool)→Int→Option (T_Tensor×Int))(x15:List Int)(x16:List Int)(x17:List Bool)(x18:Int):Option (T_Tensor×Int):=
  if x18<x6.1 then(jn 1 () (λ(t:Unit)=>ref05_Pick.k1 fu nx1 x1 x3 x5 x15 x16 x17 x18)<|(at? x3 x18).bind λx34=>if x34<(-1)then(some (T_Tensor.mk 0 ([]) ([]) ([]) ([]),2))else if(wk .i64 ((wk .i64 ((x1.fF.length:Int)+(x1.fI.length:Int)))+(x1.fB.length:Int)))<=x34 then(some (T_Tensor.mk 0 ([]) ([]) ([]) ([]),2))else ref05_Pick.k1 fu nx1 x1 x3 x5 x15 x16 x17 x18)else some (T_Tensor.mk x5.1.fType x5.1.fDims x15 x16 x17,0)
def ref05_Pick.W1(fu:Nat)(x1:T_Tensor)(x3:List Int)(x5:T_Tensor×Int)(x6:Int×Int)(x15:List Int)(x16:List Int)(x17:List Bool)(x18:Int):Option (T_Tensor×Int):=
  cloop (λnext s=>ref05_Pick.L1 fu x1 x3 x5 x6 (λx15 x16 x17 x18=>next (x15,x16,x17,x18)) s.1 s.2.1 s.2.2.1 s.2.2.2) fu (x15,x16,x17,x18)
def ref05_Pick(fu:Nat)(x1:T_Tensor)(x2:List Int)(x3:List Int):Option (T_Tensor×Int):=
  (ref05_Check fu x1).bind λx4=>if x4=0 then((ref05_New fu x1.fType x2).bind λx5=>if x5.2=0 then((ref04_Size fu x2).bind λx6=>if(x3.length:Int)=x6.1 then(ref05_Pick.W1 fu x1 x3 x5 x6 x5.1.fF x5.1.fI x5.1.fB 0)else some (T_Tensor.mk 0 ([]) ([]) ([]) ([]),3))else some (T_Tensor.mk 0 ([]) ([]) ([]) ([]),x5.2))else some (T_Tensor.mk 0 ([]) ([]) ([]) ([]),x4)
def law13_turned.k1(fu:Nat)(x1:T_Tensor)(x2:List Int):Option T_Tensor:=
  (ref05_Pick fu x1 ([wk .i64 ((wk .i64 ((x1.fF.length:Int)+(x1.fI.length:Int)))+(x1.fB.length:Int))]) x2).bind λx3=>some x3.1
def law13_turned.L1(fu:Nat)(x1:T_Tensor)(nx1:(List Int)→Int→Option T_Tensor)(x4:List Int)(x5:Int):Option T_Tensor:=
  if 0<=x5 then(chk ((x4.length+1:Int)*8<=140737488355328)<|nx1 (x4++([x5])) (wk .i64 (x5 - 1)))else law13_turned.k1 fu x1 x4
def law13_turned.W1(fu:Nat)(x1:T_Tensor)(x4:List Int)(x5:Int):Option T_Tensor:=
  cloop (λnext s=>law13_turned.L1 fu x1 (λx4 x5=>next (x4,x5)) s.1 s.2) fu (x4,x5)
def law13_turned(fu:Nat)(x1:T_Tensor):Option T_Tensor:=
  jn 1 () (λ(t:List Int)=>law13_turned.k1 fu x1 t)<|law13_turned.W1 fu x1 ([]:List Int) (wk .i64 ((wk .i64 ((wk .i64 ((x1.fF.length:Int)+(x1.fI.length:Int)))+(x1.fB.length:Int))) - 1))
def ref04_SameInts.L1(fu:Nat)(x1:List Int)(x2:List Int)(nx1:Int→Option Bool)(x5:Int):Option Bool:=
  if x5<(x1.length:Int)then((at? x1 x5).bind λx8=>(at? x2 x5).bind λx9=>if x8=x9 then(nx1 (wk .i64 (x5+1)))else some false)else some true
def ref04_SameInts.W1(fu:Nat)(x1:List Int)(x2:List Int)(x5:Int):Option Bool:=
  cloop (λnext s=>ref04_SameInts.L1 fu x1 x2 next s) fu x5
def ref04_SameInts(fu:Nat)(x1:List Int)(x2:List Int):Option Bool:=
  if(x1.length:Int)=(x2.length:Int)then(ref04_SameInts.W1 fu x1 x2 0)else some false
def ref05_Same.L1(fu:Nat)(x1:T_Tensor)(x2:T_Tensor)(nx1:Int→Option Bool)(x5:Int):Option Bool:=
  if x5<(x1.fB.length:Int)then((at? x1.fB x5).bind λx8=>(at? x2.fB x5).bind λx9=>if(x8==x9)=true then(nx1 (wk .i64 (x5+1)))else some false)else some true
def ref05_Same.W1(fu:Nat)(x1:T_Tensor)(x2:T_Tensor)(x5:Int):Option Bool:=
  cloop (λnext s=>ref05_Same.L1 fu x1 x2 next s) fu x5
def ref05_Same.k3(fu:Nat)(x1:T_Tensor)(x2:T_Tensor):Option Bool:=
  ref05_Same.W1 fu x1 x2 0
def ref05_Same.L2(fu:Nat)(x1:T_Tensor)(x2:T_Tensor)(nx2:Int→Option Bool)(x12:Int):Option Bool:=
  if x12<(x1.fI.length:Int)then((at? x1.fI x12).bind λx15=>(at? x2.fI x12).bind λx16=>if x15=x16 then(nx2 (wk .i64 (x12+1)))else some false)else ref05_Same.k3 fu x1 x2
def ref05_Same.W2(fu:Nat)(x1:T_Tensor)(x2:T_Tensor)(x12:Int):Option Bool:=
  cloop (λnext s=>ref05_Same.L2 fu x1 x2 next s) fu x12
def ref05_Same.k2(fu:Nat)(x1:T_Tensor)(x2:T_Tensor):Option Bool:=
  jn 3 () (λ(t:Unit)=>ref05_Same.k3 fu x1 x2)<|ref05_Same.W2 fu x1 x2 0
def ref05_Same.L3(fu:Nat)(x1:T_Tensor)(x2:T_Tensor)(nx3:Int→Option Bool)(x19:Int):Option Bool:=
  if x19<(x1.fF.length:Int)then((at? x1.fF x19).bind λx22=>(at? x2.fF x19).bind λx23=>if x22=x23 then(nx3 (wk .i64 (x19+1)))else some false)else ref05_Same.k2 fu x1 x2
def ref05_Same.W3(fu:Nat)(x1:T_Tensor)(x2:T_Tensor)(x19:Int):Option Bool:=
  cloop (λnext s=>ref05_Same.L3 fu x1 x2 next s) fu x19
def ref05_Same.k1(fu:Nat)(x1:T_Tensor)(x2:T_Tensor):Option Bool:=
  jn 2 () (λ(t:Unit)=>ref05_Same.k2 fu x1 x2)<|ref05_Same.W3 fu x1 x2 0
def ref05_Same(fu:Nat)(x1:T_Tensor)(x2:T_Tensor):Option Bool:=
  jn 1 () (λ(t:Unit)=>ref05_Same.k1 fu x1 x2)<|if x1.fType=x2.fType then((ref04_SameInts fu x1.fDims x2.fDims).bind λx24=>if x24=true then(if(x1.fF.length:Int)=(x2.fF.length:Int)then(if(x1.fI.length:Int)=(x2.fI.length:Int)then(if(x1.fB.length:Int)=(x2.fB.length:Int)then(ref05_Same.k1 fu x1 x2)else some false)else some false)else some false)else some false)else some false
def law13_ReduceOrder.k1(fu:Nat)(x2:T_Tensor):Option Bool:=
  (ref05_Copy fu x2).bind λx3=>(reduce_Do fu 67 (T_Setting.mk 0 ([]) false false false false false ([]) false 0 0 0 false false false 0 0 false false 0 ([]) ([]) ([]) ([]) 0 false false 0 0 0 false (T_Tensor.mk 0 ([]) ([]) ([]) ([]))) ([T_Tensor.mk x3.fType ([wk .i64 ((wk .i64 ((x2.fF.length:Int)+(x2.fI.length:Int)))+(x2.fB.length:Int))]) x3.fF x3.fI x3.fB])).bind λx4=>(law13_turned fu (T_Tensor.mk x3.fType ([wk .i64 ((wk .i64 ((x2.fF.length:Int)+(x2.fI.length:Int)))+(x2.fB.length:Int))]) x3.fF x3.fI x3.fB)).bind λx5=>(reduce_Do fu 67 (T_Setting.mk 0 ([]) false false false false false ([]) false 0 0 0 false false false 0 0 false false 0 ([]) ([]) ([]) ([]) 0 false false 0 0 0 false (T_Tensor.mk 0 ([]) ([]) ([]) ([]))) ([x5])).bind λx6=>if x4.2=x6.2 then((ref05_Same fu x4.1 x6.1).bind λx7=>some x7)else some false
def law13_ReduceOrder.k2(fu:Nat)(x2:T_Tensor):Option Bool:=
  (ref05_Copy fu x2).bind λx9=>(reduce_Do fu 68 (T_Setting.mk 0 ([]) false false false false false ([]) false 0 0 0 false false false 0 0 false false 0 ([]) ([]) ([]) ([]) 0 false false 0 0 0 false (T_Tensor.mk 0 ([]) ([]) ([]) ([]))) ([T_Tensor.mk x9.fType ([wk .i64 ((wk .i64 ((x2.fF.length:Int)+(x2.fI.length:Int)))+(x2.fB.length:Int))]) x9.fF x9.fI x9.fB])).bind λx10=>(law13_turned fu (T_Tensor.mk x9.fType ([wk .i64 ((wk .i64 ((x2.fF.length:Int)+(x2.fI.length:Int)))+(x2.fB.length:Int))]) x9.fF x9.fI x9.fB)).bind λx11=>(reduce_Do fu 68 (T_Setting.mk 0 ([]) false false false false false ([]) false 0 0 0 false false false 0 0 false false 0 ([]) ([]) ([]) ([]) 0 false false 0 0 0 false (T_Tensor.mk 0 ([]) ([]) ([]) ([]))) ([x11])).bind λx12=>if x10.2=x12.2 then((ref05_Same fu x10.1 x12.1).bind λx13=>some x13)else some false
def law13_ReduceOrder.k3(fu:Nat)(x2:T_Tensor):Option Bool:=
  (ref05_Copy fu x2).bind λx15=>(reduce_Do fu 65 (T_Setting.mk 0 ([]) false false false false false ([]) false 0 0 0 false false false 0 0 false false 0 ([]) ([]) ([]) ([]) 0 false false 0 0 0 false (T_Tensor.mk 0 ([]) ([]) ([]) ([]))) ([T_Tensor.mk x15.fType ([wk .i64 ((wk .i64 ((x2.fF.length:Int)+(x2.fI.length:Int)))+(x2.fB.length:Int))]) x15.fF x15.fI x15.fB])).bind λx16=>(law13_turned fu (T_Tensor.mk x15.fType ([wk .i64 ((wk .i64 ((x2.fF.length:Int)+(x2.fI.length:Int)))+(x2.fB.length:Int))]) x15.fF x15.fI x15.fB)).bind λx17=>(reduce_Do fu 65 (T_Setting.mk 0 ([]) false false false false false ([]) false 0 0 0 false false false 0 0 false false 0 ([]) ([]) ([]) ([]) 0 false false 0 0 0 false (T_Tensor.mk 0 ([]) ([]) ([]) ([]))) ([x17])).bind λx18=>if x16.2=x18.2 then((ref05_Same fu x16.1 x18.1).bind λx19=>some x19)else some false
def law13_ReduceOrder.k4(fu:Nat)(x2:T_Tensor):Option Bool:=
  (ref05_Copy fu x2).bind λx21=>(reduce_Do fu 69 (T_Setting.mk 0 ([]) false false false false false ([]) false 0 0 0 false false false 0 0 false false 0 ([]) ([]) ([]) ([]) 0 false false 0 0 0 false (T_Tensor.mk 0 ([]) ([]) ([]) ([]))) ([T_Tensor.mk x21.fType ([wk .i64 ((wk .i64 ((x2.fF.length:Int)+(x2.fI.length:Int)))+(x2.fB.length:Int))]) x21.fF x21.fI x21.fB])).bind λx22=>(law13_turned fu (T_Tensor.mk x21.fType ([wk .i64 ((wk .i64 ((x2.fF.length:Int)+(x2.fI.length:Int)))+(x2.fB.length:Int))]) x21.fF x21.fI x21.fB)).bind λx23=>(reduce_Do fu 69 (T_Setting.mk 0 ([]) false false false false false ([]) false 0 0 0 false false false 0 0 false false 0 ([]) ([]) ([]) ([]) 0 false false 0 0 0 false (T_Tensor.mk 0 ([]) ([]) ([]) ([]))) ([x23])).bind λx24=>if x22.2=x24.2 then((ref05_Same fu x22.1 x24.1).bind λx25=>some x25)else some false
def law13_ReduceOrder(fu:Nat)(x1:Int)(x2:T_Tensor):Option Bool:=
  if band .i64 x1 3=0 then(jn 1 () (λ(t:Unit)=>law13_ReduceOrder.k1 fu x2)<|(ref05_Check fu x2).bind λx8=>if x8=0 then(if x2.fType=1 then(if 1<(band .i64 x1 3)then(some true)else law13_ReduceOrder.k1 fu x2)else law13_ReduceOrder.k1 fu x2)else some true)else if band .i64 x1 3=1 then(jn 2 () (λ(t:Unit)=>law13_ReduceOrder.k2 fu x2)<|(ref05_Check fu x2).bind λx14=>if x14=0 then(if x2.fType=1 then(if 1<(band .i64 x1 3)then(some true)else law13_ReduceOrder.k2 fu x2)else law13_ReduceOrder.k2 fu x2)else some true)else if band .i64 x1 3=2 then(jn 3 () (λ(t:Unit)=>law13_ReduceOrder.k3 fu x2)<|(ref05_Check fu x2).bind λx20=>if x20=0 then(if x2.fType=1 then(if 1<(band .i64 x1 3)then(some true)else law13_ReduceOrder.k3 fu x2)else law13_ReduceOrder.k3 fu x2)else some true)else if band .i64 x1 3=3 then(jn 4 () (λ(t:Unit)=>law13_ReduceOrder.k4 fu x2)<|(ref05_Check fu x2).bind λx26=>if x26=0 then(if x2.fType=1 then(if 1<(band .i64 x1 3)then(some true)else law13_ReduceOrder.k4 fu x2)else law13_ReduceOrder.k4 fu x2)else some true)else none
end Go.Av
