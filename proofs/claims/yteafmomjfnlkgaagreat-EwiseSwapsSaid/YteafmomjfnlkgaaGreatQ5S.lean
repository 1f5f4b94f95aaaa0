/- Plain functions, as the program has them; data of structs. Made by a program of mine. Conditions: none. -/
import Derived.Test.YteafmomjfnlkgaaGreatAu
set_option linter.unusedVariables false
namespace Go.Av
structure T_Tensor where
  fType:Int
  fDims:List Int
  fF:List Int
  fI:List Int
  fB:List Bool
def c_T_Tensor(x:T_Tensor):List AV:=[.v (.int .i64 x.fType),.arr x.fDims.length (lm (ik .i64) x.fDims),.arr x.fF.length (lm (ik .u32) x.fF),.arr x.fI.length (lm (ik .i64) x.fI),.arr x.fB.length (lm (bk) x.fB)]
theorem c_T_Tensor_len: ∀ x,(c_T_Tensor x).length=5:=λ_=>rfl
theorem c_T_Tensor_one: ∀ x,(c_T_Tensor x).all AV.one=true:=λ_=>rfl
structure T_Setting where
  fAxis:Int
  fAxes:List Int
  fHasAxes:Bool
  fKeep:Bool
  fNoop:Bool
  fLast:Bool
  fZero:Bool
  fPerm:List Int
  fHasPerm:Bool
  fAlpha:Int
  fBeta:Int
  fEpsilon:Int
  fLow:Bool
  fHigh:Bool
  fFmod:Bool
  fTo:Int
  fMode:Int
  fTransA:Bool
  fTransB:Bool
  fGroup:Int
  fKernel:List Int
  fStrides:List Int
  fPads:List Int
  fDilations:List Int
  fAuto:Int
  fCeil:Bool
  fCount:Bool
  fBlock:Int
  fStart:Int
  fEnd:Int
  fHasEnd:Bool
  fValue:T_Tensor
def c_T_Setting(x:T_Setting):List AV:=[.v (.int .i64 x.fAxis),.arr x.fAxes.length (lm (ik .i64) x.fAxes),.v (.bool x.fHasAxes),.v (.bool x.fKeep),.v (.bool x.fNoop),.v (.bool x.fLast),.v (.bool x.fZero),.arr x.fPerm.length (lm (ik .i64) x.fPerm),.v (.bool x.fHasPerm),.v (.int .u32 x.fAlpha),.v (.int .u32 x.fBeta),.v (.int .u32 x.fEpsilon),.v (.bool x.fLow),.v (.bool x.fHigh),.v (.bool x.fFmod),.v (.int .i64 x.fTo),.v (.int .i64 x.fMode),.v (.bool x.fTransA),.v (.bool x.fTransB),.v (.int .i64 x.fGroup),.arr x.fKernel.length (lm (ik .i64) x.fKernel),.arr x.fStrides.length (lm (ik .i64) x.fStrides),.arr x.fPads.length (lm (ik .i64) x.fPads),.arr x.fDilations.length (lm (ik .i64) x.fDilations),.v (.int .i64 x.fAuto),.v (.bool x.fCeil),.v (.bool x.fCount),.v (.int .i64 x.fBlock),.v (.int .i64 x.fStart),.v (.int .i64 x.fEnd),.v (.bool x.fHasEnd),.v (.int .i64 x.fValue.fType),.arr x.fValue.fDims.length (lm (ik .i64) x.fValue.fDims),.arr x.fValue.fF.length (lm (ik .u32) x.fValue.fF),.arr x.fValue.fI.length (lm (ik .i64) x.fValue.fI),.arr x.fValue.fB.length (lm (bk) x.fValue.fB)]
theorem c_T_Setting_len: ∀ x,(c_T_Setting x).length=36:=λ_=>rfl
theorem c_T_Setting_one: ∀ x,(c_T_Setting x).all AV.one=true:=λ_=>rfl
structure T_Val where
  fType:Int
  fDims:List Int
  fConst:Bool
  fT:T_Tensor
def c_T_Val(x:T_Val):List AV:=[.v (.int .i64 x.fType),.arr x.fDims.length (lm (ik .i64) x.fDims),.v (.bool x.fConst),.v (.int .i64 x.fT.fType),.arr x.fT.fDims.length (lm (ik .i64) x.fT.fDims),.arr x.fT.fF.length (lm (ik .u32) x.fT.fF),.arr x.fT.fI.length (lm (ik .i64) x.fT.fI),.arr x.fT.fB.length (lm (bk) x.fT.fB)]
theorem c_T_Val_len: ∀ x,(c_T_Val x).length=8:=λ_=>rfl
theorem c_T_Val_one: ∀ x,(c_T_Val x).all AV.one=true:=λ_=>rfl
structure T_infer_ask where
  fop:Int
  fs:T_Setting
  fin:List T_Val
  fouts:Int
def c_T_infer_ask(x:T_infer_ask):List AV:=[.v (.int .i64 x.fop),.v (.int .i64 x.fs.fAxis),.arr x.fs.fAxes.length (lm (ik .i64) x.fs.fAxes),.v (.bool x.fs.fHasAxes),.v (.bool x.fs.fKeep),.v (.bool x.fs.fNoop),.v (.bool x.fs.fLast),.v (.bool x.fs.fZero),.arr x.fs.fPerm.length (lm (ik .i64) x.fs.fPerm),.v (.bool x.fs.fHasPerm),.v (.int .u32 x.fs.fAlpha),.v (.int .u32 x.fs.fBeta),.v (.int .u32 x.fs.fEpsilon),.v (.bool x.fs.fLow),.v (.bool x.fs.fHigh),.v (.bool x.fs.fFmod),.v (.int .i64 x.fs.fTo),.v (.int .i64 x.fs.fMode),.v (.bool x.fs.fTransA),.v (.bool x.fs.fTransB),.v (.int .i64 x.fs.fGroup),.arr x.fs.fKernel.length (lm (ik .i64) x.fs.fKernel),.arr x.fs.fStrides.length (lm (ik .i64) x.fs.fStrides),.arr x.fs.fPads.length (lm (ik .i64) x.fs.fPads),.arr x.fs.fDilations.length (lm (ik .i64) x.fs.fDilations),.v (.int .i64 x.fs.fAuto),.v (.bool x.fs.fCeil),.v (.bool x.fs.fCount),.v (.int .i64 x.fs.fBlock),.v (.int .i64 x.fs.fStart),.v (.int .i64 x.fs.fEnd),.v (.bool x.fs.fHasEnd),.v (.int .i64 x.fs.fValue.fType),.arr x.fs.fValue.fDims.length (lm (ik .i64) x.fs.fValue.fDims),.arr x.fs.fValue.fF.length (lm (ik .u32) x.fs.fValue.fF),.arr x.fs.fValue.fI.length (lm (ik .i64) x.fs.fValue.fI),.arr x.fs.fValue.fB.length (lm (bk) x.fs.fValue.fB),.arr x.fin.length (fm c_T_Val x.fin),.v (.int .i64 x.fouts)]
theorem c_T_infer_ask_len: ∀ x,(c_T_infer_ask x).length=39:=λ_=>rfl
theorem c_T_infer_ask_one: ∀ x,(c_T_infer_ask x).all AV.one=true:=λ_=>rfl
structure T_ewise_work where
  fop:Int
  fs:T_Setting
  fin:List T_Tensor
  fout:T_Tensor
  fsize:Int
def c_T_ewise_work(x:T_ewise_work):List AV:=[.v (.int .i64 x.fop),.v (.int .i64 x.fs.fAxis),.arr x.fs.fAxes.length (lm (ik .i64) x.fs.fAxes),.v (.bool x.fs.fHasAxes),.v (.bool x.fs.fKeep),.v (.bool x.fs.fNoop),.v (.bool x.fs.fLast),.v (.bool x.fs.fZero),.arr x.fs.fPerm.length (lm (ik .i64) x.fs.fPerm),.v (.bool x.fs.fHasPerm),.v (.int .u32 x.fs.fAlpha),.v (.int .u32 x.fs.fBeta),.v (.int .u32 x.fs.fEpsilon),.v (.bool x.fs.fLow),.v (.bool x.fs.fHigh),.v (.bool x.fs.fFmod),.v (.int .i64 x.fs.fTo),.v (.int .i64 x.fs.fMode),.v (.bool x.fs.fTransA),.v (.bool x.fs.fTransB),.v (.int .i64 x.fs.fGroup),.arr x.fs.fKernel.length (lm (ik .i64) x.fs.fKernel),.arr x.fs.fStrides.length (lm (ik .i64) x.fs.fStrides),.arr x.fs.fPads.length (lm (ik .i64) x.fs.fPads),.arr x.fs.fDilations.length (lm (ik .i64) x.fs.fDilations),.v (.int .i64 x.fs.fAuto),.v (.bool x.fs.fCeil),.v (.bool x.fs.fCount),.v (.int .i64 x.fs.fBlock),.v (.int .i64 x.fs.fStart),.v (.int .i64 x.fs.fEnd),.v (.bool x.fs.fHasEnd),.v (.int .i64 x.fs.fValue.fType),.arr x.fs.fValue.fDims.length (lm (ik .i64) x.fs.fValue.fDims),.arr x.fs.fValue.fF.length (lm (ik .u32) x.fs.fValue.fF),.arr x.fs.fValue.fI.length (lm (ik .i64) x.fs.fValue.fI),.arr x.fs.fValue.fB.length (lm (bk) x.fs.fValue.fB),.arr x.fin.length (fm c_T_Tensor x.fin),.v (.int .i64 x.fout.fType),.arr x.fout.fDims.length (lm (ik .i64) x.fout.fDims),.arr x.fout.fF.length (lm (ik .u32) x.fout.fF),.arr x.fout.fI.length (lm (ik .i64) x.fout.fI),.arr x.fout.fB.length (lm (bk) x.fout.fB),.v (.int .i64 x.fsize)]
theorem c_T_ewise_work_len: ∀ x,(c_T_ewise_work x).length=44:=λ_=>rfl
theorem c_T_ewise_work_one: ∀ x,(c_T_ewise_work x).all AV.one=true:=λ_=>rfl
structure T_soft_number where
  fneg:Bool
  fnan:Bool
  finf:Bool
  fexp:Int
  fsig:Int
def c_T_soft_number(x:T_soft_number):List AV:=[.v (.bool x.fneg),.v (.bool x.fnan),.v (.bool x.finf),.v (.int .i64 x.fexp),.v (.int .u64 x.fsig)]
theorem c_T_soft_number_len: ∀ x,(c_T_soft_number x).length=5:=λ_=>rfl
theorem c_T_soft_number_one: ∀ x,(c_T_soft_number x).all AV.one=true:=λ_=>rfl
def ewise_Has(fu:Nat)(x1:Int):Option Bool:=
  if 1<=x1 then(some (decide (x1<=44)))else none
def tens_Width(fu:Nat)(x1:Int):Option Int:=
  if x1=1 then(some 4)else if x1=7 then(some 8)else if x1=9 then(some 1)else some 0
def tens_known(fu:Nat)(x1:Int):Option Bool:=
  (tens_Width fu x1).bind λx2=>some (decide (0<x2))
def slices_IndexFunc_int.L1(fu:Nat)(p1:Int→Option Bool)(x1:List Int)(nx1:Int→Option Int)(x4:Int):Option Int:=
  if x4<(x1.length:Int)then((at? x1 x4).bind λx7=>(p1 x7).bind λx8=>if x8=true then(some x4)else nx1 (wk .i64 (x4+1)))else some (-1)
def slices_IndexFunc_int.W1(fu:Nat)(p1:Int→Option Bool)(x1:List Int)(x4:Int):Option Int:=
  cloop (λnext s=>slices_IndexFunc_int.L1 fu p1 x1 next s) fu x4
def slices_IndexFunc_int(fu:Nat)(x1:List Int)(p1:Int→Option Bool):Option Int:=
  slices_IndexFunc_int.W1 fu p1 x1 0
def slices_ContainsFunc_int(fu:Nat)(x1:List Int)(p1:Int→Option Bool):Option Bool:=
  (slices_IndexFunc_int fu x1 p1).bind λx2=>some (decide (0<=x2))
def shape_Size_1(fu:Nat)(x1:Int):Option Bool:=
  some (decide (x1<0))
def shape_Size_2(fu:Nat)(x1:Int):Option Bool:=
  some (decide (4096<x1))
def slices_Index_int.L1(fu:Nat)(x1:List Int)(x2:Int)(nx1:Int→Option Int)(x4:Int):Option Int:=
  if x4<(x1.length:Int)then((at? x1 x4).bind λx6=>if x2=x6 then(some x4)else nx1 (wk .i64 (x4+1)))else some (-1)
def slices_Index_int.W1(fu:Nat)(x1:List Int)(x2:Int)(x4:Int):Option Int:=
  cloop (λnext s=>slices_Index_int.L1 fu x1 x2 next s) fu x4
def slices_Index_int(fu:Nat)(x1:List Int)(x2:Int):Option Int:=
  slices_Index_int.W1 fu x1 x2 0
def slices_Contains_int(fu:Nat)(x1:List Int)(x2:Int):Option Bool:=
  (slices_Index_int fu x1 x2).bind λx3=>some (decide (0<=x3))
def shape_Size.L1(fu:Nat)(x1:List Int)(nx1:Int→Int→Option (Int×Int))(x5:Int)(x6:Int):Option (Int×Int):=
  if x6<(x1.length:Int)then((at? x1 x6).bind λx8=>chk (x5≠0)<|if(wk .i64 (Int.tdiv 4096 x5))<x8 then(some (0,4))else nx1 (wk .i64 (x5*x8)) (wk .i64 (x6+1)))else some (x5,0)
def shape_Size.W1(fu:Nat)(x1:List Int)(x5:Int)(x6:Int):Option (Int×Int):=
  cloop (λnext s=>shape_Size.L1 fu x1 (λx5 x6=>next (x5,x6)) s.1 s.2) fu (x5,x6)
def shape_Size.k1(fu:Nat)(x1:List Int):Option (Int×Int):=
  (slices_Contains_int fu x1 0).bind λx3=>if x3=true then(some (0,0))else shape_Size.W1 fu x1 1 0
def shape_Size(fu:Nat)(x1:List Int):Option (Int×Int):=
  (slices_ContainsFunc_int fu x1 (λy0=>shape_Size_1 fu y0)).bind λx2=>if x2=true then(some (0,1))else jn 1 () (λ(t:Unit)=>shape_Size.k1 fu x1)<|if 8<(x1.length:Int)then(some (0,4))else(slices_ContainsFunc_int fu x1 (λy0=>shape_Size_2 fu y0)).bind λx9=>if x9=true then(some (0,4))else shape_Size.k1 fu x1
def tens_Check.k1(fu:Nat)(x1:T_Tensor)(x3:Int×Int)(x4:Int):Option Int:=
  if x4=x3.1 then(if(wk .i64 ((wk .i64 ((x1.fF.length:Int)+(x1.fI.length:Int)))+(x1.fB.length:Int)))=x3.1 then(some 0)else some 3)else some 3
def tens_Check(fu:Nat)(x1:T_Tensor):Option Int:=
  (tens_known fu x1.fType).bind λx2=>if x2=true then((shape_Size fu x1.fDims).bind λx3=>if x3.2=0 then(jn 1 () (λ(t:Int)=>tens_Check.k1 fu x1 x3 t)<|if x1.fType=7 then(tens_Check.k1 fu x1 x3 (x1.fI.length:Int))else if x1.fType=9 then(tens_Check.k1 fu x1 x3 (x1.fB.length:Int))else tens_Check.k1 fu x1 x3 (x1.fF.length:Int))else some x3.2)else some 5
def tens_own_int(fu:Nat)(x1:List Int):Option (List Int):=
  chk ((x1.length:Int)*8<=140737488355328)<|some x1
def tens_own_uint32(fu:Nat)(x1:List Int):Option (List Int):=
  chk ((x1.length:Int)*4<=140737488355328)<|some x1
def tens_own_int64(fu:Nat)(x1:List Int):Option (List Int):=
  chk ((x1.length:Int)*8<=140737488355328)<|some x1
def tens_own_bool(fu:Nat)(x1:List Bool):Option (List Bool):=
  chk ((x1.length:Int)*1<=140737488355328)<|some x1
def tens_Copy(fu:Nat)(x1:T_Tensor):Option T_Tensor:=
  (tens_own_int fu x1.fDims).bind λx2=>(tens_own_uint32 fu x1.fF).bind λx3=>(tens_own_int64 fu x1.fI).bind λx4=>(tens_own_bool fu x1.fB).bind λx5=>some (T_Tensor.mk x1.fType x2 x3 x4 x5)
def soft_Abs(fu:Nat)(x1:Int):Option Int:=
  some (bandn .u32 x1 2147483648)
def soft_NaN(fu:Nat)(x1:Int):Option Bool:=
  (soft_Abs fu x1).bind λx2=>some (decide (2139095040<x2))
def soft_Canon(fu:Nat)(x1:Int):Option Int:=
  (soft_NaN fu x1).bind λx2=>if x2=true then(some 2143289344)else some x1
def tens_Canon.L1(fu:Nat)(x2:T_Tensor)(nx1:(List Int)→Int→Option T_Tensor)(x5:List Int)(x6:Int):Option T_Tensor:=
  if x6<((x2.fF.length:Nat):Int)then((at? x5 x6).bind λx9=>(soft_Canon fu x9).bind λx10=>chk (0<=x6/\x6<(x5.length:Int))<|nx1 (x5.set x6.toNat x10) (wk .i64 (x6+1)))else some (T_Tensor.mk x2.fType x2.fDims x5 x2.fI x2.fB)
def tens_Canon.W1(fu:Nat)(x2:T_Tensor)(x5:List Int)(x6:Int):Option T_Tensor:=
  cloop (λnext s=>tens_Canon.L1 fu x2 (λx5 x6=>next (x5,x6)) s.1 s.2) fu (x5,x6)
def tens_Canon(fu:Nat)(x1:T_Tensor):Option T_Tensor:=
  (tens_Copy fu x1).bind λx2=>tens_Canon.W1 fu x2 x2.fF 0
def slices_Clone_int(fu:Nat)(x1:List Int):Option (List Int):=
  chk ((x1.length:Int)*8<=140737488355328)<|some x1
def ewise_Vals.L1(fu:Nat)(x1:List T_Tensor)(nx1:(List T_Val)→Int→Option (List T_Val))(x5:List T_Val)(x6:Int):Option (List T_Val):=
  if x6<(x1.length:Int)then((at? x1 x6).bind λx10=>if x10.fType=0 then(chk ((x5.length+1:Int)*144<=140737488355328)<|nx1 (x5++([T_Val.mk 0 ([]) false (T_Tensor.mk 0 ([]) ([]) ([]) ([]))])) (wk .i64 (x6+1)))else(slices_Clone_int fu x10.fDims).bind λx11=>(tens_Copy fu x10).bind λx12=>chk ((x5.length+1:Int)*144<=140737488355328)<|nx1 (x5++([T_Val.mk x10.fType x11 true x12])) (wk .i64 (x6+1)))else some x5
def ewise_Vals.W1(fu:Nat)(x1:List T_Tensor)(x5:List T_Val)(x6:Int):Option (List T_Val):=
  cloop (λnext s=>ewise_Vals.L1 fu x1 (λx5 x6=>next (x5,x6)) s.1 s.2) fu (x5,x6)
def ewise_Vals(fu:Nat)(x1:List T_Tensor):Option (List T_Val):=
  ewise_Vals.W1 fu x1 ([]:List T_Val) 0
def ops_Arity(fu:Nat)(x1:Int):Option (Int×Int×Int×Int):=
  spl (x1=23) (some (2,2,1,1))<|spl (x1=24) (some (2,2,1,1))<|spl (x1=25) (some (2,2,1,1))<|spl (x1=28) (some (2,2,1,1))<|spl (x1=30) (some (2,2,1,1))<|spl (x1=34) (some (2,2,1,1))<|spl (x1=35) (some (2,2,1,1))<|chk (x1=37)<|some (2,2,1,1)
def infer_ask_val(fu:Nat)(x1:T_infer_ask)(x2:Int):Option T_Val:=
  if x2<(x1.fin.length:Int)then((at? x1.fin x2).bind λx3=>some x3)else some (T_Val.mk 0 ([]) false (T_Tensor.mk 0 ([]) ([]) ([]) ([])))
def infer_ask_has(fu:Nat)(x1:T_infer_ask)(x2:Int):Option Bool:=
  (infer_ask_val fu x1 x2).bind λx3=>some (!(decide (x3.fType=0)))
def infer_ask_complete.L1(fu:Nat)(x1:T_infer_ask)(x2:Int×Int×Int×Int)(nx1:Int→Option Bool)(x4:Int):Option Bool:=
  if x4<x2.1 then((infer_ask_has fu x1 x4).bind λx6=>if x6=true then(nx1 (wk .i64 (x4+1)))else some false)else some true
def infer_ask_complete.W1(fu:Nat)(x1:T_infer_ask)(x2:Int×Int×Int×Int)(x4:Int):Option Bool:=
  cloop (λnext s=>infer_ask_complete.L1 fu x1 x2 next s) fu x4
def infer_ask_complete.k1(fu:Nat)(x1:T_infer_ask)(x2:Int×Int×Int×Int):Option Bool:=
  infer_ask_complete.W1 fu x1 x2 0
def infer_ask_complete(fu:Nat)(x1:T_infer_ask):Option Bool:=
  (ops_Arity fu x1.fop).bind λx2=>jn 1 () (λ(t:Unit)=>infer_ask_complete.k1 fu x1 x2)<|if x2.2.2.1=0 then(some false)else if x1.fop=61 then(none)else if(x1.fin.length:Int)<x2.1 then(some false)else if x2.2.1<(x1.fin.length:Int)then(some false)else if x1.fouts<x2.2.2.1 then(some false)else if x2.2.2.2<x1.fouts then(some false)else infer_ask_complete.k1 fu x1 x2
def infer_sorts.k5(fu:Nat)(x1:Int):Option ByteArray:=
  if x1=51 then(none)else if x1=52 then(none)else if x1=53 then(none)else if x1=62 then(none)else if x1=65 then(none)else some (⟨#[102]⟩:ByteArray)
def infer_sorts.k4(fu:Nat)(x1:Int):Option ByteArray:=
  if x1=64 then(none)else jn 5 x1 (λ(t:Unit)=>infer_sorts.k5 fu x1)<|if x1=46 then(none)else if x1=48 then(none)else if x1=49 then(none)else if x1=54 then(none)else if x1=55 then(none)else if x1=56 then(none)else if x1=57 then(none)else if x1=50 then(none)else infer_sorts.k5 fu x1
def infer_sorts.k3(fu:Nat)(x1:Int)(x3:Bool):Option ByteArray:=
  if x3=true then(some (⟨#[110,61]⟩:ByteArray))else if x1=37 then(some (⟨#[97,61]⟩:ByteArray))else if x1=47 then(none)else if x1=42 then(none)else jn 4 x1 (λ(t:Unit)=>infer_sorts.k4 fu x1)<|if x1=21 then(none)else if x1=44 then(none)else if x1=45 then(none)else if x1=58 then(none)else if x1=59 then(none)else if x1=60 then(none)else if x1=63 then(none)else infer_sorts.k4 fu x1
def infer_sorts.k2(fu:Nat)(x1:Int)(x2:Bool):Option ByteArray:=
  if x2=true then(some (⟨#[98]⟩:ByteArray))else jn 3 () (λ(t:Bool)=>infer_sorts.k3 fu x1 t)<|if x1=28 then(infer_sorts.k3 fu x1 true)else if x1=29 then(none)else if x1=30 then(infer_sorts.k3 fu x1 true)else if x1=31 then(none)else if x1=32 then(none)else if x1=34 then(infer_sorts.k3 fu x1 true)else if x1=35 then(infer_sorts.k3 fu x1 true)else if x1=38 then(none)else if x1=39 then(none)else if x1=40 then(none)else if x1=41 then(none)else infer_sorts.k3 fu x1 (decide (x1=43))
def infer_sorts.k1(fu:Nat)(x1:Int):Option ByteArray:=
  if x1=71 then(none)else jn 2 () (λ(t:Bool)=>infer_sorts.k2 fu x1 t)<|if x1=22 then(none)else if x1=23 then(infer_sorts.k2 fu x1 true)else if x1=24 then(infer_sorts.k2 fu x1 true)else infer_sorts.k2 fu x1 (decide (x1=25))
def infer_sorts(fu:Nat)(x1:Int):Option ByteArray:=
  jn 1 x1 (λ(t:Unit)=>infer_sorts.k1 fu x1)<|if x1=1 then(none)else if x1=2 then(none)else if x1=3 then(none)else if x1=67 then(none)else if x1=68 then(none)else if x1=69 then(none)else if x1=70 then(none)else infer_sorts.k1 fu x1
def infer_ask_fits.k1(fu:Nat)(x5:Bool):Option Bool:=
  some x5
def infer_ask_fits(fu:Nat)(x1:T_infer_ask)(x2:Int)(x3:Int):Option Bool:=
  (infer_ask_val fu x1 x2).bind λx4=>if x3=110 then(jn 1 () (λ(t:Bool)=>infer_ask_fits.k1 fu t)<|if x4.fType=1 then(infer_ask_fits.k1 fu true)else infer_ask_fits.k1 fu (decide (x4.fType=7)))else if x3=102 then(some (decide (x4.fType=1)))else if x3=98 then(some (decide (x4.fType=9)))else if x3=105 then(some (decide (x4.fType=7)))else if x3=61 then((infer_ask_val fu x1 0).bind λx6=>some (decide (x4.fType=x6.fType)))else if x3=43 then((infer_ask_val fu x1 (wk .i64 (x2 - 1))).bind λx7=>some (decide (x4.fType=x7.fType)))else(tens_Width fu x4.fType).bind λx8=>some (decide (0<x8))
def infer_ask_typed.k1(fu:Nat)(x1:T_infer_ask):Option Bool:=
  if x1.fop=52 then(none)else some true
def infer_ask_typed.L1(fu:Nat)(x1:T_infer_ask)(x2:ByteArray)(nx1:Int→Option Bool)(x8:Int):Option Bool:=
  if x8<(x1.fin.length:Int)then((infer_ask_has fu x1 x8).bind λx14=>if x14=true then((infer_ask_val fu x1 x8).bind λx15=>(tens_Width fu x15.fType).bind λx16=>if x16=0 then(some false)else(sat? x2 (imin x8 (wk .i64 ((x2.size:Int) - 1)))).bind λx17=>(infer_ask_fits fu x1 x8 x17).bind λx18=>if x18=true then(nx1 (wk .i64 (x8+1)))else some false)else nx1 (wk .i64 (x8+1)))else infer_ask_typed.k1 fu x1
def infer_ask_typed.W1(fu:Nat)(x1:T_infer_ask)(x2:ByteArray)(x8:Int):Option Bool:=
  cloop (λnext s=>infer_ask_typed.L1 fu x1 x2 next s) fu x8
def infer_ask_typed(fu:Nat)(x1:T_infer_ask):Option Bool:=
  (infer_sorts fu x1.fop).bind λx2=>jn 1 () (λ(t:Unit)=>infer_ask_typed.k1 fu x1)<|infer_ask_typed.W1 fu x1 x2 0
def infer_ask_dims(fu:Nat)(x1:T_infer_ask)(x2:Int):Option (List Int):=
  (infer_ask_val fu x1 x2).bind λx3=>some x3.fDims
def infer_ask_rank(fu:Nat)(x1:T_infer_ask):Option Int:=
  (infer_ask_dims fu x1 0).bind λx2=>some (x2.length:Int)
def infer_ask_attributes.k2(fu:Nat)(x1:T_infer_ask):Option Bool:=
  if x1.fop=69 then(none)else if x1.fop=75 then(none)else if x1.fop=76 then(none)else if x1.fop=77 then(none)else some true
def infer_ask_attributes.k1(fu:Nat)(x1:T_infer_ask):Option Bool:=
  if x1.fop=80 then(none)else if x1.fop=58 then(none)else jn 2 x1 (λ(t:Unit)=>infer_ask_attributes.k2 fu x1)<|if x1.fop=66 then(none)else if x1.fop=67 then(none)else if x1.fop=68 then(none)else infer_ask_attributes.k2 fu x1
def infer_ask_attributes(fu:Nat)(x1:T_infer_ask):Option Bool:=
  (infer_ask_rank fu x1).bind λx2=>if x1.fop=32 then(none)else if x1.fop=44 then(none)else if x1.fop=62 then(none)else if x1.fop=63 then(none)else if x1.fop=64 then(none)else if x1.fop=45 then(none)else jn 1 x1 (λ(t:Unit)=>infer_ask_attributes.k1 fu x1)<|if x1.fop=47 then(none)else if x1.fop=48 then(none)else if x1.fop=50 then(none)else if x1.fop=51 then(none)else if x1.fop=52 then(none)else if x1.fop=70 then(none)else if x1.fop=71 then(none)else if x1.fop=72 then(none)else infer_ask_attributes.k1 fu x1
def infer_ask_lists.k1(fu:Nat)(x1:T_infer_ask):Option (List T_Val):=
  if x1.fop=65 then(none)else some ([])
def infer_ask_lists(fu:Nat)(x1:T_infer_ask):Option (List T_Val):=
  if x1.fop=62 then(none)else if x1.fop=49 then(none)else jn 1 x1 (λ(t:Unit)=>infer_ask_lists.k1 fu x1)<|if x1.fop=46 then(none)else if x1.fop=48 then(none)else if x1.fop=53 then(none)else if x1.fop=54 then(none)else if x1.fop=55 then(none)else if x1.fop=56 then(none)else if x1.fop=57 then(none)else infer_ask_lists.k1 fu x1
def slices_IndexFunc_api_Val_api_Val.L1(fu:Nat)(p1:T_Val→Option Bool)(x1:List T_Val)(nx1:Int→Option Int)(x4:Int):Option Int:=
  if x4<(x1.length:Int)then((at? x1 x4).bind λx7=>(p1 x7).bind λx8=>if x8=true then(some x4)else nx1 (wk .i64 (x4+1)))else some (-1)
def slices_IndexFunc_api_Val_api_Val.W1(fu:Nat)(p1:T_Val→Option Bool)(x1:List T_Val)(x4:Int):Option Int:=
  cloop (λnext s=>slices_IndexFunc_api_Val_api_Val.L1 fu p1 x1 next s) fu x4
def slices_IndexFunc_api_Val_api_Val(fu:Nat)(x1:List T_Val)(p1:T_Val→Option Bool):Option Int:=
  slices_IndexFunc_api_Val_api_Val.W1 fu p1 x1 0
def slices_ContainsFunc_api_Val_api_Val(fu:Nat)(x1:List T_Val)(p1:T_Val→Option Bool):Option Bool:=
  (slices_IndexFunc_api_Val_api_Val fu x1 p1).bind λx2=>some (decide (0<=x2))
def slices_Equal_int.L1(fu:Nat)(x1:List Int)(x2:List Int)(nx1:Int→Option Bool)(x5:Int):Option Bool:=
  if x5<(x1.length:Int)then((at? x1 x5).bind λx8=>(at? x2 x5).bind λx9=>if x8=x9 then(nx1 (wk .i64 (x5+1)))else some false)else some true
def slices_Equal_int.W1(fu:Nat)(x1:List Int)(x2:List Int)(x5:Int):Option Bool:=
  cloop (λnext s=>slices_Equal_int.L1 fu x1 x2 next s) fu x5
def slices_Equal_int(fu:Nat)(x1:List Int)(x2:List Int):Option Bool:=
  if(x1.length:Int)=(x2.length:Int)then(slices_Equal_int.W1 fu x1 x2 0)else some false
def infer_held(fu:Nat)(x1:T_Val):Option Bool:=
  if x1.fConst=true then((tens_Check fu x1.fT).bind λx2=>if x2=0 then(if x1.fT.fType=x1.fType then((slices_Equal_int fu x1.fT.fDims x1.fDims).bind λx3=>some x3)else some false)else some false)else some false
def infer_ask_told_1(fu:Nat)(x1:T_Val):Option Bool:=
  (infer_held fu x1).bind λx2=>some (!x2)
def infer_ask_told_2(fu:Nat)(x1:T_Val):Option Bool:=
  some (!(decide ((x1.fDims.length:Int)=1)))
def slices_IndexFunc_int64.L1(fu:Nat)(p1:Int→Option Bool)(x1:List Int)(nx1:Int→Option Int)(x4:Int):Option Int:=
  if x4<(x1.length:Int)then((at? x1 x4).bind λx7=>(p1 x7).bind λx8=>if x8=true then(some x4)else nx1 (wk .i64 (x4+1)))else some (-1)
def slices_IndexFunc_int64.W1(fu:Nat)(p1:Int→Option Bool)(x1:List Int)(x4:Int):Option Int:=
  cloop (λnext s=>slices_IndexFunc_int64.L1 fu p1 x1 next s) fu x4
def slices_IndexFunc_int64(fu:Nat)(x1:List Int)(p1:Int→Option Bool):Option Int:=
  slices_IndexFunc_int64.W1 fu p1 x1 0
def slices_ContainsFunc_int64(fu:Nat)(x1:List Int)(p1:Int→Option Bool):Option Bool:=
  (slices_IndexFunc_int64 fu x1 p1).bind λx2=>some (decide (0<=x2))
def infer_ask_told_3_1(fu:Nat)(x1:Int):Option Bool:=
  some (decide (4096<x1))
def infer_ask_told_3(fu:Nat)(x1:T_Val):Option Bool:=
  (slices_ContainsFunc_int64 fu x1.fT.fI (λy0=>infer_ask_told_3_1 fu y0)).bind λx2=>some x2
def infer_ask_told(fu:Nat)(x1:T_infer_ask):Option Int:=
  (infer_ask_lists fu x1).bind λx2=>(slices_ContainsFunc_api_Val_api_Val fu x2 (λy0=>infer_ask_told_1 fu y0)).bind λx3=>if x3=true then(some 15)else(slices_ContainsFunc_api_Val_api_Val fu x2 (λy0=>infer_ask_told_2 fu y0)).bind λx4=>if x4=true then(some 3)else if x1.fop=49 then(none)else(slices_ContainsFunc_api_Val_api_Val fu x2 (λy0=>infer_ask_told_3 fu y0)).bind λx5=>if x5=true then(some 4)else some 0
def infer_ask_wrong.k1(fu:Nat)(x1:T_infer_ask):Option Int:=
  (infer_ask_typed fu x1).bind λx2=>if x2=true then((infer_ask_attributes fu x1).bind λx3=>if x3=true then((infer_ask_told fu x1).bind λx4=>some x4)else some 14)else some 5
def infer_ask_wrong.L1(fu:Nat)(x1:T_infer_ask)(nx1:Int→Option Int)(x8:Int):Option Int:=
  if x8<(x1.fin.length:Int)then((at? x1.fin x8).bind λx12=>(shape_Size fu x12.fDims).bind λx13=>(infer_ask_has fu x1 x8).bind λx14=>if x14=true then(if x13.2=0 then(nx1 (wk .i64 (x8+1)))else some 4)else nx1 (wk .i64 (x8+1)))else infer_ask_wrong.k1 fu x1
def infer_ask_wrong.W1(fu:Nat)(x1:T_infer_ask)(x8:Int):Option Int:=
  cloop (λnext s=>infer_ask_wrong.L1 fu x1 next s) fu x8
def infer_ask_wrong(fu:Nat)(x1:T_infer_ask):Option Int:=
  jn 1 () (λ(t:Unit)=>infer_ask_wrong.k1 fu x1)<|infer_ask_wrong.W1 fu x1 0
def shape_Broadcast.k3(fu:Nat)(x7:List Int):Option ((List Int)×Int):=
  (shape_Size fu x7).bind λx8=>if x8.2=0 then(some (x7,0))else some ([],x8.2)
def shape_Broadcast.L1(fu:Nat)(x4:List Int)(x5:List Int)(nx1:(List Int)→Int→Option ((List Int)×Int))(x11:List Int)(x12:Int):Option ((List Int)×Int):=
  if x12<(x5.length:Int)then((at? x5 x12).bind λx15=>(at? x11 (wk .i64 ((wk .i64 ((x4.length:Int) - (x5.length:Int)))+x12))).bind λx16=>if x16=1 then(chk (0<=wk .i64 ((wk .i64 ((x4.length:Int) - (x5.length:Int)))+x12)/\wk .i64 ((wk .i64 ((x4.length:Int) - (x5.length:Int)))+x12)<(x11.length:Int))<|nx1 (x11.set (wk .i64 ((wk .i64 ((x4.length:Int) - (x5.length:Int)))+x12)).toNat x15) (wk .i64 (x12+1)))else if x15=1 then(nx1 x11 (wk .i64 (x12+1)))else if x15=x16 then(nx1 x11 (wk .i64 (x12+1)))else some ([],3))else shape_Broadcast.k3 fu x11
def shape_Broadcast.W1(fu:Nat)(x4:List Int)(x5:List Int)(x11:List Int)(x12:Int):Option ((List Int)×Int):=
  cloop (λnext s=>shape_Broadcast.L1 fu x4 x5 (λx11 x12=>next (x11,x12)) s.1 s.2) fu (x11,x12)
def shape_Broadcast.k2(fu:Nat)(x4:List Int)(x5:List Int):Option ((List Int)×Int):=
  (slices_Clone_int fu x4).bind λx6=>jn 3 () (λ(t:List Int)=>shape_Broadcast.k3 fu t)<|shape_Broadcast.W1 fu x4 x5 x6 0
def shape_Broadcast.k1(fu:Nat)(x1:List Int)(x2:List Int)(x3:List (List Int)):Option ((List Int)×Int):=
  jn 2 () (λ(t:(List Int)×(List Int))=>shape_Broadcast.k2 fu t.1 t.2)<|if(x1.length:Int)<(x2.length:Int)then(shape_Broadcast.k2 fu x2 x1)else shape_Broadcast.k2 fu x1 x2
def shape_Broadcast.L2(fu:Nat)(x1:List Int)(x2:List Int)(nx2:(List (List Int))→Int→Option ((List Int)×Int))(x19:List (List Int))(x20:Int):Option ((List Int)×Int):=
  if x20<2 then((at? x19 x20).bind λx23=>(shape_Size fu x23).bind λx24=>if x24.2=0 then(nx2 x19 (wk .i64 (x20+1)))else some ([],x24.2))else shape_Broadcast.k1 fu x1 x2 x19
def shape_Broadcast.W2(fu:Nat)(x1:List Int)(x2:List Int)(x19:List (List Int))(x20:Int):Option ((List Int)×Int):=
  cloop (λnext s=>shape_Broadcast.L2 fu x1 x2 (λx19 x20=>next (x19,x20)) s.1 s.2) fu (x19,x20)
def shape_Broadcast(fu:Nat)(x1:List Int)(x2:List Int):Option ((List Int)×Int):=
  jn 1 () (λ(t:List (List Int))=>shape_Broadcast.k1 fu x1 x2 t)<|shape_Broadcast.W2 fu x1 x2 ([x1,x2]) 0
def infer_one(fu:Nat)(x1:List Int):Option ((List (List Int))×Int):=
  some ([x1],0)
def infer_ask_together.k1(fu:Nat)(x3:List Int):Option ((List (List Int))×Int):=
  (infer_one fu x3).bind λx4=>some (x4.1,x4.2)
def infer_ask_together.L1(fu:Nat)(x1:T_infer_ask)(nx1:(List Int)→Int→Option ((List (List Int))×Int))(x7:List Int)(x8:Int):Option ((List (List Int))×Int):=
  if x8<(x1.fin.length:Int)then((infer_ask_dims fu x1 x8).bind λx11=>(shape_Broadcast fu x7 x11).bind λx12=>if x12.2=0 then(nx1 x12.1 (wk .i64 (x8+1)))else some ([],x12.2))else infer_ask_together.k1 fu x7
def infer_ask_together.W1(fu:Nat)(x1:T_infer_ask)(x7:List Int)(x8:Int):Option ((List (List Int))×Int):=
  cloop (λnext s=>infer_ask_together.L1 fu x1 (λx7 x8=>next (x7,x8)) s.1 s.2) fu (x7,x8)
def infer_ask_together(fu:Nat)(x1:T_infer_ask):Option ((List (List Int))×Int):=
  (infer_ask_dims fu x1 0).bind λx2=>jn 1 () (λ(t:List Int)=>infer_ask_together.k1 fu t)<|infer_ask_together.W1 fu x1 x2 1
def infer_ask_shapes.k1(fu:Nat)(x1:T_infer_ask):Option ((List (List Int))×Int):=
  (infer_ask_together fu x1).bind λx3=>some (x3.1,x3.2)
def infer_ask_shapes(fu:Nat)(x1:T_infer_ask):Option ((List (List Int))×Int):=
  (infer_ask_dims fu x1 0).bind λx2=>jn 1 () (λ(t:Unit)=>infer_ask_shapes.k1 fu x1)<|if x1.fop=23 then(infer_ask_shapes.k1 fu x1)else if x1.fop=24 then(infer_ask_shapes.k1 fu x1)else if x1.fop=25 then(infer_ask_shapes.k1 fu x1)else if x1.fop=28 then(infer_ask_shapes.k1 fu x1)else if x1.fop=29 then(none)else if x1.fop=30 then(infer_ask_shapes.k1 fu x1)else if x1.fop=31 then(none)else if x1.fop=32 then(none)else if x1.fop=33 then(none)else if x1.fop=34 then(infer_ask_shapes.k1 fu x1)else if x1.fop=35 then(infer_ask_shapes.k1 fu x1)else if x1.fop=37 then(infer_ask_shapes.k1 fu x1)else none
def infer_ask_out.k1(fu:Nat)(x1:T_infer_ask):Option Int:=
  (infer_ask_val fu x1 0).bind λx2=>some x2.fType
def infer_ask_out.k3(fu:Nat)(x1:T_infer_ask):Option Int:=
  if x1.fop=71 then(none)else if x1.fop=44 then(none)else if x1.fop=62 then(none)else if x1.fop=42 then(none)else infer_ask_out.k1 fu x1
def infer_ask_out.k2(fu:Nat)(x1:T_infer_ask)(x3:Bool):Option Int:=
  if x3=true then(some 9)else jn 3 x1 (λ(t:Unit)=>infer_ask_out.k3 fu x1)<|if x1.fop=59 then(none)else if x1.fop=60 then(none)else if x1.fop=70 then(none)else infer_ask_out.k3 fu x1
def infer_ask_out(fu:Nat)(x1:T_infer_ask):Option Int:=
  jn 1 () (λ(t:Unit)=>infer_ask_out.k1 fu x1)<|jn 2 () (λ(t:Bool)=>infer_ask_out.k2 fu x1 t)<|if x1.fop=22 then(none)else if x1.fop=23 then(infer_ask_out.k2 fu x1 true)else if x1.fop=24 then(infer_ask_out.k2 fu x1 true)else if x1.fop=25 then(infer_ask_out.k2 fu x1 true)else if x1.fop=26 then(none)else if x1.fop=27 then(none)else if x1.fop=37 then(infer_ask_out.k2 fu x1 true)else if x1.fop=38 then(none)else if x1.fop=39 then(none)else if x1.fop=40 then(none)else infer_ask_out.k2 fu x1 (decide (x1.fop=41))
def infer_Node.L1(fu:Nat)(x1:Int)(x2:T_Setting)(x3:List T_Val)(x4:Int)(x7:(List (List Int))×Int)(nx1:(List T_Val)→Int→Option ((List T_Val)×Int))(x12:List T_Val)(x13:Int):Option ((List T_Val)×Int):=
  if x13<(x7.1.length:Int)then((at? x7.1 x13).bind λx18=>(shape_Size fu x18).bind λx19=>if x19.2=0 then((infer_ask_out fu (T_infer_ask.mk x1 x2 x3 x4)).bind λx20=>(slices_Clone_int fu x18).bind λx21=>chk ((x12.length+1:Int)*144<=140737488355328)<|nx1 (x12++([T_Val.mk x20 x21 false (T_Tensor.mk 0 ([]) ([]) ([]) ([]))])) (wk .i64 (x13+1)))else some ([],4))else some (x12,0)
def infer_Node.W1(fu:Nat)(x1:Int)(x2:T_Setting)(x3:List T_Val)(x4:Int)(x7:(List (List Int))×Int)(x12:List T_Val)(x13:Int):Option ((List T_Val)×Int):=
  cloop (λnext s=>infer_Node.L1 fu x1 x2 x3 x4 x7 (λx12 x13=>next (x12,x13)) s.1 s.2) fu (x12,x13)
def infer_Node(fu:Nat)(x1:Int)(x2:T_Setting)(x3:List T_Val)(x4:Int):Option ((List T_Val)×Int):=
  (infer_ask_complete fu (T_infer_ask.mk x1 x2 x3 x4)).bind λx5=>if x5=true then((infer_ask_wrong fu (T_infer_ask.mk x1 x2 x3 x4)).bind λx6=>if x6=0 then((infer_ask_shapes fu (T_infer_ask.mk x1 x2 x3 x4)).bind λx7=>if x7.2=0 then(infer_Node.W1 fu x1 x2 x3 x4 x7 ([]:List T_Val) 0)else some ([],x7.2))else some ([],x6))else some ([],1)
def tens_New(fu:Nat)(x1:Int)(x2:List Int):Option (T_Tensor×Int):=
  (tens_known fu x1).bind λx3=>if x3=true then((shape_Size fu x2).bind λx4=>if x4.2=0 then((slices_Clone_int fu x2).bind λx5=>if x1=1 then(chk (0<=x4.1/\x4.1*4<=140737488355328)<|some (T_Tensor.mk x1 x5 (List.replicate x4.1.toNat (0:Int)) ([]) ([]),0))else if x1=7 then(chk (0<=x4.1/\x4.1*8<=140737488355328)<|some (T_Tensor.mk x1 x5 ([]) (List.replicate x4.1.toNat (0:Int)) ([]),0))else chk (0<=x4.1/\x4.1*1<=140737488355328)<|some (T_Tensor.mk x1 x5 ([]) ([]) (List.replicate x4.1.toNat (false:Bool)),0))else some (T_Tensor.mk 0 ([]) ([]) ([]) ([]),x4.2))else some (T_Tensor.mk 0 ([]) ([]) ([]) ([]),5)
def ewise_work_divides(fu:Nat)(x1:T_ewise_work):Option Bool:=
  if x1.fop=31 then(none)else if x1.fop=32 then(none)else some false
def shape_strides.L1(fu:Nat)(x1:List Int)(nx1:(List Int)→Int→Int→Option (List Int))(x3:List Int)(x4:Int)(x5:Int):Option (List Int):=
  if 0<=x5 then(chk (0<=x5/\x5<(x3.length:Int))<|(at? x1 x5).bind λx7=>nx1 (x3.set x5.toNat x4) (wk .i64 (x4*x7)) (wk .i64 (x5 - 1)))else some x3
def shape_strides.W1(fu:Nat)(x1:List Int)(x3:List Int)(x4:Int)(x5:Int):Option (List Int):=
  cloop (λnext s=>shape_strides.L1 fu x1 (λx3 x4 x5=>next (x3,x4,x5)) s.1 s.2.1 s.2.2) fu (x3,x4,x5)
def shape_strides(fu:Nat)(x1:List Int):Option (List Int):=
  chk (0<=(x1.length:Int)/\(x1.length:Int)*8<=140737488355328)<|shape_strides.W1 fu x1 (List.replicate (x1.length:Int).toNat (0:Int)) 1 (wk .i64 ((x1.length:Int) - 1))
def shape_Index.L1(fu:Nat)(x4:List Int)(nx1:(List Int)→Int→Int→Option ((List Int)×Int))(x6:List Int)(x7:Int)(x8:Int):Option ((List Int)×Int):=
  if x8<(x4.length:Int)then((at? x4 x8).bind λx10=>chk (x10≠0)<|chk (0<=x8/\x8<(x6.length:Int))<|nx1 (x6.set x8.toNat (wk .i64 (Int.tdiv x7 x10))) (Int.tmod x7 x10) (wk .i64 (x8+1)))else some (x6,0)
def shape_Index.W1(fu:Nat)(x4:List Int)(x6:List Int)(x7:Int)(x8:Int):Option ((List Int)×Int):=
  cloop (λnext s=>shape_Index.L1 fu x4 (λx6 x7 x8=>next (x6,x7,x8)) s.1 s.2.1 s.2.2) fu (x6,x7,x8)
def shape_Index.k1(fu:Nat)(x1:List Int)(x2:Int):Option ((List Int)×Int):=
  chk (0<=(x1.length:Int)/\(x1.length:Int)*8<=140737488355328)<|(shape_strides fu x1).bind λx4=>shape_Index.W1 fu x4 (List.replicate (x1.length:Int).toNat (0:Int)) x2 0
def shape_Index(fu:Nat)(x1:List Int)(x2:Int):Option ((List Int)×Int):=
  (shape_Size fu x1).bind λx3=>if x3.2=0 then(jn 1 () (λ(t:Unit)=>shape_Index.k1 fu x1 x2)<|if x2<0 then(some ([],2))else if x3.1<=x2 then(some ([],2))else shape_Index.k1 fu x1 x2)else some ([],x3.2)
def shape_From.L1(fu:Nat)(x1:List Int)(x2:List Int)(x7:(List Int)×Int)(x8:List Int)(nx1:Int→Int→Option (Int×Int))(x12:Int)(x13:Int):Option (Int×Int):=
  if x13<(x8.length:Int)then((at? x8 x13).bind λx17=>(at? x1 x13).bind λx18=>if x18=1 then(nx1 x12 (wk .i64 (x13+1)))else(at? (subN x7.1 (wk .i64 ((x2.length:Int) - (x1.length:Int))).toNat x7.1.length) x13).bind λx19=>nx1 (wk .i64 (x12+(wk .i64 (x19*x17)))) (wk .i64 (x13+1)))else some (x12,0)
def shape_From.W1(fu:Nat)(x1:List Int)(x2:List Int)(x7:(List Int)×Int)(x8:List Int)(x12:Int)(x13:Int):Option (Int×Int):=
  cloop (λnext s=>shape_From.L1 fu x1 x2 x7 x8 (λx12 x13=>next (x12,x13)) s.1 s.2) fu (x12,x13)
def shape_From.k1(fu:Nat)(x1:List Int)(x2:List Int)(x3:Int):Option (Int×Int):=
  (shape_Index fu x2 x3).bind λx7=>if x7.2=0 then(chk (0<=wk .i64 ((x2.length:Int) - (x1.length:Int))/\wk .i64 ((x2.length:Int) - (x1.length:Int))<=(x7.1.length:Int))<|(shape_strides fu x1).bind λx8=>shape_From.W1 fu x1 x2 x7 x8 0 0)else some (0,x7.2)
def shape_From(fu:Nat)(x1:List Int)(x2:List Int)(x3:Int):Option (Int×Int):=
  (shape_Size fu x1).bind λx4=>if x4.2=0 then((shape_Size fu x2).bind λx5=>if x5.2=0 then((shape_Broadcast fu x1 x2).bind λx6=>jn 1 () (λ(t:Unit)=>shape_From.k1 fu x1 x2 x3)<|if x6.2=0 then((slices_Equal_int fu x6.1 x2).bind λx20=>if x20=true then(shape_From.k1 fu x1 x2 x3)else some (0,3))else some (0,3))else some (0,x5.2))else some (0,x4.2)
def ewise_work_place(fu:Nat)(x1:T_ewise_work)(x2:Int)(x3:Int):Option Int:=
  (at? x1.fin x2).bind λx4=>(shape_From fu x4.fDims x1.fout.fDims x3).bind λx5=>some x5.1
def ewise_intOf_9(fu:Nat)(x1:Int)(x2:Int):Option Int:=
  some x1
def ewise_kernelOf_3(fu:Nat)(x1:Bool)(x2:Bool):Option Bool:=
  if x1=true then(some x2)else some false
def ewise_kernelOf_4(fu:Nat)(x1:Bool)(x2:Bool):Option Bool:=
  if x1=true then(some true)else some x2
def ewise_kernelOf_5(fu:Nat)(x1:Bool)(x2:Bool):Option Bool:=
  some (!(x1==x2))
def soft_open(fu:Nat)(x1:Int):Option T_soft_number:=
  if(wk .i64 (band .u32 (shrk .u32 x1 23) 255))=255 then(some (T_soft_number.mk (decide ((shrk .u32 x1 31)=1)) (!(decide ((wk .u64 (band .u32 x1 8388607))=0))) (decide ((wk .u64 (band .u32 x1 8388607))=0)) 0 0))else if(wk .i64 (band .u32 (shrk .u32 x1 23) 255))=0 then(some (T_soft_number.mk (decide ((shrk .u32 x1 31)=1)) false false (-149) (wk .u64 (band .u32 x1 8388607))))else some (T_soft_number.mk (decide ((shrk .u32 x1 31)=1)) false false (wk .i64 ((wk .i64 (band .u32 (shrk .u32 x1 23) 255)) - 150)) (bor .u64 (wk .u64 (band .u32 x1 8388607)) 8388608))
def soft_sign(fu:Nat)(x1:Bool):Option Int:=
  if x1=true then(some 2147483648)else some 0
def soft_nought(fu:Nat)(x1:Int):Option Int:=
  chk (x1=0)<|(soft_sign fu (decide ((0:Int)=2))).bind λx2=>some x2
def math_bits_Len64.k2(fu:Nat)(x4:Int)(x5:Int):Option Int:=
  if 256<=x4 then((sat? (⟨((([0,1,2,2,3,3,3,3,4,4,4,4,4,4,4,4,5,5,5,5,5,5,5,5,5,5,5,5,5,5,5,5,6,6,6,6,6,6,6,6,6,6,6,6,6,6,6,6,6,6,6,6,6,6,6,6,6,6,6,6,6,6,6,6]).append ([7,7,7,7,7,7,7,7,7,7,7,7,7,7,7,7,7,7,7,7,7,7,7,7,7,7,7,7,7,7,7,7,7,7,7,7,7,7,7,7,7,7,7,7,7,7,7,7,7,7,7,7,7,7,7,7,7,7,7,7,7,7,7,7])).append (([8,8,8,8,8,8,8,8,8,8,8,8,8,8,8,8,8,8,8,8,8,8,8,8,8,8,8,8,8,8,8,8,8,8,8,8,8,8,8,8,8,8,8,8,8,8,8,8,8,8,8,8,8,8,8,8,8,8,8,8,8,8,8,8]).append ([8,8,8,8,8,8,8,8,8,8,8,8,8,8,8,8,8,8,8,8,8,8,8,8,8,8,8,8,8,8,8,8,8,8,8,8,8,8,8,8,8,8,8,8,8,8,8,8,8,8,8,8,8,8,8,8,8,8,8,8,8,8,8,8]))).toArray⟩:ByteArray) (wk .u8 (shrk .u64 x4 8))).bind λx6=>some (wk .i64 ((wk .i64 (x5+8))+(wk .i64 x6))))else(sat? (⟨((([0,1,2,2,3,3,3,3,4,4,4,4,4,4,4,4,5,5,5,5,5,5,5,5,5,5,5,5,5,5,5,5,6,6,6,6,6,6,6,6,6,6,6,6,6,6,6,6,6,6,6,6,6,6,6,6,6,6,6,6,6,6,6,6]).append ([7,7,7,7,7,7,7,7,7,7,7,7,7,7,7,7,7,7,7,7,7,7,7,7,7,7,7,7,7,7,7,7,7,7,7,7,7,7,7,7,7,7,7,7,7,7,7,7,7,7,7,7,7,7,7,7,7,7,7,7,7,7,7,7])).append (([8,8,8,8,8,8,8,8,8,8,8,8,8,8,8,8,8,8,8,8,8,8,8,8,8,8,8,8,8,8,8,8,8,8,8,8,8,8,8,8,8,8,8,8,8,8,8,8,8,8,8,8,8,8,8,8,8,8,8,8,8,8,8,8]).append ([8,8,8,8,8,8,8,8,8,8,8,8,8,8,8,8,8,8,8,8,8,8,8,8,8,8,8,8,8,8,8,8,8,8,8,8,8,8,8,8,8,8,8,8,8,8,8,8,8,8,8,8,8,8,8,8,8,8,8,8,8,8,8,8]))).toArray⟩:ByteArray) (wk .u8 x4)).bind λx7=>some (wk .i64 (x5+(wk .i64 x7)))
def math_bits_Len64.k1(fu:Nat)(x2:Int)(x3:Int):Option Int:=
  jn 2 () (λ(t:Int×Int)=>math_bits_Len64.k2 fu t.1 t.2)<|if 65536<=x2 then(math_bits_Len64.k2 fu (shrk .u64 x2 16) (wk .i64 (x3+16)))else math_bits_Len64.k2 fu x2 x3
def math_bits_Len64(fu:Nat)(x1:Int):Option Int:=
  jn 1 () (λ(t:Int×Int)=>math_bits_Len64.k1 fu t.1 t.2)<|if 4294967296<=x1 then(math_bits_Len64.k1 fu (shrk .u64 x1 32) 32)else math_bits_Len64.k1 fu x1 0
def soft_outwards(fu:Nat)(x1:Int)(x2:Bool):Option Bool:=
  chk (x1=0)<|some false
def soft_tiny(fu:Nat)(x1:Int)(x2:Bool):Option Int:=
  chk (x1=0)<|(soft_outwards fu 0 x2).bind λx3=>if x3=true then((soft_sign fu x2).bind λx4=>some (bor .u32 x4 1))else(soft_sign fu x2).bind λx5=>some x5
def soft_huge.k1(fu:Nat)(x2:Bool):Option Int:=
  (soft_sign fu x2).bind λx3=>some (bor .u32 x3 2139095040)
def soft_huge(fu:Nat)(x1:Int)(x2:Bool):Option Int:=
  chk (x1=0)<|jn 1 () (λ(t:Unit)=>soft_huge.k1 fu x2)<|soft_huge.k1 fu x2
def soft_Round.k3(fu:Nat)(x2:Bool)(x3:Int)(x6:Int)(x11:Int):Option Int:=
  if x11=0 then((soft_sign fu x2).bind λx12=>some x12)else if 104<(wk .i64 (x3+(imax (wk .i64 (x6 - 24)) (wk .i64 ((-149) - x3)))))then((soft_huge fu 0 x2).bind λx13=>some x13)else if 2139095040<=(wk .u64 ((shlk .u64 (wk .u64 (wk .i64 ((wk .i64 (x3+(imax (wk .i64 (x6 - 24)) (wk .i64 ((-149) - x3)))))+149))) 23)+x11))then((soft_huge fu 0 x2).bind λx14=>some x14)else(soft_sign fu x2).bind λx15=>some (bor .u32 x15 (wk .u32 (wk .u64 ((shlk .u64 (wk .u64 (wk .i64 ((wk .i64 (x3+(imax (wk .i64 (x6 - 24)) (wk .i64 ((-149) - x3)))))+149))) 23)+x11))))
def soft_Round.k2(fu:Nat)(x2:Bool)(x3:Int)(x6:Int)(x7:Int)(x8:Bool)(x9:Bool)(x10:Bool):Option Int:=
  jn 3 () (λ(t:Int)=>soft_Round.k3 fu x2 x3 x6 t)<|if x8=true then(soft_Round.k3 fu x2 x3 x6 (wk .u64 (x7+1)))else if x9=true then(if(band .u64 x7 1)=1 then(soft_Round.k3 fu x2 x3 x6 (wk .u64 (x7+1)))else soft_Round.k3 fu x2 x3 x6 x7)else soft_Round.k3 fu x2 x3 x6 x7
def soft_Round.k4(fu:Nat)(x2:Bool)(x3:Int)(x4:Int)(x5:Bool)(x6:Int)(x16:Bool):Option Int:=
  if(band .u64 x4 (wk .u64 ((shlk .u64 1 (imax (wk .i64 (x6 - 24)) (wk .i64 ((-149) - x3)))) - 1)))=(shlk .u64 1 (wk .i64 ((imax (wk .i64 (x6 - 24)) (wk .i64 ((-149) - x3))) - 1)))then(if(band .u64 x4 (wk .u64 ((shlk .u64 1 (imax (wk .i64 (x6 - 24)) (wk .i64 ((-149) - x3)))) - 1)))=0 then(soft_Round.k2 fu x2 x3 x6 (shrk .u64 x4 (imax (wk .i64 (x6 - 24)) (wk .i64 ((-149) - x3)))) x16 (!x5) x5)else soft_Round.k2 fu x2 x3 x6 (shrk .u64 x4 (imax (wk .i64 (x6 - 24)) (wk .i64 ((-149) - x3)))) x16 (!x5) true)else if(band .u64 x4 (wk .u64 ((shlk .u64 1 (imax (wk .i64 (x6 - 24)) (wk .i64 ((-149) - x3)))) - 1)))=0 then(soft_Round.k2 fu x2 x3 x6 (shrk .u64 x4 (imax (wk .i64 (x6 - 24)) (wk .i64 ((-149) - x3)))) x16 false x5)else soft_Round.k2 fu x2 x3 x6 (shrk .u64 x4 (imax (wk .i64 (x6 - 24)) (wk .i64 ((-149) - x3)))) x16 false true
def soft_Round.k1(fu:Nat)(x2:Bool)(x3:Int)(x4:Int)(x5:Bool)(x6:Int):Option Int:=
  jn 2 () (λ(t:Int×Bool×Bool×Bool)=>soft_Round.k2 fu x2 x3 x6 t.1 t.2.1 t.2.2.1 t.2.2.2)<|if(imax (wk .i64 (x6 - 24)) (wk .i64 ((-149) - x3)))<=0 then(chk (0<=(wk .i64 (0 - (imax (wk .i64 (x6 - 24)) (wk .i64 ((-149) - x3))))))<|soft_Round.k2 fu x2 x3 x6 (shlk .u64 x4 (wk .i64 (0 - (imax (wk .i64 (x6 - 24)) (wk .i64 ((-149) - x3)))))) false false x5)else if x6<(imax (wk .i64 (x6 - 24)) (wk .i64 ((-149) - x3)))then(soft_Round.k2 fu x2 x3 x6 0 false false true)else chk (0<=(imax (wk .i64 (x6 - 24)) (wk .i64 ((-149) - x3))))<|chk (0<=(wk .i64 ((imax (wk .i64 (x6 - 24)) (wk .i64 ((-149) - x3))) - 1)))<|jn 4 () (λ(t:Bool)=>soft_Round.k4 fu x2 x3 x4 x5 x6 t)<|if(shlk .u64 1 (wk .i64 ((imax (wk .i64 (x6 - 24)) (wk .i64 ((-149) - x3))) - 1)))<(band .u64 x4 (wk .u64 ((shlk .u64 1 (imax (wk .i64 (x6 - 24)) (wk .i64 ((-149) - x3)))) - 1)))then(soft_Round.k4 fu x2 x3 x4 x5 x6 true)else if(band .u64 x4 (wk .u64 ((shlk .u64 1 (imax (wk .i64 (x6 - 24)) (wk .i64 ((-149) - x3)))) - 1)))=(shlk .u64 1 (wk .i64 ((imax (wk .i64 (x6 - 24)) (wk .i64 ((-149) - x3))) - 1)))then(soft_Round.k4 fu x2 x3 x4 x5 x6 x5)else soft_Round.k4 fu x2 x3 x4 x5 x6 false
def soft_Round(fu:Nat)(x1:Int)(x2:Bool)(x3:Int)(x4:Int)(x5:Bool):Option Int:=
  chk (x1=0)<|(math_bits_Len64 fu x4).bind λx6=>jn 1 () (λ(t:Unit)=>soft_Round.k1 fu x2 x3 x4 x5 x6)<|if x6=0 then(if x5=true then((soft_tiny fu 0 x2).bind λx17=>some x17)else(soft_sign fu x2).bind λx18=>some x18)else if x3<(-300)then((soft_tiny fu 0 x2).bind λx19=>some x19)else if 200<x3 then((soft_huge fu 0 x2).bind λx20=>some x20)else soft_Round.k1 fu x2 x3 x4 x5 x6
def soft_AddBy.k3(fu:Nat)(x6:Bool)(x9:Bool)(x12:Int)(x13:Int)(x14:Int)(x15:Bool):Option Int:=
  if(x6==x9)=true then((soft_Round fu 0 x6 x12 (wk .u64 (x13+x14)) x15).bind λx16=>some x16)else if x15=true then((soft_Round fu 0 x6 x12 (wk .u64 ((wk .u64 (x13 - x14)) - 1)) true).bind λx17=>some x17)else if x13=x14 then((soft_nought fu 0).bind λx18=>some x18)else if x14<x13 then((soft_Round fu 0 x6 x12 (wk .u64 (x13 - x14)) false).bind λx19=>some x19)else(soft_Round fu 0 x9 x12 (wk .u64 (x14 - x13)) false).bind λx20=>some x20
def soft_AddBy.k2(fu:Nat)(x6:Bool)(x7:Int)(x8:Int)(x9:Bool)(x10:Int)(x11:Int):Option Int:=
  jn 3 () (λ(t:Int×Int×Int×Bool)=>soft_AddBy.k3 fu x6 x9 t.1 t.2.1 t.2.2.1 t.2.2.2)<|if(wk .i64 (x7 - x10))<=38 then(chk (0<=(wk .i64 (x7 - x10)))<|soft_AddBy.k3 fu x6 x9 x10 (shlk .u64 x8 (wk .i64 (x7 - x10))) x11 false)else chk (0<=(wk .i64 ((wk .i64 (x7 - x10)) - 38)))<|soft_AddBy.k3 fu x6 x9 (wk .i64 (x7 - 38)) (shlk .u64 x8 38) (shrk .u64 x11 (wk .i64 ((wk .i64 (x7 - x10)) - 38))) (!(decide ((shlk .u64 (shrk .u64 x11 (wk .i64 ((wk .i64 (x7 - x10)) - 38))) (wk .i64 ((wk .i64 (x7 - x10)) - 38)))=x11)))
def soft_AddBy.k1(fu:Nat)(x4:T_soft_number)(x5:T_soft_number):Option Int:=
  jn 2 () (λ(t:Bool×Int×Int×Bool×Int×Int)=>soft_AddBy.k2 fu t.1 t.2.1 t.2.2.1 t.2.2.2.1 t.2.2.2.2.1 t.2.2.2.2.2)<|if x4.fexp<x5.fexp then(soft_AddBy.k2 fu x5.fneg x5.fexp x5.fsig x4.fneg x4.fexp x4.fsig)else soft_AddBy.k2 fu x4.fneg x4.fexp x4.fsig x5.fneg x5.fexp x5.fsig
def soft_AddBy(fu:Nat)(x1:Int)(x2:Int)(x3:Int):Option Int:=
  chk (x1=0)<|(soft_open fu x2).bind λx4=>(soft_open fu x3).bind λx5=>jn 1 () (λ(t:Unit)=>soft_AddBy.k1 fu x4 x5)<|if x4.fnan=true then(some 2143289344)else if x5.fnan=true then(some 2143289344)else if x4.finf=true then(if x5.finf=true then(if(x4.fneg==x5.fneg)=true then(some x2)else some 2143289344)else some x2)else if x5.finf=true then(some x3)else if x4.fsig=0 then(if x5.fsig=0 then(if x2=x3 then(some x2)else(soft_nought fu 0).bind λx21=>some x21)else soft_AddBy.k1 fu x4 x5)else soft_AddBy.k1 fu x4 x5
def soft_Add(fu:Nat)(x1:Int)(x2:Int):Option Int:=
  (soft_AddBy fu 0 x1 x2).bind λx3=>some x3
def ewise_intOf_4(fu:Nat)(x1:Int)(x2:Int):Option Int:=
  some (wk .i64 (x1+x2))
def ewise_kernelOf_1(fu:Nat)(x1:Bool)(x2:Bool):Option Bool:=
  some x1
def soft_MulBy.k1(fu:Nat)(x4:T_soft_number)(x5:T_soft_number):Option Int:=
  (soft_Round fu 0 (!(x4.fneg==x5.fneg)) (wk .i64 (x4.fexp+x5.fexp)) (wk .u64 (x4.fsig*x5.fsig)) false).bind λx6=>some x6
def soft_MulBy(fu:Nat)(x1:Int)(x2:Int)(x3:Int):Option Int:=
  chk (x1=0)<|(soft_open fu x2).bind λx4=>(soft_open fu x3).bind λx5=>jn 1 () (λ(t:Unit)=>soft_MulBy.k1 fu x4 x5)<|if x4.fnan=true then(some 2143289344)else if x5.fnan=true then(some 2143289344)else if x4.finf=true then(if x5.finf=true then((soft_sign fu (!(x4.fneg==x5.fneg))).bind λx7=>some (bor .u32 x7 2139095040))else if x5.fsig=0 then(some 2143289344)else(soft_sign fu (!(x4.fneg==x5.fneg))).bind λx8=>some (bor .u32 x8 2139095040))else if x5.finf=true then(if x4.fsig=0 then(some 2143289344)else(soft_sign fu (!(x4.fneg==x5.fneg))).bind λx9=>some (bor .u32 x9 2139095040))else soft_MulBy.k1 fu x4 x5
def soft_Mul(fu:Nat)(x1:Int)(x2:Int):Option Int:=
  (soft_MulBy fu 0 x1 x2).bind λx3=>some x3
def ewise_intOf_6(fu:Nat)(x1:Int)(x2:Int):Option Int:=
  some (wk .i64 (x1*x2))
def soft_place(fu:Nat)(x1:Int):Option Int:=
  (soft_Abs fu x1).bind λx2=>if(shrk .u32 x1 31)=1 then(some (wk .i64 (0 - (wk .i64 x2))))else some (wk .i64 x2)
def soft_Equal(fu:Nat)(x1:Int)(x2:Int):Option Bool:=
  (soft_NaN fu x1).bind λx3=>if x3=true then(some false)else(soft_NaN fu x2).bind λx4=>if x4=true then(some false)else(soft_place fu x1).bind λx5=>(soft_place fu x2).bind λx6=>some (decide (x5=x6))
def soft_Less(fu:Nat)(x1:Int)(x2:Int):Option Bool:=
  (soft_NaN fu x1).bind λx3=>if x3=true then(some false)else(soft_NaN fu x2).bind λx4=>if x4=true then(some false)else(soft_place fu x1).bind λx5=>(soft_place fu x2).bind λx6=>some (decide (x5<x6))
def soft_Min(fu:Nat)(x1:Int)(x2:Int):Option Int:=
  (soft_NaN fu x1).bind λx3=>if x3=true then(some 2143289344)else(soft_NaN fu x2).bind λx4=>if x4=true then(some 2143289344)else(soft_Equal fu x1 x2).bind λx5=>if x5=true then(some (bor .u32 x1 x2))else(soft_Less fu x2 x1).bind λx6=>if x6=true then(some x2)else some x1
def ewise_intOf_7(fu:Nat)(x1:Int)(x2:Int):Option Int:=
  some (imin x1 x2)
def soft_Max(fu:Nat)(x1:Int)(x2:Int):Option Int:=
  (soft_NaN fu x1).bind λx3=>if x3=true then(some 2143289344)else(soft_NaN fu x2).bind λx4=>if x4=true then(some 2143289344)else(soft_Equal fu x1 x2).bind λx5=>if x5=true then(some (band .u32 x1 x2))else(soft_Less fu x1 x2).bind λx6=>if x6=true then(some x2)else some x1
def ewise_intOf_8(fu:Nat)(x1:Int)(x2:Int):Option Int:=
  some (imax x1 x2)
def ewise_kernelOf_9(fu:Nat)(x1:Int)(x2:Int):Option Bool:=
  some (decide (x1=x2))
def ewise_kernelOf_8(fu:Nat)(x1:Bool)(x2:Bool):Option Bool:=
  some (x1==x2)
def ewise_Do.L1(fu:Nat)(x2:T_Setting)(x5:List T_Tensor)(x9:T_Tensor×Int)(x10:Int×Int)(nx1:(List Int)→(List Bool)→Int→Option (T_Tensor×Int))(x28:List Int)(x29:List Bool)(x30:Int):Option (T_Tensor×Int):=
  chk (x9.1.fI.length=x28.length)<|chk (x9.1.fB.length=x29.length)<|if x30<x10.1 then((at? x5 0).bind λx47=>(at? x5 (wk .i64 ((x5.length:Int) - 1))).bind λx48=>(ewise_work_place fu (T_ewise_work.mk 23 x2 x5 (T_Tensor.mk x9.1.fType x9.1.fDims x9.1.fF x28 x29) x10.1) 0 x30).bind λx49=>(ewise_work_place fu (T_ewise_work.mk 23 x2 x5 (T_Tensor.mk x9.1.fType x9.1.fDims x9.1.fF x28 x29) x10.1) (wk .i64 ((x5.length:Int) - 1)) x30).bind λx50=>if x47.fType=1 then(if x9.1.fType=1 then((at? x47.fF x49).bind λx51=>(at? x48.fF x50).bind λx52=>none)else(at? x47.fF x49).bind λx53=>(at? x48.fF x50).bind λx54=>none)else if x47.fType=7 then(if x9.1.fType=7 then((at? x47.fI x49).bind λx55=>(at? x48.fI x50).bind λx56=>(ewise_intOf_9 fu x55 x56).bind λx57=>chk (0<=x30/\x30<(x28.length:Int))<|nx1 (x28.set x30.toNat x57) x29 (wk .i64 (x30+1)))else(at? x47.fI x49).bind λx58=>(at? x48.fI x50).bind λx59=>none)else(at? x47.fB x49).bind λx60=>(at? x48.fB x50).bind λx61=>(ewise_kernelOf_3 fu x60 x61).bind λx62=>chk (0<=x30/\x30<(x29.length:Int))<|nx1 x28 (x29.set x30.toNat x62) (wk .i64 (x30+1)))else some (T_Tensor.mk x9.1.fType x9.1.fDims x9.1.fF x28 x29,0)
def ewise_Do.W1(fu:Nat)(x2:T_Setting)(x5:List T_Tensor)(x9:T_Tensor×Int)(x10:Int×Int)(x28:List Int)(x29:List Bool)(x30:Int):Option (T_Tensor×Int):=
  cloop (λnext s=>ewise_Do.L1 fu x2 x5 x9 x10 (λx28 x29 x30=>next (x28,x29,x30)) s.1 s.2.1 s.2.2) fu (x28,x29,x30)
def ewise_Do.L2(fu:Nat)(x2:T_Setting)(x5:List T_Tensor)(x9:T_Tensor×Int)(x10:Int×Int)(nx2:(List Int)→(List Bool)→Int→Option (T_Tensor×Int))(x79:List Int)(x80:List Bool)(x81:Int):Option (T_Tensor×Int):=
  chk (x9.1.fI.length=x79.length)<|chk (x9.1.fB.length=x80.length)<|if x81<x10.1 then((at? x5 0).bind λx98=>(at? x5 (wk .i64 ((x5.length:Int) - 1))).bind λx99=>(ewise_work_place fu (T_ewise_work.mk 24 x2 x5 (T_Tensor.mk x9.1.fType x9.1.fDims x9.1.fF x79 x80) x10.1) 0 x81).bind λx100=>(ewise_work_place fu (T_ewise_work.mk 24 x2 x5 (T_Tensor.mk x9.1.fType x9.1.fDims x9.1.fF x79 x80) x10.1) (wk .i64 ((x5.length:Int) - 1)) x81).bind λx101=>if x98.fType=1 then(if x9.1.fType=1 then((at? x98.fF x100).bind λx102=>(at? x99.fF x101).bind λx103=>none)else(at? x98.fF x100).bind λx104=>(at? x99.fF x101).bind λx105=>none)else if x98.fType=7 then(if x9.1.fType=7 then((at? x98.fI x100).bind λx106=>(at? x99.fI x101).bind λx107=>(ewise_intOf_9 fu x106 x107).bind λx108=>chk (0<=x81/\x81<(x79.length:Int))<|nx2 (x79.set x81.toNat x108) x80 (wk .i64 (x81+1)))else(at? x98.fI x100).bind λx109=>(at? x99.fI x101).bind λx110=>none)else(at? x98.fB x100).bind λx111=>(at? x99.fB x101).bind λx112=>(ewise_kernelOf_4 fu x111 x112).bind λx113=>chk (0<=x81/\x81<(x80.length:Int))<|nx2 x79 (x80.set x81.toNat x113) (wk .i64 (x81+1)))else some (T_Tensor.mk x9.1.fType x9.1.fDims x9.1.fF x79 x80,0)
def ewise_Do.W2(fu:Nat)(x2:T_Setting)(x5:List T_Tensor)(x9:T_Tensor×Int)(x10:Int×Int)(x79:List Int)(x80:List Bool)(x81:Int):Option (T_Tensor×Int):=
  cloop (λnext s=>ewise_Do.L2 fu x2 x5 x9 x10 (λx79 x80 x81=>next (x79,x80,x81)) s.1 s.2.1 s.2.2) fu (x79,x80,x81)
def ewise_Do.L3(fu:Nat)(x2:T_Setting)(x5:List T_Tensor)(x9:T_Tensor×Int)(x10:Int×Int)(nx3:(List Int)→(List Bool)→Int→Option (T_Tensor×Int))(x130:List Int)(x131:List Bool)(x132:Int):Option (T_Tensor×Int):=
  chk (x9.1.fI.length=x130.length)<|chk (x9.1.fB.length=x131.length)<|if x132<x10.1 then((at? x5 0).bind λx149=>(at? x5 (wk .i64 ((x5.length:Int) - 1))).bind λx150=>(ewise_work_place fu (T_ewise_work.mk 25 x2 x5 (T_Tensor.mk x9.1.fType x9.1.fDims x9.1.fF x130 x131) x10.1) 0 x132).bind λx151=>(ewise_work_place fu (T_ewise_work.mk 25 x2 x5 (T_Tensor.mk x9.1.fType x9.1.fDims x9.1.fF x130 x131) x10.1) (wk .i64 ((x5.length:Int) - 1)) x132).bind λx152=>if x149.fType=1 then(if x9.1.fType=1 then((at? x149.fF x151).bind λx153=>(at? x150.fF x152).bind λx154=>none)else(at? x149.fF x151).bind λx155=>(at? x150.fF x152).bind λx156=>none)else if x149.fType=7 then(if x9.1.fType=7 then((at? x149.fI x151).bind λx157=>(at? x150.fI x152).bind λx158=>(ewise_intOf_9 fu x157 x158).bind λx159=>chk (0<=x132/\x132<(x130.length:Int))<|nx3 (x130.set x132.toNat x159) x131 (wk .i64 (x132+1)))else(at? x149.fI x151).bind λx160=>(at? x150.fI x152).bind λx161=>none)else(at? x149.fB x151).bind λx162=>(at? x150.fB x152).bind λx163=>(ewise_kernelOf_5 fu x162 x163).bind λx164=>chk (0<=x132/\x132<(x131.length:Int))<|nx3 x130 (x131.set x132.toNat x164) (wk .i64 (x132+1)))else some (T_Tensor.mk x9.1.fType x9.1.fDims x9.1.fF x130 x131,0)
def ewise_Do.W3(fu:Nat)(x2:T_Setting)(x5:List T_Tensor)(x9:T_Tensor×Int)(x10:Int×Int)(x130:List Int)(x131:List Bool)(x132:Int):Option (T_Tensor×Int):=
  cloop (λnext s=>ewise_Do.L3 fu x2 x5 x9 x10 (λx130 x131 x132=>next (x130,x131,x132)) s.1 s.2.1 s.2.2) fu (x130,x131,x132)
def ewise_Do.L4(fu:Nat)(x2:T_Setting)(x5:List T_Tensor)(x9:T_Tensor×Int)(x10:Int×Int)(nx4:(List Int)→(List Int)→(List Bool)→Int→Option (T_Tensor×Int))(x183:List Int)(x184:List Int)(x185:List Bool)(x186:Int):Option (T_Tensor×Int):=
  chk (x9.1.fF.length=x183.length)<|chk (x9.1.fI.length=x184.length)<|chk (x9.1.fB.length=x185.length)<|if x186<x10.1 then((at? x5 0).bind λx205=>(at? x5 (wk .i64 ((x5.length:Int) - 1))).bind λx206=>(ewise_work_place fu (T_ewise_work.mk 28 x2 x5 (T_Tensor.mk x9.1.fType x9.1.fDims x183 x184 x185) x10.1) 0 x186).bind λx207=>(ewise_work_place fu (T_ewise_work.mk 28 x2 x5 (T_Tensor.mk x9.1.fType x9.1.fDims x183 x184 x185) x10.1) (wk .i64 ((x5.length:Int) - 1)) x186).bind λx208=>if x205.fType=1 then(if x9.1.fType=1 then((at? x205.fF x207).bind λx209=>(at? x206.fF x208).bind λx210=>(soft_Add fu x209 x210).bind λx211=>(soft_Canon fu x211).bind λx212=>chk (0<=x186/\x186<(x183.length:Int))<|nx4 (x183.set x186.toNat x212) x184 x185 (wk .i64 (x186+1)))else(at? x205.fF x207).bind λx213=>(at? x206.fF x208).bind λx214=>none)else if x205.fType=7 then(if x9.1.fType=7 then((at? x205.fI x207).bind λx215=>(at? x206.fI x208).bind λx216=>(ewise_intOf_4 fu x215 x216).bind λx217=>chk (0<=x186/\x186<(x184.length:Int))<|nx4 x183 (x184.set x186.toNat x217) x185 (wk .i64 (x186+1)))else(at? x205.fI x207).bind λx218=>(at? x206.fI x208).bind λx219=>none)else(at? x205.fB x207).bind λx220=>(at? x206.fB x208).bind λx221=>(ewise_kernelOf_1 fu x220 x221).bind λx222=>chk (0<=x186/\x186<(x185.length:Int))<|nx4 x183 x184 (x185.set x186.toNat x222) (wk .i64 (x186+1)))else some (T_Tensor.mk x9.1.fType x9.1.fDims x183 x184 x185,0)
def ewise_Do.W4(fu:Nat)(x2:T_Setting)(x5:List T_Tensor)(x9:T_Tensor×Int)(x10:Int×Int)(x183:List Int)(x184:List Int)(x185:List Bool)(x186:Int):Option (T_Tensor×Int):=
  cloop (λnext s=>ewise_Do.L4 fu x2 x5 x9 x10 (λx183 x184 x185 x186=>next (x183,x184,x185,x186)) s.1 s.2.1 s.2.2.1 s.2.2.2) fu (x183,x184,x185,x186)
def ewise_Do.L5(fu:Nat)(x2:T_Setting)(x5:List T_Tensor)(x9:T_Tensor×Int)(x10:Int×Int)(nx5:(List Int)→(List Int)→(List Bool)→Int→Option (T_Tensor×Int))(x241:List Int)(x242:List Int)(x243:List Bool)(x244:Int):Option (T_Tensor×Int):=
  chk (x9.1.fF.length=x241.length)<|chk (x9.1.fI.length=x242.length)<|chk (x9.1.fB.length=x243.length)<|if x244<x10.1 then((at? x5 0).bind λx263=>(at? x5 (wk .i64 ((x5.length:Int) - 1))).bind λx264=>(ewise_work_place fu (T_ewise_work.mk 30 x2 x5 (T_Tensor.mk x9.1.fType x9.1.fDims x241 x242 x243) x10.1) 0 x244).bind λx265=>(ewise_work_place fu (T_ewise_work.mk 30 x2 x5 (T_Tensor.mk x9.1.fType x9.1.fDims x241 x242 x243) x10.1) (wk .i64 ((x5.length:Int) - 1)) x244).bind λx266=>if x263.fType=1 then(if x9.1.fType=1 then((at? x263.fF x265).bind λx267=>(at? x264.fF x266).bind λx268=>(soft_Mul fu x267 x268).bind λx269=>(soft_Canon fu x269).bind λx270=>chk (0<=x244/\x244<(x241.length:Int))<|nx5 (x241.set x244.toNat x270) x242 x243 (wk .i64 (x244+1)))else(at? x263.fF x265).bind λx271=>(at? x264.fF x266).bind λx272=>none)else if x263.fType=7 then(if x9.1.fType=7 then((at? x263.fI x265).bind λx273=>(at? x264.fI x266).bind λx274=>(ewise_intOf_6 fu x273 x274).bind λx275=>chk (0<=x244/\x244<(x242.length:Int))<|nx5 x241 (x242.set x244.toNat x275) x243 (wk .i64 (x244+1)))else(at? x263.fI x265).bind λx276=>(at? x264.fI x266).bind λx277=>none)else(at? x263.fB x265).bind λx278=>(at? x264.fB x266).bind λx279=>(ewise_kernelOf_1 fu x278 x279).bind λx280=>chk (0<=x244/\x244<(x243.length:Int))<|nx5 x241 x242 (x243.set x244.toNat x280) (wk .i64 (x244+1)))else some (T_Tensor.mk x9.1.fType x9.1.fDims x241 x242 x243,0)
def ewise_Do.W5(fu:Nat)(x2:T_Setting)(x5:List T_Tensor)(x9:T_Tensor×Int)(x10:Int×Int)(x241:List Int)(x242:List Int)(x243:List Bool)(x244:Int):Option (T_Tensor×Int):=
  cloop (λnext s=>ewise_Do.L5 fu x2 x5 x9 x10 (λx241 x242 x243 x244=>next (x241,x242,x243,x244)) s.1 s.2.1 s.2.2.1 s.2.2.2) fu (x241,x242,x243,x244)
def ewise_Do.L6(fu:Nat)(x2:T_Setting)(x5:List T_Tensor)(x9:T_Tensor×Int)(x10:Int×Int)(nx6:(List Int)→(List Int)→(List Bool)→Int→Option (T_Tensor×Int))(x299:List Int)(x300:List Int)(x301:List Bool)(x302:Int):Option (T_Tensor×Int):=
  chk (x9.1.fF.length=x299.length)<|chk (x9.1.fI.length=x300.length)<|chk (x9.1.fB.length=x301.length)<|if x302<x10.1 then((at? x5 0).bind λx321=>(at? x5 (wk .i64 ((x5.length:Int) - 1))).bind λx322=>(ewise_work_place fu (T_ewise_work.mk 34 x2 x5 (T_Tensor.mk x9.1.fType x9.1.fDims x299 x300 x301) x10.1) 0 x302).bind λx323=>(ewise_work_place fu (T_ewise_work.mk 34 x2 x5 (T_Tensor.mk x9.1.fType x9.1.fDims x299 x300 x301) x10.1) (wk .i64 ((x5.length:Int) - 1)) x302).bind λx324=>if x321.fType=1 then(if x9.1.fType=1 then((at? x321.fF x323).bind λx325=>(at? x322.fF x324).bind λx326=>(soft_Min fu x325 x326).bind λx327=>(soft_Canon fu x327).bind λx328=>chk (0<=x302/\x302<(x299.length:Int))<|nx6 (x299.set x302.toNat x328) x300 x301 (wk .i64 (x302+1)))else(at? x321.fF x323).bind λx329=>(at? x322.fF x324).bind λx330=>none)else if x321.fType=7 then(if x9.1.fType=7 then((at? x321.fI x323).bind λx331=>(at? x322.fI x324).bind λx332=>(ewise_intOf_7 fu x331 x332).bind λx333=>chk (0<=x302/\x302<(x300.length:Int))<|nx6 x299 (x300.set x302.toNat x333) x301 (wk .i64 (x302+1)))else(at? x321.fI x323).bind λx334=>(at? x322.fI x324).bind λx335=>none)else(at? x321.fB x323).bind λx336=>(at? x322.fB x324).bind λx337=>(ewise_kernelOf_1 fu x336 x337).bind λx338=>chk (0<=x302/\x302<(x301.length:Int))<|nx6 x299 x300 (x301.set x302.toNat x338) (wk .i64 (x302+1)))else some (T_Tensor.mk x9.1.fType x9.1.fDims x299 x300 x301,0)
def ewise_Do.W6(fu:Nat)(x2:T_Setting)(x5:List T_Tensor)(x9:T_Tensor×Int)(x10:Int×Int)(x299:List Int)(x300:List Int)(x301:List Bool)(x302:Int):Option (T_Tensor×Int):=
  cloop (λnext s=>ewise_Do.L6 fu x2 x5 x9 x10 (λx299 x300 x301 x302=>next (x299,x300,x301,x302)) s.1 s.2.1 s.2.2.1 s.2.2.2) fu (x299,x300,x301,x302)
def ewise_Do.L7(fu:Nat)(x2:T_Setting)(x5:List T_Tensor)(x9:T_Tensor×Int)(x10:Int×Int)(nx7:(List Int)→(List Int)→(List Bool)→Int→Option (T_Tensor×Int))(x357:List Int)(x358:List Int)(x359:List Bool)(x360:Int):Option (T_Tensor×Int):=
  chk (x9.1.fF.length=x357.length)<|chk (x9.1.fI.length=x358.length)<|chk (x9.1.fB.length=x359.length)<|if x360<x10.1 then((at? x5 0).bind λx379=>(at? x5 (wk .i64 ((x5.length:Int) - 1))).bind λx380=>(ewise_work_place fu (T_ewise_work.mk 35 x2 x5 (T_Tensor.mk x9.1.fType x9.1.fDims x357 x358 x359) x10.1) 0 x360).bind λx381=>(ewise_work_place fu (T_ewise_work.mk 35 x2 x5 (T_Tensor.mk x9.1.fType x9.1.fDims x357 x358 x359) x10.1) (wk .i64 ((x5.length:Int) - 1)) x360).bind λx382=>if x379.fType=1 then(if x9.1.fType=1 then((at? x379.fF x381).bind λx383=>(at? x380.fF x382).bind λx384=>(soft_Max fu x383 x384).bind λx385=>(soft_Canon fu x385).bind λx386=>chk (0<=x360/\x360<(x357.length:Int))<|nx7 (x357.set x360.toNat x386) x358 x359 (wk .i64 (x360+1)))else(at? x379.fF x381).bind λx387=>(at? x380.fF x382).bind λx388=>none)else if x379.fType=7 then(if x9.1.fType=7 then((at? x379.fI x381).bind λx389=>(at? x380.fI x382).bind λx390=>(ewise_intOf_8 fu x389 x390).bind λx391=>chk (0<=x360/\x360<(x358.length:Int))<|nx7 x357 (x358.set x360.toNat x391) x359 (wk .i64 (x360+1)))else(at? x379.fI x381).bind λx392=>(at? x380.fI x382).bind λx393=>none)else(at? x379.fB x381).bind λx394=>(at? x380.fB x382).bind λx395=>(ewise_kernelOf_1 fu x394 x395).bind λx396=>chk (0<=x360/\x360<(x359.length:Int))<|nx7 x357 x358 (x359.set x360.toNat x396) (wk .i64 (x360+1)))else some (T_Tensor.mk x9.1.fType x9.1.fDims x357 x358 x359,0)
def ewise_Do.W7(fu:Nat)(x2:T_Setting)(x5:List T_Tensor)(x9:T_Tensor×Int)(x10:Int×Int)(x357:List Int)(x358:List Int)(x359:List Bool)(x360:Int):Option (T_Tensor×Int):=
  cloop (λnext s=>ewise_Do.L7 fu x2 x5 x9 x10 (λx357 x358 x359 x360=>next (x357,x358,x359,x360)) s.1 s.2.1 s.2.2.1 s.2.2.2) fu (x357,x358,x359,x360)
def ewise_Do.L8(fu:Nat)(x2:T_Setting)(x5:List T_Tensor)(x9:T_Tensor×Int)(x10:Int×Int)(nx8:(List Int)→(List Bool)→Int→Option (T_Tensor×Int))(x415:List Int)(x416:List Bool)(x417:Int):Option (T_Tensor×Int):=
  chk (x9.1.fI.length=x415.length)<|chk (x9.1.fB.length=x416.length)<|if x417<x10.1 then((at? x5 0).bind λx436=>(at? x5 (wk .i64 ((x5.length:Int) - 1))).bind λx437=>(ewise_work_place fu (T_ewise_work.mk 37 x2 x5 (T_Tensor.mk x9.1.fType x9.1.fDims x9.1.fF x415 x416) x10.1) 0 x417).bind λx438=>(ewise_work_place fu (T_ewise_work.mk 37 x2 x5 (T_Tensor.mk x9.1.fType x9.1.fDims x9.1.fF x415 x416) x10.1) (wk .i64 ((x5.length:Int) - 1)) x417).bind λx439=>if x436.fType=1 then(if x9.1.fType=1 then((at? x436.fF x438).bind λx440=>(at? x437.fF x439).bind λx441=>none)else(at? x436.fF x438).bind λx442=>(at? x437.fF x439).bind λx443=>(soft_Equal fu x442 x443).bind λx444=>chk (0<=x417/\x417<(x416.length:Int))<|nx8 x415 (x416.set x417.toNat x444) (wk .i64 (x417+1)))else if x436.fType=7 then(if x9.1.fType=7 then((at? x436.fI x438).bind λx445=>(at? x437.fI x439).bind λx446=>(ewise_intOf_9 fu x445 x446).bind λx447=>chk (0<=x417/\x417<(x415.length:Int))<|nx8 (x415.set x417.toNat x447) x416 (wk .i64 (x417+1)))else(at? x436.fI x438).bind λx448=>(at? x437.fI x439).bind λx449=>(ewise_kernelOf_9 fu x448 x449).bind λx450=>chk (0<=x417/\x417<(x416.length:Int))<|nx8 x415 (x416.set x417.toNat x450) (wk .i64 (x417+1)))else(at? x436.fB x438).bind λx451=>(at? x437.fB x439).bind λx452=>(ewise_kernelOf_8 fu x451 x452).bind λx453=>chk (0<=x417/\x417<(x416.length:Int))<|nx8 x415 (x416.set x417.toNat x453) (wk .i64 (x417+1)))else some (T_Tensor.mk x9.1.fType x9.1.fDims x9.1.fF x415 x416,0)
def ewise_Do.W8(fu:Nat)(x2:T_Setting)(x5:List T_Tensor)(x9:T_Tensor×Int)(x10:Int×Int)(x415:List Int)(x416:List Bool)(x417:Int):Option (T_Tensor×Int):=
  cloop (λnext s=>ewise_Do.L8 fu x2 x5 x9 x10 (λx415 x416 x417=>next (x415,x416,x417)) s.1 s.2.1 s.2.2) fu (x415,x416,x417)
def ewise_Do.k1(fu:Nat)(x1:Int)(x2:T_Setting)(x3:List T_Tensor)(x5:List T_Tensor):Option (T_Tensor×Int):=
  (ewise_Vals fu x3).bind λx6=>(infer_Node fu x1 x2 x6 1).bind λx7=>if x7.2=0 then((at? x7.1 0).bind λx8=>(tens_New fu x8.fType x8.fDims).bind λx9=>(shape_Size fu x8.fDims).bind λx10=>if x9.2=0 then((ewise_work_divides fu (T_ewise_work.mk x1 x2 x5 x9.1 x10.1)).bind λx11=>if x11=true then(some (T_Tensor.mk 0 ([]) ([]) ([]) ([]),10))else spl (x1=23) (ewise_Do.W1 fu x2 x5 x9 x10 x9.1.fI x9.1.fB 0) (spl (x1=24) (ewise_Do.W2 fu x2 x5 x9 x10 x9.1.fI x9.1.fB 0) (spl (x1=25) (ewise_Do.W3 fu x2 x5 x9 x10 x9.1.fI x9.1.fB 0) (spl (x1=28) (ewise_Do.W4 fu x2 x5 x9 x10 x9.1.fF x9.1.fI x9.1.fB 0) (spl (x1=30) (ewise_Do.W5 fu x2 x5 x9 x10 x9.1.fF x9.1.fI x9.1.fB 0) (spl (x1=34) (ewise_Do.W6 fu x2 x5 x9 x10 x9.1.fF x9.1.fI x9.1.fB 0) (spl (x1=35) (ewise_Do.W7 fu x2 x5 x9 x10 x9.1.fF x9.1.fI x9.1.fB 0) (chk (x1=37)<|ewise_Do.W8 fu x2 x5 x9 x10 x9.1.fI x9.1.fB 0))))))))else some (T_Tensor.mk 0 ([]) ([]) ([]) ([]),x9.2))else some (T_Tensor.mk 0 ([]) ([]) ([]) ([]),x7.2)
def ewise_Do.L9(fu:Nat)(x1:Int)(x2:T_Setting)(x3:List T_Tensor)(nx9:(List T_Tensor)→Int→Option (T_Tensor×Int))(x458:List T_Tensor)(x459:Int):Option (T_Tensor×Int):=
  if x459<(x3.length:Int)then((at? x3 x459).bind λx464=>if x464.fType=0 then((tens_Canon fu x464).bind λx465=>chk ((x458.length+1:Int)*104<=140737488355328)<|nx9 (x458++([x465])) (wk .i64 (x459+1)))else(tens_Check fu x464).bind λx466=>if x466=0 then((tens_Canon fu x464).bind λx467=>chk ((x458.length+1:Int)*104<=140737488355328)<|nx9 (x458++([x467])) (wk .i64 (x459+1)))else some (T_Tensor.mk 0 ([]) ([]) ([]) ([]),x466))else ewise_Do.k1 fu x1 x2 x3 x458
def ewise_Do.W9(fu:Nat)(x1:Int)(x2:T_Setting)(x3:List T_Tensor)(x458:List T_Tensor)(x459:Int):Option (T_Tensor×Int):=
  cloop (λnext s=>ewise_Do.L9 fu x1 x2 x3 (λx458 x459=>next (x458,x459)) s.1 s.2) fu (x458,x459)
def ewise_Do(fu:Nat)(x1:Int)(x2:T_Setting)(x3:List T_Tensor):Option (T_Tensor×Int):=
  (ewise_Has fu x1).bind λx4=>if x4=true then(jn 1 () (λ(t:List T_Tensor)=>ewise_Do.k1 fu x1 x2 x3 t)<|ewise_Do.W9 fu x1 x2 x3 ([]:List T_Tensor) 0)else some (T_Tensor.mk 0 ([]) ([]) ([]) ([]),1)
def ref04_SameInts.L1(fu:Nat)(x1:List Int)(x2:List Int)(nx1:Int→Option Bool)(x5:Int):Option Bool:=
  if x5<(x1.length:Int)then((at? x1 x5).bind λx8=>(at? x2 x5).bind λx9=>if x8=x9 then(nx1 (wk .i64 (x5+1)))else some false)else some true
def ref04_SameInts.W1(fu:Nat)(x1:List Int)(x2:List Int)(x5:Int):Option Bool:=
  cloop (λnext s=>ref04_SameInts.L1 fu x1 x2 next s) fu x5
def ref04_SameInts(fu:Nat)(x1:List Int)(x2:List Int):Option Bool:=
  if(x1.length:Int)=(x2.length:Int)then(ref04_SameInts.W1 fu x1 x2 0)else some false
def ref05_Same.L1(fu:Nat)(x1:T_Tensor)(x2:T_Tensor)(nx1:Int→Option Bool)(x5:Int):Option Bool:=
  if x5<(x1.fB.length:Int)then((at? x1.fB x5).bind λx8=>(at? x2.fB x5).bind λx9=>if(x8==x9)=true then(nx1 (wk .i64 (x5+1)))else some false)else some true
def ref05_Same.W1(fu:Nat)(x1:T_Tensor)(x2:T_Tensor)(x5:Int):Option Bool:=
  cloop (λnext s=>ref05_Same.L1 fu x1 x2 next s) fu x5
def ref05_Same.k3(fu:Nat)(x1:T_Tensor)(x2:T_Tensor):Option Bool:=
  ref05_Same.W1 fu x1 x2 0
def ref05_Same.L2(fu:Nat)(x1:T_Tensor)(x2:T_Tensor)(nx2:Int→Option Bool)(x12:Int):Option Bool:=
  if x12<(x1.fI.length:Int)then((at? x1.fI x12).bind λx15=>(at? x2.fI x12).bind λx16=>if x15=x16 then(nx2 (wk .i64 (x12+1)))else some false)else ref05_Same.k3 fu x1 x2
def ref05_Same.W2(fu:Nat)(x1:T_Tensor)(x2:T_Tensor)(x12:Int):Option Bool:=
  cloop (λnext s=>ref05_Same.L2 fu x1 x2 next s) fu x12
def ref05_Same.k2(fu:Nat)(x1:T_Tensor)(x2:T_Tensor):Option Bool:=
  jn 3 () (λ(t:Unit)=>ref05_Same.k3 fu x1 x2)<|ref05_Same.W2 fu x1 x2 0
def ref05_Same.L3(fu:Nat)(x1:T_Tensor)(x2:T_Tensor)(nx3:Int→Option Bool)(x19:Int):Option Bool:=
  if x19<(x1.fF.length:Int)then((at? x1.fF x19).bind λx22=>(at? x2.fF x19).bind λx23=>if x22=x23 then(nx3 (wk .i64 (x19+1)))else some false)else ref05_Same.k2 fu x1 x2
def ref05_Same.W3(fu:Nat)(x1:T_Tensor)(x2:T_Tensor)(x19:Int):Option Bool:=
  cloop (λnext s=>ref05_Same.L3 fu x1 x2 next s) fu x19
def ref05_Same.k1(fu:Nat)(x1:T_Tensor)(x2:T_Tensor):Option Bool:=
  jn 2 () (λ(t:Unit)=>ref05_Same.k2 fu x1 x2)<|ref05_Same.W3 fu x1 x2 0
def ref05_Same(fu:Nat)(x1:T_Tensor)(x2:T_Tensor):Option Bool:=
  jn 1 () (λ(t:Unit)=>ref05_Same.k1 fu x1 x2)<|if x1.fType=x2.fType then((ref04_SameInts fu x1.fDims x2.fDims).bind λx24=>if x24=true then(if(x1.fF.length:Int)=(x2.fF.length:Int)then(if(x1.fI.length:Int)=(x2.fI.length:Int)then(if(x1.fB.length:Int)=(x2.fB.length:Int)then(ref05_Same.k1 fu x1 x2)else some false)else some false)else some false)else some false)else some false
def law11_EwiseSwaps(fu:Nat)(x1:Int)(x2:T_Tensor)(x3:T_Tensor):Option Bool:=
  spl (band .i64 x1 7=0) ((ewise_Do fu 28 (T_Setting.mk 0 ([]) false false false false false ([]) false 0 0 0 false false false 0 0 false false 0 ([]) ([]) ([]) ([]) 0 false false 0 0 0 false (T_Tensor.mk 0 ([]) ([]) ([]) ([]))) ([x2,x3])).bind λx4=>(ewise_Do fu 28 (T_Setting.mk 0 ([]) false false false false false ([]) false 0 0 0 false false false 0 0 false false 0 ([]) ([]) ([]) ([]) 0 false false 0 0 0 false (T_Tensor.mk 0 ([]) ([]) ([]) ([]))) ([x3,x2])).bind λx5=>if((decide (x4.2=0))==(decide (x5.2=0)))=true then((ref05_Same fu x4.1 x5.1).bind λx6=>some x6)else some false) (spl (band .i64 x1 7=1) ((ewise_Do fu 30 (T_Setting.mk 0 ([]) false false false false false ([]) false 0 0 0 false false false 0 0 false false 0 ([]) ([]) ([]) ([]) 0 false false 0 0 0 false (T_Tensor.mk 0 ([]) ([]) ([]) ([]))) ([x2,x3])).bind λx7=>(ewise_Do fu 30 (T_Setting.mk 0 ([]) false false false false false ([]) false 0 0 0 false false false 0 0 false false 0 ([]) ([]) ([]) ([]) 0 false false 0 0 0 false (T_Tensor.mk 0 ([]) ([]) ([]) ([]))) ([x3,x2])).bind λx8=>if((decide (x7.2=0))==(decide (x8.2=0)))=true then((ref05_Same fu x7.1 x8.1).bind λx9=>some x9)else some false) (spl (band .i64 x1 7=2) ((ewise_Do fu 34 (T_Setting.mk 0 ([]) false false false false false ([]) false 0 0 0 false false false 0 0 false false 0 ([]) ([]) ([]) ([]) 0 false false 0 0 0 false (T_Tensor.mk 0 ([]) ([]) ([]) ([]))) ([x2,x3])).bind λx10=>(ewise_Do fu 34 (T_Setting.mk 0 ([]) false false false false false ([]) false 0 0 0 false false false 0 0 false false 0 ([]) ([]) ([]) ([]) 0 false false 0 0 0 false (T_Tensor.mk 0 ([]) ([]) ([]) ([]))) ([x3,x2])).bind λx11=>if((decide (x10.2=0))==(decide (x11.2=0)))=true then((ref05_Same fu x10.1 x11.1).bind λx12=>some x12)else some false) (spl (band .i64 x1 7=3) ((ewise_Do fu 35 (T_Setting.mk 0 ([]) false false false false false ([]) false 0 0 0 false false false 0 0 false false 0 ([]) ([]) ([]) ([]) 0 false false 0 0 0 false (T_Tensor.mk 0 ([]) ([]) ([]) ([]))) ([x2,x3])).bind λx13=>(ewise_Do fu 35 (T_Setting.mk 0 ([]) false false false false false ([]) false 0 0 0 false false false 0 0 false false 0 ([]) ([]) ([]) ([]) 0 false false 0 0 0 false (T_Tensor.mk 0 ([]) ([]) ([]) ([]))) ([x3,x2])).bind λx14=>if((decide (x13.2=0))==(decide (x14.2=0)))=true then((ref05_Same fu x13.1 x14.1).bind λx15=>some x15)else some false) (spl (band .i64 x1 7=4) ((ewise_Do fu 37 (T_Setting.mk 0 ([]) false false false false false ([]) false 0 0 0 false false false 0 0 false false 0 ([]) ([]) ([]) ([]) 0 false false 0 0 0 false (T_Tensor.mk 0 ([]) ([]) ([]) ([]))) ([x2,x3])).bind λx16=>(ewise_Do fu 37 (T_Setting.mk 0 ([]) false false false false false ([]) false 0 0 0 false false false 0 0 false false 0 ([]) ([]) ([]) ([]) 0 false false 0 0 0 false (T_Tensor.mk 0 ([]) ([]) ([]) ([]))) ([x3,x2])).bind λx17=>if((decide (x16.2=0))==(decide (x17.2=0)))=true then((ref05_Same fu x16.1 x17.1).bind λx18=>some x18)else some false) (spl (band .i64 x1 7=5) ((ewise_Do fu 23 (T_Setting.mk 0 ([]) false false false false false ([]) false 0 0 0 false false false 0 0 false false 0 ([]) ([]) ([]) ([]) 0 false false 0 0 0 false (T_Tensor.mk 0 ([]) ([]) ([]) ([]))) ([x2,x3])).bind λx19=>(ewise_Do fu 23 (T_Setting.mk 0 ([]) false false false false false ([]) false 0 0 0 false false false 0 0 false false 0 ([]) ([]) ([]) ([]) 0 false false 0 0 0 false (T_Tensor.mk 0 ([]) ([]) ([]) ([]))) ([x3,x2])).bind λx20=>if((decide (x19.2=0))==(decide (x20.2=0)))=true then((ref05_Same fu x19.1 x20.1).bind λx21=>some x21)else some false) (spl (band .i64 x1 7=6) ((ewise_Do fu 24 (T_Setting.mk 0 ([]) false false false false false ([]) false 0 0 0 false false false 0 0 false false 0 ([]) ([]) ([]) ([]) 0 false false 0 0 0 false (T_Tensor.mk 0 ([]) ([]) ([]) ([]))) ([x2,x3])).bind λx22=>(ewise_Do fu 24 (T_Setting.mk 0 ([]) false false false false false ([]) false 0 0 0 false false false 0 0 false false 0 ([]) ([]) ([]) ([]) 0 false false 0 0 0 false (T_Tensor.mk 0 ([]) ([]) ([]) ([]))) ([x3,x2])).bind λx23=>if((decide (x22.2=0))==(decide (x23.2=0)))=true then((ref05_Same fu x22.1 x23.1).bind λx24=>some x24)else some false) (spl (band .i64 x1 7=7) ((ewise_Do fu 25 (T_Setting.mk 0 ([]) false false false false false ([]) false 0 0 0 false false false 0 0 false false 0 ([]) ([]) ([]) ([]) 0 false false 0 0 0 false (T_Tensor.mk 0 ([]) ([]) ([]) ([]))) ([x2,x3])).bind λx25=>(ewise_Do fu 25 (T_Setting.mk 0 ([]) false false false false false ([]) false 0 0 0 false false false 0 0 false false 0 ([]) ([]) ([]) ([]) 0 false false 0 0 0 false (T_Tensor.mk 0 ([]) ([]) ([]) ([]))) ([x3,x2])).bind λx26=>if((decide (x25.2=0))==(decide (x26.2=0)))=true then((ref05_Same fu x25.1 x26.1).bind λx27=>some x27)else some false) (none))))))))
end Go.Av
