/- Plain functions, as the program has them; data of structs. Made by a program of mine. Conditions: none. -/
import Derived.Test.YteafmomjfnlkgaaGreatXt
import Derived.Test.YteafmomjfnlkgaaGreatAu
set_option linter.unusedVariables false
namespace Go.Av
structure T_Tensor where
  fType:Int
  fDims:List Int
  fF:List Int
  fI:List Int
  fB:List Bool
def c_T_Tensor(x:T_Tensor):List AV:=[.v (.int .i64 x.fType),.arr x.fDims.length (lm (ik .i64) x.fDims),.arr x.fF.length (lm (ik .u32) x.fF),.arr x.fI.length (lm (ik .i64) x.fI),.arr x.fB.length (lm (bk) x.fB)]
theorem c_T_Tensor_len: ∀ x,(c_T_Tensor x).length=5:=λ_=>rfl
theorem c_T_Tensor_one: ∀ x,(c_T_Tensor x).all AV.one=true:=λ_=>rfl
structure T_Setting where
  fAxis:Int
  fAxes:List Int
  fHasAxes:Bool
  fKeep:Bool
  fNoop:Bool
  fLast:Bool
  fZero:Bool
  fPerm:List Int
  fHasPerm:Bool
  fAlpha:Int
  fBeta:Int
  fEpsilon:Int
  fLow:Bool
  fHigh:Bool
  fFmod:Bool
  fTo:Int
  fMode:Int
  fTransA:Bool
  fTransB:Bool
  fGroup:Int
  fKernel:List Int
  fStrides:List Int
  fPads:List Int
  fDilations:List Int
  fAuto:Int
  fCeil:Bool
  fCount:Bool
  fBlock:Int
  fStart:Int
  fEnd:Int
  fHasEnd:Bool
  fValue:T_Tensor
def c_T_Setting(x:T_Setting):List AV:=[.v (.int .i64 x.fAxis),.arr x.fAxes.length (lm (ik .i64) x.fAxes),.v (.bool x.fHasAxes),.v (.bool x.fKeep),.v (.bool x.fNoop),.v (.bool x.fLast),.v (.bool x.fZero),.arr x.fPerm.length (lm (ik .i64) x.fPerm),.v (.bool x.fHasPerm),.v (.int .u32 x.fAlpha),.v (.int .u32 x.fBeta),.v (.int .u32 x.fEpsilon),.v (.bool x.fLow),.v (.bool x.fHigh),.v (.bool x.fFmod),.v (.int .i64 x.fTo),.v (.int .i64 x.fMode),.v (.bool x.fTransA),.v (.bool x.fTransB),.v (.int .i64 x.fGroup),.arr x.fKernel.length (lm (ik .i64) x.fKernel),.arr x.fStrides.length (lm (ik .i64) x.fStrides),.arr x.fPads.length (lm (ik .i64) x.fPads),.arr x.fDilations.length (lm (ik .i64) x.fDilations),.v (.int .i64 x.fAuto),.v (.bool x.fCeil),.v (.bool x.fCount),.v (.int .i64 x.fBlock),.v (.int .i64 x.fStart),.v (.int .i64 x.fEnd),.v (.bool x.fHasEnd),.v (.int .i64 x.fValue.fType),.arr x.fValue.fDims.length (lm (ik .i64) x.fValue.fDims),.arr x.fValue.fF.length (lm (ik .u32) x.fValue.fF),.arr x.fValue.fI.length (lm (ik .i64) x.fValue.fI),.arr x.fValue.fB.length (lm (bk) x.fValue.fB)]
theorem c_T_Setting_len: ∀ x,(c_T_Setting x).length=36:=λ_=>rfl
theorem c_T_Setting_one: ∀ x,(c_T_Setting x).all AV.one=true:=λ_=>rfl
structure T_Val where
  fType:Int
  fDims:List Int
  fConst:Bool
  fT:T_Tensor
def c_T_Val(x:T_Val):List AV:=[.v (.int .i64 x.fType),.arr x.fDims.length (lm (ik .i64) x.fDims),.v (.bool x.fConst),.v (.int .i64 x.fT.fType),.arr x.fT.fDims.length (lm (ik .i64) x.fT.fDims),.arr x.fT.fF.length (lm (ik .u32) x.fT.fF),.arr x.fT.fI.length (lm (ik .i64) x.fT.fI),.arr x.fT.fB.length (lm (bk) x.fT.fB)]
theorem c_T_Val_len: ∀ x,(c_T_Val x).length=8:=λ_=>rfl
theorem c_T_Val_one: ∀ x,(c_T_Val x).all AV.one=true:=λ_=>rfl
structure T_infer_ask where
  fop:Int
  fs:T_Setting
  fin:List T_Val
  fouts:Int
def c_T_infer_ask(x:T_infer_ask):List AV:=[.v (.int .i64 x.fop),.v (.int .i64 x.fs.fAxis),.arr x.fs.fAxes.length (lm (ik .i64) x.fs.fAxes),.v (.bool x.fs.fHasAxes),.v (.bool x.fs.fKeep),.v (.bool x.fs.fNoop),.v (.bool x.fs.fLast),.v (.bool x.fs.fZero),.arr x.fs.fPerm.length (lm (ik .i64) x.fs.fPerm),.v (.bool x.fs.fHasPerm),.v (.int .u32 x.fs.fAlpha),.v (.int .u32 x.fs.fBeta),.v (.int .u32 x.fs.fEpsilon),.v (.bool x.fs.fLow),.v (.bool x.fs.fHigh),.v (.bool x.fs.fFmod),.v (.int .i64 x.fs.fTo),.v (.int .i64 x.fs.fMode),.v (.bool x.fs.fTransA),.v (.bool x.fs.fTransB),.v (.int .i64 x.fs.fGroup),.arr x.fs.fKernel.length (lm (ik .i64) x.fs.fKernel),.arr x.fs.fStrides.length (lm (ik .i64) x.fs.fStrides),.arr x.fs.fPads.length (lm (ik .i64) x.fs.fPads),.arr x.fs.fDilations.length (lm (ik .i64) x.fs.fDilations),.v (.int .i64 x.fs.fAuto),.v (.bool x.fs.fCeil),.v (.bool x.fs.fCount),.v (.int .i64 x.fs.fBlock),.v (.int .i64 x.fs.fStart),.v (.int .i64 x.fs.fEnd),.v (.bool x.fs.fHasEnd),.v (.int .i64 x.fs.fValue.fType),.arr x.fs.fValue.fDims.length (lm (ik .i64) x.fs.fValue.fDims),.arr x.fs.fValue.fF.length (lm (ik .u32) x.fs.fValue.fF),.arr x.fs.fValue.fI.length (lm (ik .i64) x.fs.fValue.fI),.arr x.fs.fValue.fB.length (lm (bk) x.fs.fValue.fB),.arr x.fin.length (fm c_T_Val x.fin),.v (.int .i64 x.fouts)]
theorem c_T_infer_ask_len: ∀ x,(c_T_infer_ask x).length=39:=λ_=>rfl
theorem c_T_infer_ask_one: ∀ x,(c_T_infer_ask x).all AV.one=true:=λ_=>rfl
structure T_ewise_work where
  fop:Int
  fs:T_Setting
  fin:List T_Tensor
  fout:T_Tensor
  fsize:Int
def c_T_ewise_work(x:T_ewise_work):List AV:=[.v (.int .i64 x.fop),.v (.int .i64 x.fs.fAxis),.arr x.fs.fAxes.length (lm (ik .i64) x.fs.fAxes),.v (.bool x.fs.fHasAxes),.v (.bool x.fs.fKeep),.v (.bool x.fs.fNoop),.v (.bool x.fs.fLast),.v (.bool x.fs.fZero),.arr x.fs.fPerm.length (lm (ik .i64) x.fs.fPerm),.v (.bool x.fs.fHasPerm),.v (.int .u32 x.fs.fAlpha),.v (.int .u32 x.fs.fBeta),.v (.int .u32 x.fs.fEpsilon),.v (.bool x.fs.fLow),.v (.bool x.fs.fHigh),.v (.bool x.fs.fFmod),.v (.int .i64 x.fs.fTo),.v (.int .i64 x.fs.fMode),.v (.bool x.fs.fTransA),.v (.bool x.fs.fTransB),.v (.int .i64 x.fs.fGroup),.arr x.fs.fKernel.length (lm (ik .i64) x.fs.fKernel),.arr x.fs.fStrides.length (lm (ik .i64) x.fs.fStrides),.arr x.fs.fPads.length (lm (ik .i64) x.fs.fPads),.arr x.fs.fDilations.length (lm (ik .i64) x.fs.fDilations),.v (.int .i64 x.fs.fAuto),.v (.bool x.fs.fCeil),.v (.bool x.fs.fCount),.v (.int .i64 x.fs.fBlock),.v (.int .i64 x.fs.fStart),.v (.int .i64 x.fs.fEnd),.v (.bool x.fs.fHasEnd),.v (.int .i64 x.fs.fValue.fType),.arr x.fs.fValue.fDims.length (lm (ik .i64) x.fs.fValue.fDims),.arr x.fs.fValue.fF.length (lm (ik .u32) x.fs.fValue.fF),.arr x.fs.fValue.fI.length (lm (ik .i64) x.fs.fValue.fI),.arr x.fs.fValue.fB.length (lm (bk) x.fs.fValue.fB),.arr x.fin.length (fm c_T_Tensor x.fin),.v (.int .i64 x.fout.fType),.arr x.fout.fDims.length (lm (ik .i64) x.fout.fDims),.arr x.fout.fF.length (lm (ik .u32) x.fout.fF),.arr x.fout.fI.length (lm (ik .i64) x.fout.fI),.arr x.fout.fB.length (lm (bk) x.fout.fB),.v (.int .i64 x.fsize)]
theorem c_T_ewise_work_len: ∀ x,(c_T_ewise_work x).length=44:=λ_=>rfl
theorem c_T_ewise_work_one: ∀ x,(c_T_ewise_work x).all AV.one=true:=λ_=>rfl
structure T_soft_number where
  fneg:Bool
  fnan:Bool
  finf:Bool
  fexp:Int
  fsig:Int
def c_T_soft_number(x:T_soft_number):List AV:=[.v (.bool x.fneg),.v (.bool x.fnan),.v (.bool x.finf),.v (.int .i64 x.fexp),.v (.int .u64 x.fsig)]
theorem c_T_soft_number_len: ∀ x,(c_T_soft_number x).length=5:=λ_=>rfl
theorem c_T_soft_number_one: ∀ x,(c_T_soft_number x).all AV.one=true:=λ_=>rfl
structure T_round_number where
  fneg:Bool
  fexp:Int
  fsig:Int
def c_T_round_number(x:T_round_number):List AV:=[.v (.bool x.fneg),.v (.int .i64 x.fexp),.v (.int .u64 x.fsig)]
theorem c_T_round_number_len: ∀ x,(c_T_round_number x).length=3:=λ_=>rfl
theorem c_T_round_number_one: ∀ x,(c_T_round_number x).all AV.one=true:=λ_=>rfl
structure T_round_wide where
  fhigh:Int
  flow:Int
def c_T_round_wide(x:T_round_wide):List AV:=[.v (.int .u64 x.fhigh),.v (.int .u64 x.flow)]
theorem c_T_round_wide_len: ∀ x,(c_T_round_wide x).length=2:=λ_=>rfl
theorem c_T_round_wide_one: ∀ x,(c_T_round_wide x).all AV.one=true:=λ_=>rfl
def ewise_Has(fu:Nat)(x1:Int):Option Bool:=
  if 1<=x1 then(some (decide (x1<=44)))else none
def tens_Width(fu:Nat)(x1:Int):Option Int:=
  if x1=1 then(some 4)else if x1=7 then(some 8)else if x1=9 then(some 1)else some 0
def tens_known(fu:Nat)(x1:Int):Option Bool:=
  (tens_Width fu x1).bind λx2=>some (decide (0<x2))
def slices_IndexFunc_int.L1(fu:Nat)(p1:Int→Option Bool)(x1:List Int)(nx1:Int→Option Int)(x4:Int):Option Int:=
  if x4<(x1.length:Int)then((at? x1 x4).bind λx7=>(p1 x7).bind λx8=>if x8=true then(some x4)else nx1 (wk .i64 (x4+1)))else some (-1)
def slices_IndexFunc_int.W1(fu:Nat)(p1:Int→Option Bool)(x1:List Int)(x4:Int):Option Int:=
  cloop (λnext s=>slices_IndexFunc_int.L1 fu p1 x1 next s) fu x4
def slices_IndexFunc_int(fu:Nat)(x1:List Int)(p1:Int→Option Bool):Option Int:=
  slices_IndexFunc_int.W1 fu p1 x1 0
def slices_ContainsFunc_int(fu:Nat)(x1:List Int)(p1:Int→Option Bool):Option Bool:=
  (slices_IndexFunc_int fu x1 p1).bind λx2=>some (decide (0<=x2))
def shape_Size_1(fu:Nat)(x1:Int):Option Bool:=
  some (decide (x1<0))
def shape_Size_2(fu:Nat)(x1:Int):Option Bool:=
  some (decide (4096<x1))
def slices_Index_int.L1(fu:Nat)(x1:List Int)(x2:Int)(nx1:Int→Option Int)(x4:Int):Option Int:=
  if x4<(x1.length:Int)then((at? x1 x4).bind λx6=>if x2=x6 then(some x4)else nx1 (wk .i64 (x4+1)))else some (-1)
def slices_Index_int.W1(fu:Nat)(x1:List Int)(x2:Int)(x4:Int):Option Int:=
  cloop (λnext s=>slices_Index_int.L1 fu x1 x2 next s) fu x4
def slices_Index_int(fu:Nat)(x1:List Int)(x2:Int):Option Int:=
  slices_Index_int.W1 fu x1 x2 0
def slices_Contains_int(fu:Nat)(x1:List Int)(x2:Int):Option Bool:=
  (slices_Index_int fu x1 x2).bind λx3=>some (decide (0<=x3))
def shape_Size.L1(fu:Nat)(x1:List Int)(nx1:Int→Int→Option (Int×Int))(x5:Int)(x6:Int):Option (Int×Int):=
  if x6<(x1.length:Int)then((at? x1 x6).bind λx8=>chk (x5≠0)<|if(wk .i64 (Int.tdiv 4096 x5))<x8 then(some (0,4))else nx1 (wk .i64 (x5*x8)) (wk .i64 (x6+1)))else some (x5,0)
def shape_Size.W1(fu:Nat)(x1:List Int)(x5:Int)(x6:Int):Option (Int×Int):=
  cloop (λnext s=>shape_Size.L1 fu x1 (λx5 x6=>next (x5,x6)) s.1 s.2) fu (x5,x6)
def shape_Size.k1(fu:Nat)(x1:List Int):Option (Int×Int):=
  (slices_Contains_int fu x1 0).bind λx3=>if x3=true then(some (0,0))else shape_Size.W1 fu x1 1 0
def shape_Size(fu:Nat)(x1:List Int):Option (Int×Int):=
  (slices_ContainsFunc_int fu x1 (λy0=>shape_Size_1 fu y0)).bind λx2=>if x2=true then(some (0,1))else jn 1 () (λ(t:Unit)=>shape_Size.k1 fu x1)<|if 8<(x1.length:Int)then(some (0,4))else(slices_ContainsFunc_int fu x1 (λy0=>shape_Size_2 fu y0)).bind λx9=>if x9=true then(some (0,4))else shape_Size.k1 fu x1
def tens_Check.k1(fu:Nat)(x1:T_Tensor)(x3:Int×Int)(x4:Int):Option Int:=
  if x4=x3.1 then(if(wk .i64 ((wk .i64 ((x1.fF.length:Int)+(x1.fI.length:Int)))+(x1.fB.length:Int)))=x3.1 then(some 0)else some 3)else some 3
def tens_Check(fu:Nat)(x1:T_Tensor):Option Int:=
  (tens_known fu x1.fType).bind λx2=>if x2=true then((shape_Size fu x1.fDims).bind λx3=>if x3.2=0 then(jn 1 () (λ(t:Int)=>tens_Check.k1 fu x1 x3 t)<|if x1.fType=7 then(tens_Check.k1 fu x1 x3 (x1.fI.length:Int))else if x1.fType=9 then(tens_Check.k1 fu x1 x3 (x1.fB.length:Int))else tens_Check.k1 fu x1 x3 (x1.fF.length:Int))else some x3.2)else some 5
def tens_own_int(fu:Nat)(x1:List Int):Option (List Int):=
  chk ((x1.length:Int)*8<=140737488355328)<|some x1
def tens_own_uint32(fu:Nat)(x1:List Int):Option (List Int):=
  chk ((x1.length:Int)*4<=140737488355328)<|some x1
def tens_own_int64(fu:Nat)(x1:List Int):Option (List Int):=
  chk ((x1.length:Int)*8<=140737488355328)<|some x1
def tens_own_bool(fu:Nat)(x1:List Bool):Option (List Bool):=
  chk ((x1.length:Int)*1<=140737488355328)<|some x1
def tens_Copy(fu:Nat)(x1:T_Tensor):Option T_Tensor:=
  (tens_own_int fu x1.fDims).bind λx2=>(tens_own_uint32 fu x1.fF).bind λx3=>(tens_own_int64 fu x1.fI).bind λx4=>(tens_own_bool fu x1.fB).bind λx5=>some (T_Tensor.mk x1.fType x2 x3 x4 x5)
def soft_Abs(fu:Nat)(x1:Int):Option Int:=
  some (bandn .u32 x1 2147483648)
def soft_NaN(fu:Nat)(x1:Int):Option Bool:=
  (soft_Abs fu x1).bind λx2=>some (decide (2139095040<x2))
def soft_Canon(fu:Nat)(x1:Int):Option Int:=
  (soft_NaN fu x1).bind λx2=>if x2=true then(some 2143289344)else some x1
def tens_Canon.L1(fu:Nat)(x2:T_Tensor)(nx1:(List Int)→Int→Option T_Tensor)(x5:List Int)(x6:Int):Option T_Tensor:=
  if x6<((x2.fF.length:Nat):Int)then((at? x5 x6).bind λx9=>(soft_Canon fu x9).bind λx10=>chk (0<=x6/\x6<(x5.length:Int))<|nx1 (x5.set x6.toNat x10) (wk .i64 (x6+1)))else some (T_Tensor.mk x2.fType x2.fDims x5 x2.fI x2.fB)
def tens_Canon.W1(fu:Nat)(x2:T_Tensor)(x5:List Int)(x6:Int):Option T_Tensor:=
  cloop (λnext s=>tens_Canon.L1 fu x2 (λx5 x6=>next (x5,x6)) s.1 s.2) fu (x5,x6)
def tens_Canon(fu:Nat)(x1:T_Tensor):Option T_Tensor:=
  (tens_Copy fu x1).bind λx2=>tens_Canon.W1 fu x2 x2.fF 0
def slices_Clone_int(fu:Nat)(x1:List Int):Option (List Int):=
  chk ((x1.length:Int)*8<=140737488355328)<|some x1
def ewise_Vals.L1(fu:Nat)(x1:List T_Tensor)(nx1:(List T_Val)→Int→Option (List T_Val))(x5:List T_Val)(x6:Int):Option (List T_Val):=
  if x6<(x1.length:Int)then((at? x1 x6).bind λx10=>if x10.fType=0 then(chk ((x5.length+1:Int)*144<=140737488355328)<|nx1 (x5++([T_Val.mk 0 ([]) false (T_Tensor.mk 0 ([]) ([]) ([]) ([]))])) (wk .i64 (x6+1)))else(slices_Clone_int fu x10.fDims).bind λx11=>(tens_Copy fu x10).bind λx12=>chk ((x5.length+1:Int)*144<=140737488355328)<|nx1 (x5++([T_Val.mk x10.fType x11 true x12])) (wk .i64 (x6+1)))else some x5
def ewise_Vals.W1(fu:Nat)(x1:List T_Tensor)(x5:List T_Val)(x6:Int):Option (List T_Val):=
  cloop (λnext s=>ewise_Vals.L1 fu x1 (λx5 x6=>next (x5,x6)) s.1 s.2) fu (x5,x6)
def ewise_Vals(fu:Nat)(x1:List T_Tensor):Option (List T_Val):=
  ewise_Vals.W1 fu x1 ([]:List T_Val) 0
def ops_Arity(fu:Nat)(x1:Int):Option (Int×Int×Int×Int):=
  spl (x1=23) (some (2,2,1,1))<|spl (x1=24) (some (2,2,1,1))<|spl (x1=25) (some (2,2,1,1))<|spl (x1=28) (some (2,2,1,1))<|spl (x1=29) (some (2,2,1,1))<|spl (x1=30) (some (2,2,1,1))<|spl (x1=31) (some (2,2,1,1))<|spl (x1=32) (some (2,2,1,1))<|spl (x1=33) (some (2,2,1,1))<|spl (x1=34) (some (2,2,1,1))<|spl (x1=35) (some (2,2,1,1))<|spl (x1=36) (some (2,2,1,1))<|spl (x1=37) (some (2,2,1,1))<|spl (x1=38) (some (2,2,1,1))<|spl (x1=39) (some (2,2,1,1))<|spl (x1=40) (some (2,2,1,1))<|chk (x1=41)<|some (2,2,1,1)
def infer_ask_val(fu:Nat)(x1:T_infer_ask)(x2:Int):Option T_Val:=
  if x2<(x1.fin.length:Int)then((at? x1.fin x2).bind λx3=>some x3)else some (T_Val.mk 0 ([]) false (T_Tensor.mk 0 ([]) ([]) ([]) ([])))
def infer_ask_has(fu:Nat)(x1:T_infer_ask)(x2:Int):Option Bool:=
  (infer_ask_val fu x1 x2).bind λx3=>some (!(decide (x3.fType=0)))
def infer_ask_complete.L1(fu:Nat)(x1:T_infer_ask)(x2:Int×Int×Int×Int)(nx1:Int→Option Bool)(x4:Int):Option Bool:=
  if x4<x2.1 then((infer_ask_has fu x1 x4).bind λx6=>if x6=true then(nx1 (wk .i64 (x4+1)))else some false)else some true
def infer_ask_complete.W1(fu:Nat)(x1:T_infer_ask)(x2:Int×Int×Int×Int)(x4:Int):Option Bool:=
  cloop (λnext s=>infer_ask_complete.L1 fu x1 x2 next s) fu x4
def infer_ask_complete.k1(fu:Nat)(x1:T_infer_ask)(x2:Int×Int×Int×Int):Option Bool:=
  infer_ask_complete.W1 fu x1 x2 0
def infer_ask_complete(fu:Nat)(x1:T_infer_ask):Option Bool:=
  (ops_Arity fu x1.fop).bind λx2=>jn 1 () (λ(t:Unit)=>infer_ask_complete.k1 fu x1 x2)<|if x2.2.2.1=0 then(some false)else if x1.fop=61 then(none)else if(x1.fin.length:Int)<x2.1 then(some false)else if x2.2.1<(x1.fin.length:Int)then(some false)else if x1.fouts<x2.2.2.1 then(some false)else if x2.2.2.2<x1.fouts then(some false)else infer_ask_complete.k1 fu x1 x2
def infer_sorts.k5(fu:Nat)(x1:Int):Option ByteArray:=
  if x1=51 then(none)else if x1=52 then(none)else if x1=53 then(none)else if x1=62 then(none)else if x1=65 then(none)else some (⟨#[102]⟩:ByteArray)
def infer_sorts.k4(fu:Nat)(x1:Int):Option ByteArray:=
  if x1=64 then(none)else jn 5 x1 (λ(t:Unit)=>infer_sorts.k5 fu x1)<|if x1=46 then(none)else if x1=48 then(none)else if x1=49 then(none)else if x1=54 then(none)else if x1=55 then(none)else if x1=56 then(none)else if x1=57 then(none)else if x1=50 then(none)else infer_sorts.k5 fu x1
def infer_sorts.k3(fu:Nat)(x1:Int)(x3:Bool):Option ByteArray:=
  if x3=true then(some (⟨#[110,61]⟩:ByteArray))else if x1=37 then(some (⟨#[97,61]⟩:ByteArray))else if x1=47 then(none)else if x1=42 then(none)else jn 4 x1 (λ(t:Unit)=>infer_sorts.k4 fu x1)<|if x1=21 then(none)else if x1=44 then(none)else if x1=45 then(none)else if x1=58 then(none)else if x1=59 then(none)else if x1=60 then(none)else if x1=63 then(none)else infer_sorts.k4 fu x1
def infer_sorts.k2(fu:Nat)(x1:Int)(x2:Bool):Option ByteArray:=
  if x2=true then(some (⟨#[98]⟩:ByteArray))else jn 3 () (λ(t:Bool)=>infer_sorts.k3 fu x1 t)<|if x1=28 then(infer_sorts.k3 fu x1 true)else if x1=29 then(infer_sorts.k3 fu x1 true)else if x1=30 then(infer_sorts.k3 fu x1 true)else if x1=31 then(infer_sorts.k3 fu x1 true)else if x1=32 then(infer_sorts.k3 fu x1 true)else if x1=34 then(infer_sorts.k3 fu x1 true)else if x1=35 then(infer_sorts.k3 fu x1 true)else if x1=38 then(infer_sorts.k3 fu x1 true)else if x1=39 then(infer_sorts.k3 fu x1 true)else if x1=40 then(infer_sorts.k3 fu x1 true)else if x1=41 then(infer_sorts.k3 fu x1 true)else infer_sorts.k3 fu x1 (decide (x1=43))
def infer_sorts.k1(fu:Nat)(x1:Int):Option ByteArray:=
  if x1=71 then(none)else jn 2 () (λ(t:Bool)=>infer_sorts.k2 fu x1 t)<|if x1=22 then(none)else if x1=23 then(infer_sorts.k2 fu x1 true)else if x1=24 then(infer_sorts.k2 fu x1 true)else infer_sorts.k2 fu x1 (decide (x1=25))
def infer_sorts(fu:Nat)(x1:Int):Option ByteArray:=
  jn 1 x1 (λ(t:Unit)=>infer_sorts.k1 fu x1)<|if x1=1 then(none)else if x1=2 then(none)else if x1=3 then(none)else if x1=67 then(none)else if x1=68 then(none)else if x1=69 then(none)else if x1=70 then(none)else infer_sorts.k1 fu x1
def infer_ask_fits.k1(fu:Nat)(x5:Bool):Option Bool:=
  some x5
def infer_ask_fits(fu:Nat)(x1:T_infer_ask)(x2:Int)(x3:Int):Option Bool:=
  (infer_ask_val fu x1 x2).bind λx4=>if x3=110 then(jn 1 () (λ(t:Bool)=>infer_ask_fits.k1 fu t)<|if x4.fType=1 then(infer_ask_fits.k1 fu true)else infer_ask_fits.k1 fu (decide (x4.fType=7)))else if x3=102 then(some (decide (x4.fType=1)))else if x3=98 then(some (decide (x4.fType=9)))else if x3=105 then(some (decide (x4.fType=7)))else if x3=61 then((infer_ask_val fu x1 0).bind λx6=>some (decide (x4.fType=x6.fType)))else if x3=43 then((infer_ask_val fu x1 (wk .i64 (x2 - 1))).bind λx7=>some (decide (x4.fType=x7.fType)))else(tens_Width fu x4.fType).bind λx8=>some (decide (0<x8))
def infer_ask_typed.k1(fu:Nat)(x1:T_infer_ask):Option Bool:=
  if x1.fop=52 then(none)else some true
def infer_ask_typed.L1(fu:Nat)(x1:T_infer_ask)(x2:ByteArray)(nx1:Int→Option Bool)(x8:Int):Option Bool:=
  if x8<(x1.fin.length:Int)then((infer_ask_has fu x1 x8).bind λx14=>if x14=true then((infer_ask_val fu x1 x8).bind λx15=>(tens_Width fu x15.fType).bind λx16=>if x16=0 then(some false)else(sat? x2 (imin x8 (wk .i64 ((x2.size:Int) - 1)))).bind λx17=>(infer_ask_fits fu x1 x8 x17).bind λx18=>if x18=true then(nx1 (wk .i64 (x8+1)))else some false)else nx1 (wk .i64 (x8+1)))else infer_ask_typed.k1 fu x1
def infer_ask_typed.W1(fu:Nat)(x1:T_infer_ask)(x2:ByteArray)(x8:Int):Option Bool:=
  cloop (λnext s=>infer_ask_typed.L1 fu x1 x2 next s) fu x8
def infer_ask_typed(fu:Nat)(x1:T_infer_ask):Option Bool:=
  (infer_sorts fu x1.fop).bind λx2=>jn 1 () (λ(t:Unit)=>infer_ask_typed.k1 fu x1)<|infer_ask_typed.W1 fu x1 x2 0
def infer_ask_dims(fu:Nat)(x1:T_infer_ask)(x2:Int):Option (List Int):=
  (infer_ask_val fu x1 x2).bind λx3=>some x3.fDims
def infer_ask_rank(fu:Nat)(x1:T_infer_ask):Option Int:=
  (infer_ask_dims fu x1 0).bind λx2=>some (x2.length:Int)
def infer_ask_attributes.k2(fu:Nat)(x1:T_infer_ask):Option Bool:=
  if x1.fop=69 then(none)else if x1.fop=75 then(none)else if x1.fop=76 then(none)else if x1.fop=77 then(none)else some true
def infer_ask_attributes.k1(fu:Nat)(x1:T_infer_ask):Option Bool:=
  if x1.fop=80 then(none)else if x1.fop=58 then(none)else jn 2 x1 (λ(t:Unit)=>infer_ask_attributes.k2 fu x1)<|if x1.fop=66 then(none)else if x1.fop=67 then(none)else if x1.fop=68 then(none)else infer_ask_attributes.k2 fu x1
def infer_ask_attributes(fu:Nat)(x1:T_infer_ask):Option Bool:=
  (infer_ask_rank fu x1).bind λx2=>if x1.fop=32 then(if x1.fs.fFmod=true then(some true)else(infer_ask_val fu (T_infer_ask.mk x1.fop (T_Setting.mk x1.fs.fAxis x1.fs.fAxes x1.fs.fHasAxes x1.fs.fKeep x1.fs.fNoop x1.fs.fLast x1.fs.fZero x1.fs.fPerm x1.fs.fHasPerm x1.fs.fAlpha x1.fs.fBeta x1.fs.fEpsilon x1.fs.fLow x1.fs.fHigh false x1.fs.fTo x1.fs.fMode x1.fs.fTransA x1.fs.fTransB x1.fs.fGroup x1.fs.fKernel x1.fs.fStrides x1.fs.fPads x1.fs.fDilations x1.fs.fAuto x1.fs.fCeil x1.fs.fCount x1.fs.fBlock x1.fs.fStart x1.fs.fEnd x1.fs.fHasEnd x1.fs.fValue) x1.fin x1.fouts) 0).bind λx3=>some (decide (x3.fType=7)))else if x1.fop=44 then(none)else if x1.fop=62 then(none)else if x1.fop=63 then(none)else if x1.fop=64 then(none)else if x1.fop=45 then(none)else jn 1 x1 (λ(t:Unit)=>infer_ask_attributes.k1 fu x1)<|if x1.fop=47 then(none)else if x1.fop=48 then(none)else if x1.fop=50 then(none)else if x1.fop=51 then(none)else if x1.fop=52 then(none)else if x1.fop=70 then(none)else if x1.fop=71 then(none)else if x1.fop=72 then(none)else infer_ask_attributes.k1 fu x1
def infer_ask_lists.k1(fu:Nat)(x1:T_infer_ask):Option (List T_Val):=
  if x1.fop=65 then(none)else some ([])
def infer_ask_lists(fu:Nat)(x1:T_infer_ask):Option (List T_Val):=
  if x1.fop=62 then(none)else if x1.fop=49 then(none)else jn 1 x1 (λ(t:Unit)=>infer_ask_lists.k1 fu x1)<|if x1.fop=46 then(none)else if x1.fop=48 then(none)else if x1.fop=53 then(none)else if x1.fop=54 then(none)else if x1.fop=55 then(none)else if x1.fop=56 then(none)else if x1.fop=57 then(none)else infer_ask_lists.k1 fu x1
def slices_IndexFunc_api_Val_api_Val.L1(fu:Nat)(p1:T_Val→Option Bool)(x1:List T_Val)(nx1:Int→Option Int)(x4:Int):Option Int:=
  if x4<(x1.length:Int)then((at? x1 x4).bind λx7=>(p1 x7).bind λx8=>if x8=true then(some x4)else nx1 (wk .i64 (x4+1)))else some (-1)
def slices_IndexFunc_api_Val_api_Val.W1(fu:Nat)(p1:T_Val→Option Bool)(x1:List T_Val)(x4:Int):Option Int:=
  cloop (λnext s=>slices_IndexFunc_api_Val_api_Val.L1 fu p1 x1 next s) fu x4
def slices_IndexFunc_api_Val_api_Val(fu:Nat)(x1:List T_Val)(p1:T_Val→Option Bool):Option Int:=
  slices_IndexFunc_api_Val_api_Val.W1 fu p1 x1 0
def slices_ContainsFunc_api_Val_api_Val(fu:Nat)(x1:List T_Val)(p1:T_Val→Option Bool):Option Bool:=
  (slices_IndexFunc_api_Val_api_Val fu x1 p1).bind λx2=>some (decide (0<=x2))
def slices_Equal_int.L1(fu:Nat)(x1:List Int)(x2:List Int)(nx1:Int→Option Bool)(x5:Int):Option Bool:=
  if x5<(x1.length:Int)then((at? x1 x5).bind λx8=>(at? x2 x5).bind λx9=>if x8=x9 then(nx1 (wk .i64 (x5+1)))else some false)else some true
def slices_Equal_int.W1(fu:Nat)(x1:List Int)(x2:List Int)(x5:Int):Option Bool:=
  cloop (λnext s=>slices_Equal_int.L1 fu x1 x2 next s) fu x5
def slices_Equal_int(fu:Nat)(x1:List Int)(x2:List Int):Option Bool:=
  if(x1.length:Int)=(x2.length:Int)then(slices_Equal_int.W1 fu x1 x2 0)else some false
def infer_held(fu:Nat)(x1:T_Val):Option Bool:=
  if x1.fConst=true then((tens_Check fu x1.fT).bind λx2=>if x2=0 then(if x1.fT.fType=x1.fType then((slices_Equal_int fu x1.fT.fDims x1.fDims).bind λx3=>some x3)else some false)else some false)else some false
def infer_ask_told_1(fu:Nat)(x1:T_Val):Option Bool:=
  (infer_held fu x1).bind λx2=>some (!x2)
def infer_ask_told_2(fu:Nat)(x1:T_Val):Option Bool:=
  some (!(decide ((x1.fDims.length:Int)=1)))
def slices_IndexFunc_int64.L1(fu:Nat)(p1:Int→Option Bool)(x1:List Int)(nx1:Int→Option Int)(x4:Int):Option Int:=
  if x4<(x1.length:Int)then((at? x1 x4).bind λx7=>(p1 x7).bind λx8=>if x8=true then(some x4)else nx1 (wk .i64 (x4+1)))else some (-1)
def slices_IndexFunc_int64.W1(fu:Nat)(p1:Int→Option Bool)(x1:List Int)(x4:Int):Option Int:=
  cloop (λnext s=>slices_IndexFunc_int64.L1 fu p1 x1 next s) fu x4
def slices_IndexFunc_int64(fu:Nat)(x1:List Int)(p1:Int→Option Bool):Option Int:=
  slices_IndexFunc_int64.W1 fu p1 x1 0
def slices_ContainsFunc_int64(fu:Nat)(x1:List Int)(p1:Int→Option Bool):Option Bool:=
  (slices_IndexFunc_int64 fu x1 p1).bind λx2=>some (decide (0<=x2))
def infer_ask_told_3_1(fu:Nat)(x1:Int):Option Bool:=
  some (decide (4096<x1))
def infer_ask_told_3(fu:Nat)(x1:T_Val):Option Bool:=
  (slices_ContainsFunc_int64 fu x1.fT.fI (λy0=>infer_ask_told_3_1 fu y0)).bind λx2=>some x2
def infer_ask_told(fu:Nat)(x1:T_infer_ask):Option Int:=
  (infer_ask_lists fu x1).bind λx2=>(slices_ContainsFunc_api_Val_api_Val fu x2 (λy0=>infer_ask_told_1 fu y0)).bind λx3=>if x3=true then(some 15)else(slices_ContainsFunc_api_Val_api_Val fu x2 (λy0=>infer_ask_told_2 fu y0)).bind λx4=>if x4=true then(some 3)else if x1.fop=49 then(none)else(slices_ContainsFunc_api_Val_api_Val fu x2 (λy0=>infer_ask_told_3 fu y0)).bind λx5=>if x5=true then(some 4)else some 0
def infer_ask_wrong.k1(fu:Nat)(x1:T_infer_ask):Option Int:=
  (infer_ask_typed fu x1).bind λx2=>if x2=true then((infer_ask_attributes fu x1).bind λx3=>if x3=true then((infer_ask_told fu x1).bind λx4=>some x4)else some 14)else some 5
def infer_ask_wrong.L1(fu:Nat)(x1:T_infer_ask)(nx1:Int→Option Int)(x8:Int):Option Int:=
  if x8<(x1.fin.length:Int)then((at? x1.fin x8).bind λx12=>(shape_Size fu x12.fDims).bind λx13=>(infer_ask_has fu x1 x8).bind λx14=>if x14=true then(if x13.2=0 then(nx1 (wk .i64 (x8+1)))else some 4)else nx1 (wk .i64 (x8+1)))else infer_ask_wrong.k1 fu x1
def infer_ask_wrong.W1(fu:Nat)(x1:T_infer_ask)(x8:Int):Option Int:=
  cloop (λnext s=>infer_ask_wrong.L1 fu x1 next s) fu x8
def infer_ask_wrong(fu:Nat)(x1:T_infer_ask):Option Int:=
  jn 1 () (λ(t:Unit)=>infer_ask_wrong.k1 fu x1)<|infer_ask_wrong.W1 fu x1 0
def shape_Broadcast.k3(fu:Nat)(x7:List Int):Option ((List Int)×Int):=
  (shape_Size fu x7).bind λx8=>if x8.2=0 then(some (x7,0))else some ([],x8.2)
def shape_Broadcast.L1(fu:Nat)(x4:List Int)(x5:List Int)(nx1:(List Int)→Int→Option ((List Int)×Int))(x11:List Int)(x12:Int):Option ((List Int)×Int):=
  if x12<(x5.length:Int)then((at? x5 x12).bind λx15=>(at? x11 (wk .i64 ((wk .i64 ((x4.length:Int) - (x5.length:Int)))+x12))).bind λx16=>if x16=1 then(chk (0<=wk .i64 ((wk .i64 ((x4.length:Int) - (x5.length:Int)))+x12)/\wk .i64 ((wk .i64 ((x4.length:Int) - (x5.length:Int)))+x12)<(x11.length:Int))<|nx1 (x11.set (wk .i64 ((wk .i64 ((x4.length:Int) - (x5.length:Int)))+x12)).toNat x15) (wk .i64 (x12+1)))else if x15=1 then(nx1 x11 (wk .i64 (x12+1)))else if x15=x16 then(nx1 x11 (wk .i64 (x12+1)))else some ([],3))else shape_Broadcast.k3 fu x11
def shape_Broadcast.W1(fu:Nat)(x4:List Int)(x5:List Int)(x11:List Int)(x12:Int):Option ((List Int)×Int):=
  cloop (λnext s=>shape_Broadcast.L1 fu x4 x5 (λx11 x12=>next (x11,x12)) s.1 s.2) fu (x11,x12)
def shape_Broadcast.k2(fu:Nat)(x4:List Int)(x5:List Int):Option ((List Int)×Int):=
  (slices_Clone_int fu x4).bind λx6=>jn 3 () (λ(t:List Int)=>shape_Broadcast.k3 fu t)<|shape_Broadcast.W1 fu x4 x5 x6 0
def shape_Broadcast.k1(fu:Nat)(x1:List Int)(x2:List Int)(x3:List (List Int)):Option ((List Int)×Int):=
  jn 2 () (λ(t:(List Int)×(List Int))=>shape_Broadcast.k2 fu t.1 t.2)<|if(x1.length:Int)<(x2.length:Int)then(shape_Broadcast.k2 fu x2 x1)else shape_Broadcast.k2 fu x1 x2
def shape_Broadcast.L2(fu:Nat)(x1:List Int)(x2:List Int)(nx2:(List (List Int))→Int→Option ((List Int)×Int))(x19:List (List Int))(x20:Int):Option ((List Int)×Int):=
  if x20<2 then((at? x19 x20).bind λx23=>(shape_Size fu x23).bind λx24=>if x24.2=0 then(nx2 x19 (wk .i64 (x20+1)))else some ([],x24.2))else shape_Broadcast.k1 fu x1 x2 x19
def shape_Broadcast.W2(fu:Nat)(x1:List Int)(x2:List Int)(x19:List (List Int))(x20:Int):Option ((List Int)×Int):=
  cloop (λnext s=>shape_Broadcast.L2 fu x1 x2 (λx19 x20=>next (x19,x20)) s.1 s.2) fu (x19,x20)
def shape_Broadcast(fu:Nat)(x1:List Int)(x2:List Int):Option ((List Int)×Int):=
  jn 1 () (λ(t:List (List Int))=>shape_Broadcast.k1 fu x1 x2 t)<|shape_Broadcast.W2 fu x1 x2 ([x1,x2]) 0
def infer_one(fu:Nat)(x1:List Int):Option ((List (List Int))×Int):=
  some ([x1],0)
def infer_ask_together.k1(fu:Nat)(x3:List Int):Option ((List (List Int))×Int):=
  (infer_one fu x3).bind λx4=>some (x4.1,x4.2)
def infer_ask_together.L1(fu:Nat)(x1:T_infer_ask)(nx1:(List Int)→Int→Option ((List (List Int))×Int))(x7:List Int)(x8:Int):Option ((List (List Int))×Int):=
  if x8<(x1.fin.length:Int)then((infer_ask_dims fu x1 x8).bind λx11=>(shape_Broadcast fu x7 x11).bind λx12=>if x12.2=0 then(nx1 x12.1 (wk .i64 (x8+1)))else some ([],x12.2))else infer_ask_together.k1 fu x7
def infer_ask_together.W1(fu:Nat)(x1:T_infer_ask)(x7:List Int)(x8:Int):Option ((List (List Int))×Int):=
  cloop (λnext s=>infer_ask_together.L1 fu x1 (λx7 x8=>next (x7,x8)) s.1 s.2) fu (x7,x8)
def infer_ask_together(fu:Nat)(x1:T_infer_ask):Option ((List (List Int))×Int):=
  (infer_ask_dims fu x1 0).bind λx2=>jn 1 () (λ(t:List Int)=>infer_ask_together.k1 fu t)<|infer_ask_together.W1 fu x1 x2 1
def infer_within(fu:Nat)(x1:List Int)(x2:List Int):Option Int:=
  (shape_Broadcast fu x1 x2).bind λx3=>if x3.2=4 then(some x3.2)else if x3.2=0 then((slices_Equal_int fu x3.1 x2).bind λx4=>if x4=true then(some 0)else some 3)else some 3
def infer_ask_shapes.k1(fu:Nat)(x2:List Int):Option ((List (List Int))×Int):=
  (infer_one fu x2).bind λx3=>some (x3.1,x3.2)
def infer_ask_shapes.k4(fu:Nat)(x1:T_infer_ask)(x2:List Int):Option ((List (List Int))×Int):=
  if x1.fop=71 then(none)else if x1.fop=73 then(none)else if x1.fop=74 then(none)else if x1.fop=75 then(none)else if x1.fop=76 then(none)else if x1.fop=77 then(none)else if x1.fop=78 then(none)else if x1.fop=79 then(none)else if x1.fop=80 then(none)else infer_ask_shapes.k1 fu x2
def infer_ask_shapes.k3(fu:Nat)(x1:T_infer_ask)(x2:List Int):Option ((List (List Int))×Int):=
  if x1.fop=64 then(none)else jn 4 x1 (λ(t:Unit)=>infer_ask_shapes.k4 fu x1 x2)<|if x1.fop=65 then(none)else if x1.fop=66 then(none)else if x1.fop=67 then(none)else if x1.fop=68 then(none)else if x1.fop=69 then(none)else if x1.fop=70 then(none)else infer_ask_shapes.k4 fu x1 x2
def infer_ask_shapes.k2(fu:Nat)(x1:T_infer_ask)(x2:List Int)(x4:Bool):Option ((List (List Int))×Int):=
  if x4=true then((infer_ask_together fu x1).bind λx5=>some (x5.1,x5.2))else if x1.fop=36 then((infer_ask_dims fu x1 1).bind λx6=>(infer_within fu x6 x2).bind λx7=>if x7=0 then(infer_ask_shapes.k1 fu x2)else some ([],x7))else if x1.fop=43 then(none)else jn 3 x1 (λ(t:Unit)=>infer_ask_shapes.k3 fu x1 x2)<|if x1.fop=45 then(none)else if x1.fop=46 then(none)else if x1.fop=47 then(none)else if x1.fop=48 then(none)else if x1.fop=49 then(none)else if x1.fop=50 then(none)else if x1.fop=51 then(none)else if x1.fop=52 then(none)else if x1.fop=53 then(none)else if x1.fop=54 then(none)else if x1.fop=55 then(none)else if x1.fop=56 then(none)else if x1.fop=57 then(none)else if x1.fop=58 then(none)else if x1.fop=59 then(none)else if x1.fop=60 then(none)else if x1.fop=62 then(none)else if x1.fop=63 then(none)else infer_ask_shapes.k3 fu x1 x2
def infer_ask_shapes(fu:Nat)(x1:T_infer_ask):Option ((List (List Int))×Int):=
  (infer_ask_dims fu x1 0).bind λx2=>jn 1 () (λ(t:Unit)=>infer_ask_shapes.k1 fu x2)<|jn 2 () (λ(t:Bool)=>infer_ask_shapes.k2 fu x1 x2 t)<|if x1.fop=23 then(infer_ask_shapes.k2 fu x1 x2 true)else if x1.fop=24 then(infer_ask_shapes.k2 fu x1 x2 true)else if x1.fop=25 then(infer_ask_shapes.k2 fu x1 x2 true)else if x1.fop=28 then(infer_ask_shapes.k2 fu x1 x2 true)else if x1.fop=29 then(infer_ask_shapes.k2 fu x1 x2 true)else if x1.fop=30 then(infer_ask_shapes.k2 fu x1 x2 true)else if x1.fop=31 then(infer_ask_shapes.k2 fu x1 x2 true)else if x1.fop=32 then(infer_ask_shapes.k2 fu x1 x2 true)else if x1.fop=33 then(infer_ask_shapes.k2 fu x1 x2 true)else if x1.fop=34 then(infer_ask_shapes.k2 fu x1 x2 true)else if x1.fop=35 then(infer_ask_shapes.k2 fu x1 x2 true)else if x1.fop=37 then(infer_ask_shapes.k2 fu x1 x2 true)else if x1.fop=38 then(infer_ask_shapes.k2 fu x1 x2 true)else if x1.fop=39 then(infer_ask_shapes.k2 fu x1 x2 true)else if x1.fop=40 then(infer_ask_shapes.k2 fu x1 x2 true)else if x1.fop=41 then(infer_ask_shapes.k2 fu x1 x2 true)else infer_ask_shapes.k2 fu x1 x2 (decide (x1.fop=42))
def infer_ask_out.k1(fu:Nat)(x1:T_infer_ask):Option Int:=
  (infer_ask_val fu x1 0).bind λx2=>some x2.fType
def infer_ask_out.k3(fu:Nat)(x1:T_infer_ask):Option Int:=
  if x1.fop=71 then(none)else if x1.fop=44 then(none)else if x1.fop=62 then(none)else if x1.fop=42 then(none)else infer_ask_out.k1 fu x1
def infer_ask_out.k2(fu:Nat)(x1:T_infer_ask)(x3:Bool):Option Int:=
  if x3=true then(some 9)else jn 3 x1 (λ(t:Unit)=>infer_ask_out.k3 fu x1)<|if x1.fop=59 then(none)else if x1.fop=60 then(none)else if x1.fop=70 then(none)else infer_ask_out.k3 fu x1
def infer_ask_out(fu:Nat)(x1:T_infer_ask):Option Int:=
  jn 1 () (λ(t:Unit)=>infer_ask_out.k1 fu x1)<|jn 2 () (λ(t:Bool)=>infer_ask_out.k2 fu x1 t)<|if x1.fop=22 then(none)else if x1.fop=23 then(infer_ask_out.k2 fu x1 true)else if x1.fop=24 then(infer_ask_out.k2 fu x1 true)else if x1.fop=25 then(infer_ask_out.k2 fu x1 true)else if x1.fop=26 then(none)else if x1.fop=27 then(none)else if x1.fop=37 then(infer_ask_out.k2 fu x1 true)else if x1.fop=38 then(infer_ask_out.k2 fu x1 true)else if x1.fop=39 then(infer_ask_out.k2 fu x1 true)else if x1.fop=40 then(infer_ask_out.k2 fu x1 true)else infer_ask_out.k2 fu x1 (decide (x1.fop=41))
def infer_Node.L1(fu:Nat)(x1:Int)(x2:T_Setting)(x3:List T_Val)(x4:Int)(x7:(List (List Int))×Int)(nx1:(List T_Val)→Int→Option ((List T_Val)×Int))(x12:List T_Val)(x13:Int):Option ((List T_Val)×Int):=
  if x13<(x7.1.length:Int)then((at? x7.1 x13).bind λx18=>(shape_Size fu x18).bind λx19=>if x19.2=0 then((infer_ask_out fu (T_infer_ask.mk x1 x2 x3 x4)).bind λx20=>(slices_Clone_int fu x18).bind λx21=>chk ((x12.length+1:Int)*144<=140737488355328)<|nx1 (x12++([T_Val.mk x20 x21 false (T_Tensor.mk 0 ([]) ([]) ([]) ([]))])) (wk .i64 (x13+1)))else some ([],4))else some (x12,0)
def infer_Node.W1(fu:Nat)(x1:Int)(x2:T_Setting)(x3:List T_Val)(x4:Int)(x7:(List (List Int))×Int)(x12:List T_Val)(x13:Int):Option ((List T_Val)×Int):=
  cloop (λnext s=>infer_Node.L1 fu x1 x2 x3 x4 x7 (λx12 x13=>next (x12,x13)) s.1 s.2) fu (x12,x13)
def infer_Node(fu:Nat)(x1:Int)(x2:T_Setting)(x3:List T_Val)(x4:Int):Option ((List T_Val)×Int):=
  (infer_ask_complete fu (T_infer_ask.mk x1 x2 x3 x4)).bind λx5=>if x5=true then((infer_ask_wrong fu (T_infer_ask.mk x1 x2 x3 x4)).bind λx6=>if x6=0 then((infer_ask_shapes fu (T_infer_ask.mk x1 x2 x3 x4)).bind λx7=>if x7.2=0 then(infer_Node.W1 fu x1 x2 x3 x4 x7 ([]:List T_Val) 0)else some ([],x7.2))else some ([],x6))else some ([],1)
def tens_New(fu:Nat)(x1:Int)(x2:List Int):Option (T_Tensor×Int):=
  (tens_known fu x1).bind λx3=>if x3=true then((shape_Size fu x2).bind λx4=>if x4.2=0 then((slices_Clone_int fu x2).bind λx5=>if x1=1 then(chk (0<=x4.1/\x4.1*4<=140737488355328)<|some (T_Tensor.mk x1 x5 (List.replicate x4.1.toNat (0:Int)) ([]) ([]),0))else if x1=7 then(chk (0<=x4.1/\x4.1*8<=140737488355328)<|some (T_Tensor.mk x1 x5 ([]) (List.replicate x4.1.toNat (0:Int)) ([]),0))else chk (0<=x4.1/\x4.1*1<=140737488355328)<|some (T_Tensor.mk x1 x5 ([]) ([]) (List.replicate x4.1.toNat (false:Bool)),0))else some (T_Tensor.mk 0 ([]) ([]) ([]) ([]),x4.2))else some (T_Tensor.mk 0 ([]) ([]) ([]) ([]),5)
def shape_strides.L1(fu:Nat)(x1:List Int)(nx1:(List Int)→Int→Int→Option (List Int))(x3:List Int)(x4:Int)(x5:Int):Option (List Int):=
  if 0<=x5 then(chk (0<=x5/\x5<(x3.length:Int))<|(at? x1 x5).bind λx7=>nx1 (x3.set x5.toNat x4) (wk .i64 (x4*x7)) (wk .i64 (x5 - 1)))else some x3
def shape_strides.W1(fu:Nat)(x1:List Int)(x3:List Int)(x4:Int)(x5:Int):Option (List Int):=
  cloop (λnext s=>shape_strides.L1 fu x1 (λx3 x4 x5=>next (x3,x4,x5)) s.1 s.2.1 s.2.2) fu (x3,x4,x5)
def shape_strides(fu:Nat)(x1:List Int):Option (List Int):=
  chk (0<=(x1.length:Int)/\(x1.length:Int)*8<=140737488355328)<|shape_strides.W1 fu x1 (List.replicate (x1.length:Int).toNat (0:Int)) 1 (wk .i64 ((x1.length:Int) - 1))
def shape_Index.L1(fu:Nat)(x4:List Int)(nx1:(List Int)→Int→Int→Option ((List Int)×Int))(x6:List Int)(x7:Int)(x8:Int):Option ((List Int)×Int):=
  if x8<(x4.length:Int)then((at? x4 x8).bind λx10=>chk (x10≠0)<|chk (0<=x8/\x8<(x6.length:Int))<|nx1 (x6.set x8.toNat (wk .i64 (Int.tdiv x7 x10))) (Int.tmod x7 x10) (wk .i64 (x8+1)))else some (x6,0)
def shape_Index.W1(fu:Nat)(x4:List Int)(x6:List Int)(x7:Int)(x8:Int):Option ((List Int)×Int):=
  cloop (λnext s=>shape_Index.L1 fu x4 (λx6 x7 x8=>next (x6,x7,x8)) s.1 s.2.1 s.2.2) fu (x6,x7,x8)
def shape_Index.k1(fu:Nat)(x1:List Int)(x2:Int):Option ((List Int)×Int):=
  chk (0<=(x1.length:Int)/\(x1.length:Int)*8<=140737488355328)<|(shape_strides fu x1).bind λx4=>shape_Index.W1 fu x4 (List.replicate (x1.length:Int).toNat (0:Int)) x2 0
def shape_Index(fu:Nat)(x1:List Int)(x2:Int):Option ((List Int)×Int):=
  (shape_Size fu x1).bind λx3=>if x3.2=0 then(jn 1 () (λ(t:Unit)=>shape_Index.k1 fu x1 x2)<|if x2<0 then(some ([],2))else if x3.1<=x2 then(some ([],2))else shape_Index.k1 fu x1 x2)else some ([],x3.2)
def shape_From.L1(fu:Nat)(x1:List Int)(x2:List Int)(x7:(List Int)×Int)(x8:List Int)(nx1:Int→Int→Option (Int×Int))(x12:Int)(x13:Int):Option (Int×Int):=
  if x13<(x8.length:Int)then((at? x8 x13).bind λx17=>(at? x1 x13).bind λx18=>if x18=1 then(nx1 x12 (wk .i64 (x13+1)))else(at? (subN x7.1 (wk .i64 ((x2.length:Int) - (x1.length:Int))).toNat x7.1.length) x13).bind λx19=>nx1 (wk .i64 (x12+(wk .i64 (x19*x17)))) (wk .i64 (x13+1)))else some (x12,0)
def shape_From.W1(fu:Nat)(x1:List Int)(x2:List Int)(x7:(List Int)×Int)(x8:List Int)(x12:Int)(x13:Int):Option (Int×Int):=
  cloop (λnext s=>shape_From.L1 fu x1 x2 x7 x8 (λx12 x13=>next (x12,x13)) s.1 s.2) fu (x12,x13)
def shape_From.k1(fu:Nat)(x1:List Int)(x2:List Int)(x3:Int):Option (Int×Int):=
  (shape_Index fu x2 x3).bind λx7=>if x7.2=0 then(chk (0<=wk .i64 ((x2.length:Int) - (x1.length:Int))/\wk .i64 ((x2.length:Int) - (x1.length:Int))<=(x7.1.length:Int))<|(shape_strides fu x1).bind λx8=>shape_From.W1 fu x1 x2 x7 x8 0 0)else some (0,x7.2)
def shape_From(fu:Nat)(x1:List Int)(x2:List Int)(x3:Int):Option (Int×Int):=
  (shape_Size fu x1).bind λx4=>if x4.2=0 then((shape_Size fu x2).bind λx5=>if x5.2=0 then((shape_Broadcast fu x1 x2).bind λx6=>jn 1 () (λ(t:Unit)=>shape_From.k1 fu x1 x2 x3)<|if x6.2=0 then((slices_Equal_int fu x6.1 x2).bind λx20=>if x20=true then(shape_From.k1 fu x1 x2 x3)else some (0,3))else some (0,3))else some (0,x5.2))else some (0,x4.2)
def ewise_work_place(fu:Nat)(x1:T_ewise_work)(x2:Int)(x3:Int):Option Int:=
  (at? x1.fin x2).bind λx4=>(shape_From fu x4.fDims x1.fout.fDims x3).bind λx5=>some x5.1
def ewise_work_divides.L1(fu:Nat)(x1:T_ewise_work)(nx1:Int→Option Bool)(x5:Int):Option Bool:=
  if x5<x1.fsize then((at? x1.fin 1).bind λx9=>(ewise_work_place fu x1 1 x5).bind λx10=>(at? x9.fI x10).bind λx11=>if x11=0 then(some true)else nx1 (wk .i64 (x5+1)))else some false
def ewise_work_divides.W1(fu:Nat)(x1:T_ewise_work)(x5:Int):Option Bool:=
  cloop (λnext s=>ewise_work_divides.L1 fu x1 next s) fu x5
def ewise_work_divides.k1(fu:Nat)(x1:T_ewise_work):Option Bool:=
  ewise_work_divides.W1 fu x1 0
def ewise_work_divides(fu:Nat)(x1:T_ewise_work):Option Bool:=
  jn 1 () (λ(t:Unit)=>ewise_work_divides.k1 fu x1)<|if x1.fop=31 then((at? x1.fin 0).bind λx12=>if x12.fType=7 then(ewise_work_divides.k1 fu x1)else some false)else if x1.fop=32 then((at? x1.fin 0).bind λx13=>if x13.fType=7 then(ewise_work_divides.k1 fu x1)else some false)else some false
def ewise_first_1(fu:Nat)(x1:Int)(x2:Int)(p2:Int→Option Int):Option Int:=
  (p2 x1).bind λx4=>some x4
def ewise_curveOf_1(fu:Nat)(x1:Int):Option Int:=
  some x1
def soft_open(fu:Nat)(x1:Int):Option T_soft_number:=
  if(wk .i64 (band .u32 (shrk .u32 x1 23) 255))=255 then(some (T_soft_number.mk (decide ((shrk .u32 x1 31)=1)) (!(decide ((wk .u64 (band .u32 x1 8388607))=0))) (decide ((wk .u64 (band .u32 x1 8388607))=0)) 0 0))else if(wk .i64 (band .u32 (shrk .u32 x1 23) 255))=0 then(some (T_soft_number.mk (decide ((shrk .u32 x1 31)=1)) false false (-149) (wk .u64 (band .u32 x1 8388607))))else some (T_soft_number.mk (decide ((shrk .u32 x1 31)=1)) false false (wk .i64 ((wk .i64 (band .u32 (shrk .u32 x1 23) 255)) - 150)) (bor .u64 (wk .u64 (band .u32 x1 8388607)) 8388608))
def soft_sign(fu:Nat)(x1:Bool):Option Int:=
  if x1=true then(some 2147483648)else some 0
def soft_nought(fu:Nat)(x1:Int):Option Int:=
  chk (x1=0)<|(soft_sign fu (decide ((0:Int)=2))).bind λx2=>some x2
def math_bits_Len64.k2(fu:Nat)(x4:Int)(x5:Int):Option Int:=
  if 256<=x4 then((sat? (⟨((([0,1,2,2,3,3,3,3,4,4,4,4,4,4,4,4,5,5,5,5,5,5,5,5,5,5,5,5,5,5,5,5,6,6,6,6,6,6,6,6,6,6,6,6,6,6,6,6,6,6,6,6,6,6,6,6,6,6,6,6,6,6,6,6]).append ([7,7,7,7,7,7,7,7,7,7,7,7,7,7,7,7,7,7,7,7,7,7,7,7,7,7,7,7,7,7,7,7,7,7,7,7,7,7,7,7,7,7,7,7,7,7,7,7,7,7,7,7,7,7,7,7,7,7,7,7,7,7,7,7])).append (([8,8,8,8,8,8,8,8,8,8,8,8,8,8,8,8,8,8,8,8,8,8,8,8,8,8,8,8,8,8,8,8,8,8,8,8,8,8,8,8,8,8,8,8,8,8,8,8,8,8,8,8,8,8,8,8,8,8,8,8,8,8,8,8]).append ([8,8,8,8,8,8,8,8,8,8,8,8,8,8,8,8,8,8,8,8,8,8,8,8,8,8,8,8,8,8,8,8,8,8,8,8,8,8,8,8,8,8,8,8,8,8,8,8,8,8,8,8,8,8,8,8,8,8,8,8,8,8,8,8]))).toArray⟩:ByteArray) (wk .u8 (shrk .u64 x4 8))).bind λx6=>some (wk .i64 ((wk .i64 (x5+8))+(wk .i64 x6))))else(sat? (⟨((([0,1,2,2,3,3,3,3,4,4,4,4,4,4,4,4,5,5,5,5,5,5,5,5,5,5,5,5,5,5,5,5,6,6,6,6,6,6,6,6,6,6,6,6,6,6,6,6,6,6,6,6,6,6,6,6,6,6,6,6,6,6,6,6]).append ([7,7,7,7,7,7,7,7,7,7,7,7,7,7,7,7,7,7,7,7,7,7,7,7,7,7,7,7,7,7,7,7,7,7,7,7,7,7,7,7,7,7,7,7,7,7,7,7,7,7,7,7,7,7,7,7,7,7,7,7,7,7,7,7])).append (([8,8,8,8,8,8,8,8,8,8,8,8,8,8,8,8,8,8,8,8,8,8,8,8,8,8,8,8,8,8,8,8,8,8,8,8,8,8,8,8,8,8,8,8,8,8,8,8,8,8,8,8,8,8,8,8,8,8,8,8,8,8,8,8]).append ([8,8,8,8,8,8,8,8,8,8,8,8,8,8,8,8,8,8,8,8,8,8,8,8,8,8,8,8,8,8,8,8,8,8,8,8,8,8,8,8,8,8,8,8,8,8,8,8,8,8,8,8,8,8,8,8,8,8,8,8,8,8,8,8]))).toArray⟩:ByteArray) (wk .u8 x4)).bind λx7=>some (wk .i64 (x5+(wk .i64 x7)))
def math_bits_Len64.k1(fu:Nat)(x2:Int)(x3:Int):Option Int:=
  jn 2 () (λ(t:Int×Int)=>math_bits_Len64.k2 fu t.1 t.2)<|if 65536<=x2 then(math_bits_Len64.k2 fu (shrk .u64 x2 16) (wk .i64 (x3+16)))else math_bits_Len64.k2 fu x2 x3
def math_bits_Len64(fu:Nat)(x1:Int):Option Int:=
  jn 1 () (λ(t:Int×Int)=>math_bits_Len64.k1 fu t.1 t.2)<|if 4294967296<=x1 then(math_bits_Len64.k1 fu (shrk .u64 x1 32) 32)else math_bits_Len64.k1 fu x1 0
def soft_outwards(fu:Nat)(x1:Int)(x2:Bool):Option Bool:=
  chk (x1=0)<|some false
def soft_tiny(fu:Nat)(x1:Int)(x2:Bool):Option Int:=
  chk (x1=0)<|(soft_outwards fu 0 x2).bind λx3=>if x3=true then((soft_sign fu x2).bind λx4=>some (bor .u32 x4 1))else(soft_sign fu x2).bind λx5=>some x5
def soft_huge.k1(fu:Nat)(x2:Bool):Option Int:=
  (soft_sign fu x2).bind λx3=>some (bor .u32 x3 2139095040)
def soft_huge(fu:Nat)(x1:Int)(x2:Bool):Option Int:=
  chk (x1=0)<|jn 1 () (λ(t:Unit)=>soft_huge.k1 fu x2)<|soft_huge.k1 fu x2
def soft_Round.k3(fu:Nat)(x2:Bool)(x3:Int)(x6:Int)(x11:Int):Option Int:=
  if x11=0 then((soft_sign fu x2).bind λx12=>some x12)else if 104<(wk .i64 (x3+(imax (wk .i64 (x6 - 24)) (wk .i64 ((-149) - x3)))))then((soft_huge fu 0 x2).bind λx13=>some x13)else if 2139095040<=(wk .u64 ((shlk .u64 (wk .u64 (wk .i64 ((wk .i64 (x3+(imax (wk .i64 (x6 - 24)) (wk .i64 ((-149) - x3)))))+149))) 23)+x11))then((soft_huge fu 0 x2).bind λx14=>some x14)else(soft_sign fu x2).bind λx15=>some (bor .u32 x15 (wk .u32 (wk .u64 ((shlk .u64 (wk .u64 (wk .i64 ((wk .i64 (x3+(imax (wk .i64 (x6 - 24)) (wk .i64 ((-149) - x3)))))+149))) 23)+x11))))
def soft_Round.k2(fu:Nat)(x2:Bool)(x3:Int)(x6:Int)(x7:Int)(x8:Bool)(x9:Bool)(x10:Bool):Option Int:=
  jn 3 () (λ(t:Int)=>soft_Round.k3 fu x2 x3 x6 t)<|if x8=true then(soft_Round.k3 fu x2 x3 x6 (wk .u64 (x7+1)))else if x9=true then(if(band .u64 x7 1)=1 then(soft_Round.k3 fu x2 x3 x6 (wk .u64 (x7+1)))else soft_Round.k3 fu x2 x3 x6 x7)else soft_Round.k3 fu x2 x3 x6 x7
def soft_Round.k4(fu:Nat)(x2:Bool)(x3:Int)(x4:Int)(x5:Bool)(x6:Int)(x16:Bool):Option Int:=
  if(band .u64 x4 (wk .u64 ((shlk .u64 1 (imax (wk .i64 (x6 - 24)) (wk .i64 ((-149) - x3)))) - 1)))=(shlk .u64 1 (wk .i64 ((imax (wk .i64 (x6 - 24)) (wk .i64 ((-149) - x3))) - 1)))then(if(band .u64 x4 (wk .u64 ((shlk .u64 1 (imax (wk .i64 (x6 - 24)) (wk .i64 ((-149) - x3)))) - 1)))=0 then(soft_Round.k2 fu x2 x3 x6 (shrk .u64 x4 (imax (wk .i64 (x6 - 24)) (wk .i64 ((-149) - x3)))) x16 (!x5) x5)else soft_Round.k2 fu x2 x3 x6 (shrk .u64 x4 (imax (wk .i64 (x6 - 24)) (wk .i64 ((-149) - x3)))) x16 (!x5) true)else if(band .u64 x4 (wk .u64 ((shlk .u64 1 (imax (wk .i64 (x6 - 24)) (wk .i64 ((-149) - x3)))) - 1)))=0 then(soft_Round.k2 fu x2 x3 x6 (shrk .u64 x4 (imax (wk .i64 (x6 - 24)) (wk .i64 ((-149) - x3)))) x16 false x5)else soft_Round.k2 fu x2 x3 x6 (shrk .u64 x4 (imax (wk .i64 (x6 - 24)) (wk .i64 ((-149) - x3)))) x16 false true
def soft_Round.k1(fu:Nat)(x2:Bool)(x3:Int)(x4:Int)(x5:Bool)(x6:Int):Option Int:=
  jn 2 () (λ(t:Int×Bool×Bool×Bool)=>soft_Round.k2 fu x2 x3 x6 t.1 t.2.1 t.2.2.1 t.2.2.2)<|if(imax (wk .i64 (x6 - 24)) (wk .i64 ((-149) - x3)))<=0 then(chk (0<=(wk .i64 (0 - (imax (wk .i64 (x6 - 24)) (wk .i64 ((-149) - x3))))))<|soft_Round.k2 fu x2 x3 x6 (shlk .u64 x4 (wk .i64 (0 - (imax (wk .i64 (x6 - 24)) (wk .i64 ((-149) - x3)))))) false false x5)else if x6<(imax (wk .i64 (x6 - 24)) (wk .i64 ((-149) - x3)))then(soft_Round.k2 fu x2 x3 x6 0 false false true)else chk (0<=(imax (wk .i64 (x6 - 24)) (wk .i64 ((-149) - x3))))<|chk (0<=(wk .i64 ((imax (wk .i64 (x6 - 24)) (wk .i64 ((-149) - x3))) - 1)))<|jn 4 () (λ(t:Bool)=>soft_Round.k4 fu x2 x3 x4 x5 x6 t)<|if(shlk .u64 1 (wk .i64 ((imax (wk .i64 (x6 - 24)) (wk .i64 ((-149) - x3))) - 1)))<(band .u64 x4 (wk .u64 ((shlk .u64 1 (imax (wk .i64 (x6 - 24)) (wk .i64 ((-149) - x3)))) - 1)))then(soft_Round.k4 fu x2 x3 x4 x5 x6 true)else if(band .u64 x4 (wk .u64 ((shlk .u64 1 (imax (wk .i64 (x6 - 24)) (wk .i64 ((-149) - x3)))) - 1)))=(shlk .u64 1 (wk .i64 ((imax (wk .i64 (x6 - 24)) (wk .i64 ((-149) - x3))) - 1)))then(soft_Round.k4 fu x2 x3 x4 x5 x6 x5)else soft_Round.k4 fu x2 x3 x4 x5 x6 false
def soft_Round(fu:Nat)(x1:Int)(x2:Bool)(x3:Int)(x4:Int)(x5:Bool):Option Int:=
  chk (x1=0)<|(math_bits_Len64 fu x4).bind λx6=>jn 1 () (λ(t:Unit)=>soft_Round.k1 fu x2 x3 x4 x5 x6)<|if x6=0 then(if x5=true then((soft_tiny fu 0 x2).bind λx17=>some x17)else(soft_sign fu x2).bind λx18=>some x18)else if x3<(-300)then((soft_tiny fu 0 x2).bind λx19=>some x19)else if 200<x3 then((soft_huge fu 0 x2).bind λx20=>some x20)else soft_Round.k1 fu x2 x3 x4 x5 x6
def soft_AddBy.k3(fu:Nat)(x6:Bool)(x9:Bool)(x12:Int)(x13:Int)(x14:Int)(x15:Bool):Option Int:=
  if(x6==x9)=true then((soft_Round fu 0 x6 x12 (wk .u64 (x13+x14)) x15).bind λx16=>some x16)else if x15=true then((soft_Round fu 0 x6 x12 (wk .u64 ((wk .u64 (x13 - x14)) - 1)) true).bind λx17=>some x17)else if x13=x14 then((soft_nought fu 0).bind λx18=>some x18)else if x14<x13 then((soft_Round fu 0 x6 x12 (wk .u64 (x13 - x14)) false).bind λx19=>some x19)else(soft_Round fu 0 x9 x12 (wk .u64 (x14 - x13)) false).bind λx20=>some x20
def soft_AddBy.k2(fu:Nat)(x6:Bool)(x7:Int)(x8:Int)(x9:Bool)(x10:Int)(x11:Int):Option Int:=
  jn 3 () (λ(t:Int×Int×Int×Bool)=>soft_AddBy.k3 fu x6 x9 t.1 t.2.1 t.2.2.1 t.2.2.2)<|if(wk .i64 (x7 - x10))<=38 then(chk (0<=(wk .i64 (x7 - x10)))<|soft_AddBy.k3 fu x6 x9 x10 (shlk .u64 x8 (wk .i64 (x7 - x10))) x11 false)else chk (0<=(wk .i64 ((wk .i64 (x7 - x10)) - 38)))<|soft_AddBy.k3 fu x6 x9 (wk .i64 (x7 - 38)) (shlk .u64 x8 38) (shrk .u64 x11 (wk .i64 ((wk .i64 (x7 - x10)) - 38))) (!(decide ((shlk .u64 (shrk .u64 x11 (wk .i64 ((wk .i64 (x7 - x10)) - 38))) (wk .i64 ((wk .i64 (x7 - x10)) - 38)))=x11)))
def soft_AddBy.k1(fu:Nat)(x4:T_soft_number)(x5:T_soft_number):Option Int:=
  jn 2 () (λ(t:Bool×Int×Int×Bool×Int×Int)=>soft_AddBy.k2 fu t.1 t.2.1 t.2.2.1 t.2.2.2.1 t.2.2.2.2.1 t.2.2.2.2.2)<|if x4.fexp<x5.fexp then(soft_AddBy.k2 fu x5.fneg x5.fexp x5.fsig x4.fneg x4.fexp x4.fsig)else soft_AddBy.k2 fu x4.fneg x4.fexp x4.fsig x5.fneg x5.fexp x5.fsig
def soft_AddBy(fu:Nat)(x1:Int)(x2:Int)(x3:Int):Option Int:=
  chk (x1=0)<|(soft_open fu x2).bind λx4=>(soft_open fu x3).bind λx5=>jn 1 () (λ(t:Unit)=>soft_AddBy.k1 fu x4 x5)<|if x4.fnan=true then(some 2143289344)else if x5.fnan=true then(some 2143289344)else if x4.finf=true then(if x5.finf=true then(if(x4.fneg==x5.fneg)=true then(some x2)else some 2143289344)else some x2)else if x5.finf=true then(some x3)else if x4.fsig=0 then(if x5.fsig=0 then(if x2=x3 then(some x2)else(soft_nought fu 0).bind λx21=>some x21)else soft_AddBy.k1 fu x4 x5)else soft_AddBy.k1 fu x4 x5
def soft_Add(fu:Nat)(x1:Int)(x2:Int):Option Int:=
  (soft_AddBy fu 0 x1 x2).bind λx3=>some x3
def soft_Neg(fu:Nat)(x1:Int):Option Int:=
  some (bxor .u32 x1 2147483648)
def soft_Sub(fu:Nat)(x1:Int)(x2:Int):Option Int:=
  (soft_Neg fu x2).bind λx3=>(soft_AddBy fu 0 x1 x3).bind λx4=>some x4
def soft_MulBy.k1(fu:Nat)(x4:T_soft_number)(x5:T_soft_number):Option Int:=
  (soft_Round fu 0 (!(x4.fneg==x5.fneg)) (wk .i64 (x4.fexp+x5.fexp)) (wk .u64 (x4.fsig*x5.fsig)) false).bind λx6=>some x6
def soft_MulBy(fu:Nat)(x1:Int)(x2:Int)(x3:Int):Option Int:=
  chk (x1=0)<|(soft_open fu x2).bind λx4=>(soft_open fu x3).bind λx5=>jn 1 () (λ(t:Unit)=>soft_MulBy.k1 fu x4 x5)<|if x4.fnan=true then(some 2143289344)else if x5.fnan=true then(some 2143289344)else if x4.finf=true then(if x5.finf=true then((soft_sign fu (!(x4.fneg==x5.fneg))).bind λx7=>some (bor .u32 x7 2139095040))else if x5.fsig=0 then(some 2143289344)else(soft_sign fu (!(x4.fneg==x5.fneg))).bind λx8=>some (bor .u32 x8 2139095040))else if x5.finf=true then(if x4.fsig=0 then(some 2143289344)else(soft_sign fu (!(x4.fneg==x5.fneg))).bind λx9=>some (bor .u32 x9 2139095040))else soft_MulBy.k1 fu x4 x5
def soft_Mul(fu:Nat)(x1:Int)(x2:Int):Option Int:=
  (soft_MulBy fu 0 x1 x2).bind λx3=>some x3
def soft_number_full(fu:Nat)(x1:T_soft_number):Option T_soft_number:=
  (math_bits_Len64 fu x1.fsig).bind λx2=>chk (0<=(wk .i64 (24 - x2)))<|some (T_soft_number.mk x1.fneg x1.fnan x1.finf (wk .i64 (x1.fexp - (wk .i64 (24 - x2)))) (shlk .u64 x1.fsig (wk .i64 (24 - x2))))
def soft_DivBy.k2(fu:Nat)(x4:T_soft_number)(x5:T_soft_number):Option Int:=
  (soft_number_full fu (T_soft_number.mk x4.fneg false false x4.fexp x4.fsig)).bind λx10=>(soft_number_full fu (T_soft_number.mk x5.fneg false false x5.fexp x5.fsig)).bind λx11=>chk (x11.fsig≠0)<|(soft_Round fu 0 (!(x4.fneg==x5.fneg)) (wk .i64 ((wk .i64 (x10.fexp - x11.fexp)) - 38)) (wk .u64 (Int.tdiv (shlk .u64 x10.fsig 38) x11.fsig)) (!(decide ((Int.tmod (shlk .u64 x10.fsig 38) x11.fsig)=0)))).bind λx12=>some x12
def soft_DivBy.k1(fu:Nat)(x4:T_soft_number)(x5:T_soft_number)(x6:Bool)(x7:Bool)(x8:Bool)(x9:Bool):Option Int:=
  jn 2 () (λ(t:Unit)=>soft_DivBy.k2 fu x4 x5)<|if x4.fnan=true then(some 2143289344)else if x5.fnan=true then(some 2143289344)else if x6=true then(if x7=true then(some 2143289344)else if x8=true then(if x9=true then(some 2143289344)else(soft_sign fu (!(x4.fneg==x5.fneg))).bind λx13=>some (bor .u32 x13 2139095040))else(soft_sign fu (!(x4.fneg==x5.fneg))).bind λx14=>some (bor .u32 x14 2139095040))else if x8=true then(if x9=true then(some 2143289344)else if x7=true then((soft_sign fu (!(x4.fneg==x5.fneg))).bind λx15=>some x15)else(soft_sign fu (!(x4.fneg==x5.fneg))).bind λx16=>some x16)else if x9=true then((soft_sign fu (!(x4.fneg==x5.fneg))).bind λx17=>some (bor .u32 x17 2139095040))else if x7=true then((soft_sign fu (!(x4.fneg==x5.fneg))).bind λx18=>some x18)else soft_DivBy.k2 fu x4 x5
def soft_DivBy(fu:Nat)(x1:Int)(x2:Int)(x3:Int):Option Int:=
  chk (x1=0)<|(soft_open fu x2).bind λx4=>(soft_open fu x3).bind λx5=>jn 1 () (λ(t:Bool×Bool×Bool×Bool)=>soft_DivBy.k1 fu x4 x5 t.1 t.2.1 t.2.2.1 t.2.2.2)<|if x4.finf=true then(if x5.finf=true then(soft_DivBy.k1 fu x4 x5 true true false false)else soft_DivBy.k1 fu x4 x5 true false false (decide (x5.fsig=0)))else if x5.finf=true then(soft_DivBy.k1 fu x4 x5 false true (decide (x4.fsig=0)) false)else soft_DivBy.k1 fu x4 x5 false false (decide (x4.fsig=0)) (decide (x5.fsig=0))
def soft_Div(fu:Nat)(x1:Int)(x2:Int):Option Int:=
  (soft_DivBy fu 0 x1 x2).bind λx3=>some x3
def soft_Inf(fu:Nat)(x1:Int):Option Bool:=
  (soft_Abs fu x1).bind λx2=>some (decide (x2=2139095040))
def ewise_parts(fu:Nat)(x1:Int):Option (Int×Int):=
  if(wk .i64 (band .u32 (shrk .u32 x1 23) 255))=0 then(some (wk .u64 (band .u32 x1 8388607),1))else some (bor .u64 (wk .u64 (band .u32 x1 8388607)) 8388608,wk .i64 (band .u32 (shrk .u32 x1 23) 255))
def ewise_rest.k3(fu:Nat)(x1:Int)(x6:Int)(x7:Int):Option Int:=
  (soft_Round fu 0 (!(decide ((band .u32 x1 2147483648)=0))) (wk .i64 (x6 - 150)) x7 false).bind λx8=>some x8
def ewise_rest.L1(fu:Nat)(x1:Int)(x5:Int)(x6:Int)(nx1:Int→Int→Option Int)(x9:Int)(x10:Int):Option Int:=
  if x6<x10 then(nx1 (Int.tmod (wk .u64 (x9*2)) x5) (wk .i64 (x10 - 1)))else ewise_rest.k3 fu x1 x6 x9
def ewise_rest.W1(fu:Nat)(x1:Int)(x5:Int)(x6:Int)(x9:Int)(x10:Int):Option Int:=
  cloop (λnext s=>ewise_rest.L1 fu x1 x5 x6 (λx9 x10=>next (x9,x10)) s.1 s.2) fu (x9,x10)
def ewise_rest.k2(fu:Nat)(x1:Int)(x3:Int×Int)(x5:Int)(x6:Int):Option Int:=
  jn 3 () (λ(t:Int)=>ewise_rest.k3 fu x1 x6 t)<|chk (x5≠0)<|ewise_rest.W1 fu x1 x5 x6 (Int.tmod x3.1 x5) x3.2
def ewise_rest.k1(fu:Nat)(x1:Int)(x2:Int):Option Int:=
  (ewise_parts fu x1).bind λx3=>(ewise_parts fu x2).bind λx4=>jn 2 () (λ(t:Int×Int)=>ewise_rest.k2 fu x1 x3 t.1 t.2)<|if x3.2<x4.2 then(if 40<(wk .i64 (x4.2 - x3.2))then(some x1)else chk (0<=(wk .i64 (x4.2 - x3.2)))<|ewise_rest.k2 fu x1 x3 (shlk .u64 x4.1 (wk .i64 (x4.2 - x3.2))) x3.2)else ewise_rest.k2 fu x1 x3 x4.1 x4.2
def ewise_rest(fu:Nat)(x1:Int)(x2:Int):Option Int:=
  jn 1 () (λ(t:Unit)=>ewise_rest.k1 fu x1 x2)<|(soft_NaN fu x1).bind λx11=>if x11=true then(some 2143289344)else(soft_NaN fu x2).bind λx12=>if x12=true then(some 2143289344)else(soft_Inf fu x1).bind λx13=>if x13=true then(some 2143289344)else(soft_Abs fu x2).bind λx14=>if x14=0 then(some 2143289344)else(soft_Inf fu x2).bind λx15=>if x15=true then(some x1)else ewise_rest.k1 fu x1 x2
def soft_place(fu:Nat)(x1:Int):Option Int:=
  (soft_Abs fu x1).bind λx2=>if(shrk .u32 x1 31)=1 then(some (wk .i64 (0 - (wk .i64 x2))))else some (wk .i64 x2)
def soft_Less(fu:Nat)(x1:Int)(x2:Int):Option Bool:=
  (soft_NaN fu x1).bind λx3=>if x3=true then(some false)else(soft_NaN fu x2).bind λx4=>if x4=true then(some false)else(soft_place fu x1).bind λx5=>(soft_place fu x2).bind λx6=>some (decide (x5<x6))
def round_open(fu:Nat)(x1:Int):Option T_round_number:=
  if(wk .i64 (band .u32 (shrk .u32 x1 23) 255))=0 then(some (T_round_number.mk (decide ((shrk .u32 x1 31)=1)) (-149) (wk .u64 (band .u32 x1 8388607))))else some (T_round_number.mk (decide ((shrk .u32 x1 31)=1)) (wk .i64 ((wk .i64 (band .u32 (shrk .u32 x1 23) 255)) - 150)) (bor .u64 (wk .u64 (band .u32 x1 8388607)) 8388608))
def round_Even_1(fu:Nat)(x1:Bool)(x2:Int)(x3:Bool):Option Bool:=
  if 0<x2 then(some true)else if x2=0 then(some x3)else some false
def round_Even.k3(fu:Nat)(x3:T_round_number)(x5:Int):Option Int:=
  (soft_Round fu 0 x3.fneg 0 x5 false).bind λx6=>some x6
def round_Even.k2(fu:Nat)(x3:T_round_number)(x4:Int):Option Int:=
  jn 3 () (λ(t:Int)=>round_Even.k3 fu x3 t)<|(round_Even_1 fu x3.fneg x4 (decide ((band .u64 (shrk .u64 x3.fsig (wk .i64 (0 - x3.fexp))) 1)=1))).bind λx7=>if x7=true then(round_Even.k3 fu x3 (wk .u64 ((shrk .u64 x3.fsig (wk .i64 (0 - x3.fexp)))+1)))else round_Even.k3 fu x3 (shrk .u64 x3.fsig (wk .i64 (0 - x3.fexp)))
def round_Even.k1(fu:Nat)(x1:Int)(x3:T_round_number):Option Int:=
  chk (0<=(wk .i64 (0 - x3.fexp)))<|if(wk .u64 (x3.fsig - (shlk .u64 (shrk .u64 x3.fsig (wk .i64 (0 - x3.fexp))) (wk .i64 (0 - x3.fexp)))))=0 then(some x1)else jn 2 () (λ(t:Int)=>round_Even.k2 fu x3 t)<|if(-24)<=x3.fexp then(chk (0<=(wk .i64 ((wk .i64 (0 - x3.fexp)) - 1)))<|if(shlk .u64 1 (wk .i64 ((wk .i64 (0 - x3.fexp)) - 1)))<(wk .u64 (x3.fsig - (shlk .u64 (shrk .u64 x3.fsig (wk .i64 (0 - x3.fexp))) (wk .i64 (0 - x3.fexp)))))then(round_Even.k2 fu x3 1)else if(wk .u64 (x3.fsig - (shlk .u64 (shrk .u64 x3.fsig (wk .i64 (0 - x3.fexp))) (wk .i64 (0 - x3.fexp)))))=(shlk .u64 1 (wk .i64 ((wk .i64 (0 - x3.fexp)) - 1)))then(round_Even.k2 fu x3 0)else round_Even.k2 fu x3 (-1))else round_Even.k2 fu x3 (-1)
def round_Even(fu:Nat)(x1:Int):Option Int:=
  (soft_NaN fu x1).bind λx2=>if x2=true then(some 2143289344)else(round_open fu x1).bind λx3=>jn 1 () (λ(t:Unit)=>round_Even.k1 fu x1 x3)<|(soft_Inf fu x1).bind λx8=>if x8=true then(some x1)else if 0<=x3.fexp then(some x1)else if x3.fsig=0 then(some x1)else round_Even.k1 fu x1 x3
def soft_Equal(fu:Nat)(x1:Int)(x2:Int):Option Bool:=
  (soft_NaN fu x1).bind λx3=>if x3=true then(some false)else(soft_NaN fu x2).bind λx4=>if x4=true then(some false)else(soft_place fu x1).bind λx5=>(soft_place fu x2).bind λx6=>some (decide (x5=x6))
def round_Scale.k1(fu:Nat)(x2:Int)(x4:T_round_number):Option Int:=
  (soft_Round fu 0 x4.fneg (wk .i64 (x4.fexp+(imax (-1000) (imin x2 1000)))) x4.fsig false).bind λx5=>some x5
def round_Scale(fu:Nat)(x1:Int)(x2:Int):Option Int:=
  (soft_NaN fu x1).bind λx3=>if x3=true then(some 2143289344)else(round_open fu x1).bind λx4=>jn 1 () (λ(t:Unit)=>round_Scale.k1 fu x2 x4)<|(soft_Inf fu x1).bind λx6=>if x6=true then(some x1)else if x4.fsig=0 then(some x1)else round_Scale.k1 fu x2 x4
def elem_parts.k1(fu:Nat)(x2:Int)(x3:Int):Option (Int×Int):=
  some (bor .u32 (band .u32 x2 8388607) 1056964608,wk .i64 ((wk .i64 (x3+(wk .i64 (shrk .u32 x2 23)))) - 126))
def elem_parts(fu:Nat)(x1:Int):Option (Int×Int):=
  jn 1 () (λ(t:Int×Int)=>elem_parts.k1 fu t.1 t.2)<|if(shrk .u32 x1 23)=0 then((round_Scale fu x1 24).bind λx4=>elem_parts.k1 fu x4 (-24))else elem_parts.k1 fu x1 0
def round_sign(fu:Nat)(x1:Bool):Option Int:=
  if x1=true then(some 2147483648)else some 0
def round_moved(fu:Nat)(x1:Int)(x2:Int):Option (T_round_wide×Bool):=
  if 64<=x2 then(chk (0<=(wk .i64 (x2 - 64)))<|some (T_round_wide.mk (shlk .u64 x1 (wk .i64 (x2 - 64))) 0,false))else if 0<x2 then(chk (0<=(wk .i64 (64 - x2)))<|chk (0<=x2)<|some (T_round_wide.mk (shrk .u64 x1 (wk .i64 (64 - x2))) (shlk .u64 x1 x2),false))else if x2=0 then(some (T_round_wide.mk 0 x1,false))else if x2<=(-64)then(some (T_round_wide.mk 0 0,!(decide (x1=0))))else chk (0<=(wk .i64 (0 - x2)))<|some (T_round_wide.mk 0 (shrk .u64 x1 (wk .i64 (0 - x2))),!(decide ((shlk .u64 (shrk .u64 x1 (wk .i64 (0 - x2))) (wk .i64 (0 - x2)))=x1)))
def round_wide_plus(fu:Nat)(x1:T_round_wide)(x2:T_round_wide):Option T_round_wide:=
  chk (0<=x1.flow/\0<=x2.flow/\0<=(0:Int)/\(0:Int)<=1)<|chk (0<=x1.fhigh/\0<=x2.fhigh/\0<=((x1.flow+x2.flow+0) / 18446744073709551616)/\((x1.flow+x2.flow+0) / 18446744073709551616)<=1)<|some (T_round_wide.mk ((x1.fhigh+x2.fhigh+((x1.flow+x2.flow+0) / 18446744073709551616))%18446744073709551616) ((x1.flow+x2.flow+0)%18446744073709551616))
def round_wide_rounded(fu:Nat)(x1:T_round_wide)(x2:Int)(x3:Bool)(x4:Int)(x5:Bool):Option Int:=
  (math_bits_Len64 fu x1.fhigh).bind λx6=>if x6=0 then((soft_Round fu x2 x3 x4 x1.flow x5).bind λx7=>some x7)else chk (0<=(wk .i64 (64 - x6)))<|chk (0<=x6)<|if x5=true then((soft_Round fu x2 x3 (wk .i64 (x4+x6)) (bor .u64 (shlk .u64 x1.fhigh (wk .i64 (64 - x6))) (shrk .u64 x1.flow x6)) true).bind λx8=>some x8)else(soft_Round fu x2 x3 (wk .i64 (x4+x6)) (bor .u64 (shlk .u64 x1.fhigh (wk .i64 (64 - x6))) (shrk .u64 x1.flow x6)) (!(decide ((shlk .u64 x1.flow (wk .i64 (64 - x6)))=0)))).bind λx9=>some x9
def round_wide_minus(fu:Nat)(x1:T_round_wide)(x2:T_round_wide):Option T_round_wide:=
  chk (0<=x1.flow/\(0<=x2.flow/\x2.flow<18446744073709551616)/\0<=(0:Int)/\(0:Int)<=1)<|chk (0<=x1.fhigh/\(0<=x2.fhigh/\x2.fhigh<18446744073709551616)/\0<=(if x1.flow<x2.flow+(0:Int)then 1 else 0)/\(if x1.flow<x2.flow+(0:Int)then 1 else 0)<=1)<|some (T_round_wide.mk ((x1.fhigh - x2.fhigh - (if x1.flow<x2.flow+(0:Int)then 1 else 0))%18446744073709551616) ((x1.flow - x2.flow - 0)%18446744073709551616))
def round_wide_less(fu:Nat)(x1:T_round_wide)(x2:T_round_wide):Option Bool:=
  if x1.fhigh<x2.fhigh then(some true)else if x1.fhigh=x2.fhigh then(some (decide (x1.flow<x2.flow)))else some false
def round_sum.k1(fu:Nat)(x1:Int)(x4:Bool)(x5:Int)(x6:Int)(x7:Bool)(x8:Int)(x9:Int):Option Int:=
  (math_bits_Len64 fu x6).bind λx10=>(round_moved fu x6 (wk .i64 (x5 - (wk .i64 ((wk .i64 (x5+x10)) - 126))))).bind λx11=>(round_moved fu x9 (wk .i64 (x8 - (wk .i64 ((wk .i64 (x5+x10)) - 126))))).bind λx12=>if(x4==x7)=true then((round_wide_plus fu x11.1 x12.1).bind λx13=>(round_wide_rounded fu x13 x1 x4 (wk .i64 ((wk .i64 (x5+x10)) - 126)) x12.2).bind λx14=>some x14)else if x12.2=true then((round_wide_minus fu x11.1 x12.1).bind λx15=>(round_wide_minus fu x15 (T_round_wide.mk 0 1)).bind λx16=>(round_wide_rounded fu x16 x1 x4 (wk .i64 ((wk .i64 (x5+x10)) - 126)) true).bind λx17=>some x17)else if(x11.1.fhigh==x12.1.fhigh&&(x11.1.flow==x12.1.flow))=true then((round_sign fu (decide (x1=2))).bind λx18=>some x18)else(round_wide_less fu x11.1 x12.1).bind λx19=>if x19=true then((round_wide_minus fu x12.1 x11.1).bind λx20=>(round_wide_rounded fu x20 x1 x7 (wk .i64 ((wk .i64 (x5+x10)) - 126)) false).bind λx21=>some x21)else(round_wide_minus fu x11.1 x12.1).bind λx22=>(round_wide_rounded fu x22 x1 x4 (wk .i64 ((wk .i64 (x5+x10)) - 126)) false).bind λx23=>some x23
def round_sum(fu:Nat)(x1:Int)(x2:T_round_number)(x3:T_round_number):Option Int:=
  jn 1 () (λ(t:Bool×Int×Int×Bool×Int×Int)=>round_sum.k1 fu x1 t.1 t.2.1 t.2.2.1 t.2.2.2.1 t.2.2.2.2.1 t.2.2.2.2.2)<|(math_bits_Len64 fu x3.fsig).bind λx24=>(math_bits_Len64 fu x2.fsig).bind λx25=>if(wk .i64 (x2.fexp+x25))<(wk .i64 (x3.fexp+x24))then(round_sum.k1 fu x1 x3.fneg x3.fexp x3.fsig x2.fneg x2.fexp x2.fsig)else round_sum.k1 fu x1 x2.fneg x2.fexp x2.fsig x3.fneg x3.fexp x3.fsig
def round_FmaBy.k3(fu:Nat)(x1:Int)(x2:Int)(x3:Int)(x6:T_round_number)(x7:T_round_number)(x8:T_round_number):Option Int:=
  (round_sum fu x1 (T_round_number.mk (!(decide ((shrk .u32 x2 31)=(shrk .u32 x3 31)))) (wk .i64 (x6.fexp+x7.fexp)) (wk .u64 (x6.fsig*x7.fsig))) x8).bind λx9=>some x9
def round_FmaBy.k2(fu:Nat)(x1:Int)(x2:Int)(x3:Int)(x4:Int):Option Int:=
  (round_open fu x2).bind λx6=>(round_open fu x3).bind λx7=>(round_open fu x4).bind λx8=>jn 3 () (λ(t:Unit)=>round_FmaBy.k3 fu x1 x2 x3 x6 x7 x8)<|if(wk .u64 (x6.fsig*x7.fsig))=0 then(if x8.fsig=0 then(if(x8.fneg==(!(decide ((shrk .u32 x2 31)=(shrk .u32 x3 31)))))=true then(some x4)else(round_sign fu (decide (x1=2))).bind λx10=>some x10)else some x4)else if x8.fsig=0 then((soft_Round fu x1 (!(decide ((shrk .u32 x2 31)=(shrk .u32 x3 31)))) (wk .i64 (x6.fexp+x7.fexp)) (wk .u64 (x6.fsig*x7.fsig)) false).bind λx11=>some x11)else round_FmaBy.k3 fu x1 x2 x3 x6 x7 x8
def round_FmaBy.k1(fu:Nat)(x1:Int)(x2:Int)(x3:Int)(x4:Int)(x5:Bool):Option Int:=
  jn 2 () (λ(t:Unit)=>round_FmaBy.k2 fu x1 x2 x3 x4)<|(soft_NaN fu x2).bind λx12=>if x12=true then(some 2143289344)else(soft_NaN fu x3).bind λx13=>if x13=true then(some 2143289344)else(soft_NaN fu x4).bind λx14=>if x14=true then(some 2143289344)else(soft_Mul fu x2 x3).bind λx15=>(soft_NaN fu x15).bind λx16=>if x16=true then(some 2143289344)else if x5=true then((soft_Inf fu x4).bind λx17=>if x17=true then((round_sign fu (!(decide ((shrk .u32 x2 31)=(shrk .u32 x3 31))))).bind λx18=>if x4=(bor .u32 x18 2139095040)then(some (bor .u32 x18 2139095040))else some 2143289344)else(round_sign fu (!(decide ((shrk .u32 x2 31)=(shrk .u32 x3 31))))).bind λx19=>some (bor .u32 x19 2139095040))else(soft_Inf fu x4).bind λx20=>if x20=true then(some x4)else round_FmaBy.k2 fu x1 x2 x3 x4
def round_FmaBy(fu:Nat)(x1:Int)(x2:Int)(x3:Int)(x4:Int):Option Int:=
  jn 1 () (λ(t:Bool)=>round_FmaBy.k1 fu x1 x2 x3 x4 t)<|(soft_Inf fu x2).bind λx21=>if x21=true then(round_FmaBy.k1 fu x1 x2 x3 x4 true)else(soft_Inf fu x3).bind λx22=>round_FmaBy.k1 fu x1 x2 x3 x4 x22
def round_Fma(fu:Nat)(x1:Int)(x2:Int)(x3:Int):Option Int:=
  (round_FmaBy fu 0 x1 x2 x3).bind λx4=>some x4
def elem_row.L1(fu:Nat)(x1:Int)(x2:List Int)(nx1:Int→Int→Option Int)(x6:Int)(x7:Int):Option Int:=
  if x7<((subN x2 1 x2.length).length:Int)then((at? (subN x2 1 x2.length) x7).bind λx10=>(round_Fma fu x1 x6 x10).bind λx11=>nx1 x11 (wk .i64 (x7+1)))else some x6
def elem_row.W1(fu:Nat)(x1:Int)(x2:List Int)(x6:Int)(x7:Int):Option Int:=
  cloop (λnext s=>elem_row.L1 fu x1 x2 (λx6 x7=>next (x6,x7)) s.1 s.2) fu (x6,x7)
def elem_row(fu:Nat)(x1:Int)(x2:List Int):Option Int:=
  (at? x2 0).bind λx3=>chk (0<=1/\1<=(x2.length:Int))<|elem_row.W1 fu x1 x2 x3 0
def round_FromIntBy(fu:Nat)(x1:Int)(x2:Int):Option Int:=
  if x2<0 then((soft_Round fu x1 true 0 (wk .u64 (0 - (wk .u64 x2))) false).bind λx3=>some x3)else(soft_Round fu x1 false 0 (wk .u64 x2) false).bind λx4=>some x4
def round_FromInt(fu:Nat)(x1:Int):Option Int:=
  (round_FromIntBy fu 0 x1).bind λx2=>some x2
def elem_Log.k1(fu:Nat)(x6:Int)(x7:Int):Option Int:=
  (soft_Sub fu x6 1065353216).bind λx8=>(soft_Add fu x8 1073741824).bind λx9=>(soft_Div fu x8 x9).bind λx10=>(soft_Mul fu x10 x10).bind λx11=>(elem_row fu x11 ([1046711865,1049774373,1053609165,1059760811,1073741824])).bind λx12=>(soft_Mul fu x10 x12).bind λx13=>(round_FromInt fu x7).bind λx14=>(round_Fma fu x14 3109978243 x13).bind λx15=>(round_Fma fu x14 1060208640 x15).bind λx16=>some x16
def elem_Log(fu:Nat)(x1:Int):Option Int:=
  (soft_NaN fu x1).bind λx2=>if x2=true then(some 2143289344)else(soft_Abs fu x1).bind λx3=>if x3=0 then(some 4286578688)else if(band .u32 x1 2147483648)=0 then((soft_Inf fu x1).bind λx4=>if x4=true then(some x1)else(elem_parts fu x1).bind λx5=>jn 1 () (λ(t:Int×Int)=>elem_Log.k1 fu t.1 t.2)<|(soft_Less fu x5.1 1060439283).bind λx17=>if x17=true then((soft_Add fu x5.1 x5.1).bind λx18=>elem_Log.k1 fu x18 (wk .i64 (x5.2 - 1)))else elem_Log.k1 fu x5.1 x5.2)else some 2143289344
def round_ToInt.k1(fu:Nat)(x3:T_round_number)(x5:Int):Option Int:=
  if x3.fneg=true then(some (wk .i64 (0 - x5)))else some x5
def round_ToInt(fu:Nat)(x1:Int):Option Int:=
  (soft_NaN fu x1).bind λx2=>if x2=true then(some 0)else(round_open fu x1).bind λx3=>(soft_Abs fu x1).bind λx4=>if 1593835520<=x4 then(if x3.fneg=true then(some (-9223372036854775808))else some 9223372036854775807)else jn 1 () (λ(t:Int)=>round_ToInt.k1 fu x3 t)<|if 0<=x3.fexp then(chk (0<=x3.fexp)<|round_ToInt.k1 fu x3 (shlk .i64 (wk .i64 x3.fsig) x3.fexp))else chk (0<=(wk .i64 (0 - x3.fexp)))<|round_ToInt.k1 fu x3 (shrk .i64 (wk .i64 x3.fsig) (wk .i64 (0 - x3.fexp)))
def elem_Exp(fu:Nat)(x1:Int):Option Int:=
  (soft_NaN fu x1).bind λx2=>if x2=true then(some 2143289344)else(soft_Less fu 1118925335 x1).bind λx3=>if x3=true then(some 2139095040)else(soft_Less fu x1 3268411392).bind λx4=>if x4=true then(some 0)else(soft_Mul fu x1 1069066811).bind λx5=>(round_Even fu x5).bind λx6=>(soft_Neg fu 3109978243).bind λx7=>(soft_Neg fu 1060208640).bind λx8=>(round_Fma fu x6 x8 x1).bind λx9=>(round_Fma fu x6 x7 x9).bind λx10=>(elem_row fu x10 ([985008993,1007192201,1026206379,1042983595,1056964608,1065353216,1065353216])).bind λx11=>(round_ToInt fu x6).bind λx12=>(round_Scale fu x11 x12).bind λx13=>some x13
def elem_Pow.k1(fu:Nat)(x1:Int)(x2:Int):Option Int:=
  (soft_Abs fu x1).bind λx3=>(elem_Log fu x3).bind λx4=>(soft_Mul fu x2 x4).bind λx5=>(elem_Exp fu x5).bind λx6=>if(band .u32 x1 2147483648)=0 then(some x6)else(soft_Inf fu x2).bind λx7=>if x7=true then(some x6)else(round_Even fu x2).bind λx8=>(soft_Equal fu x8 x2).bind λx9=>if x9=true then((soft_Abs fu x2).bind λx10=>(soft_Less fu x10 1266679808).bind λx11=>if x11=true then((round_ToInt fu x2).bind λx12=>if(band .i64 x12 1)=0 then(some x6)else(soft_Neg fu x6).bind λx13=>some x13)else some x6)else some x6
def elem_Pow(fu:Nat)(x1:Int)(x2:Int):Option Int:=
  jn 1 () (λ(t:Unit)=>elem_Pow.k1 fu x1 x2)<|(soft_Abs fu x2).bind λx14=>if x14=0 then(some 1065353216)else if x1=1065353216 then(some 1065353216)else(soft_NaN fu x1).bind λx15=>if x15=true then(some 2143289344)else(soft_NaN fu x2).bind λx16=>if x16=true then(some 2143289344)else if x1=3212836864 then((soft_Inf fu x2).bind λx17=>if x17=true then(some 1065353216)else(soft_Less fu x1 0).bind λx18=>if x18=true then((round_Even fu x2).bind λx19=>(soft_Equal fu x19 x2).bind λx20=>if x20=true then(elem_Pow.k1 fu x1 x2)else some 2143289344)else elem_Pow.k1 fu x1 x2)else(soft_Less fu x1 0).bind λx21=>if x21=true then((soft_Inf fu x2).bind λx22=>if x22=true then(elem_Pow.k1 fu x1 x2)else(round_Even fu x2).bind λx23=>(soft_Equal fu x23 x2).bind λx24=>if x24=true then(elem_Pow.k1 fu x1 x2)else some 2143289344)else elem_Pow.k1 fu x1 x2
def soft_Min(fu:Nat)(x1:Int)(x2:Int):Option Int:=
  (soft_NaN fu x1).bind λx3=>if x3=true then(some 2143289344)else(soft_NaN fu x2).bind λx4=>if x4=true then(some 2143289344)else(soft_Equal fu x1 x2).bind λx5=>if x5=true then(some (bor .u32 x1 x2))else(soft_Less fu x2 x1).bind λx6=>if x6=true then(some x2)else some x1
def soft_Max(fu:Nat)(x1:Int)(x2:Int):Option Int:=
  (soft_NaN fu x1).bind λx3=>if x3=true then(some 2143289344)else(soft_NaN fu x2).bind λx4=>if x4=true then(some 2143289344)else(soft_Equal fu x1 x2).bind λx5=>if x5=true then(some (band .u32 x1 x2))else(soft_Less fu x1 x2).bind λx6=>if x6=true then(some x2)else some x1
def ewise_below_1(fu:Nat)(x1:Int)(x2:Int)(p2:Int→Int→Option Int):Option Int:=
  (soft_Less fu x1 0).bind λx4=>if x4=true then((p2 x1 x2).bind λx5=>some x5)else some x1
def ewise_floatOf_4(fu:Nat)(x1:Int)(x2:Int):Option Int:=
  (soft_Mul fu x2 x1).bind λx3=>some x3
def ewise_intOf_9(fu:Nat)(x1:Int)(x2:Int):Option Int:=
  some x1
def ewise_intOf_4(fu:Nat)(x1:Int)(x2:Int):Option Int:=
  some (wk .i64 (x1+x2))
def ewise_intOf_5(fu:Nat)(x1:Int)(x2:Int):Option Int:=
  some (wk .i64 (x1 - x2))
def ewise_intOf_6(fu:Nat)(x1:Int)(x2:Int):Option Int:=
  some (wk .i64 (x1*x2))
def ewise_quotient(fu:Nat)(x1:Int)(x2:Int):Option Int:=
  if x2=(-1)then(some (wk .i64 (0 - x1)))else chk (x2≠0)<|some (wk .i64 (Int.tdiv x1 x2))
def ewise_remainder_1(fu:Nat)(x1:Int)(x2:Int)(x3:Bool):Option Int:=
  (ewise_quotient fu x1 x2).bind λx4=>if x3=true then(some (wk .i64 (x1 - (wk .i64 (x4*x2)))))else if(wk .i64 (x1 - (wk .i64 (x4*x2))))=0 then(some (wk .i64 (x1 - (wk .i64 (x4*x2)))))else if(bxor .i64 (wk .i64 (x1 - (wk .i64 (x4*x2)))) x2)<0 then(some (wk .i64 ((wk .i64 (x1 - (wk .i64 (x4*x2))))+x2)))else some (wk .i64 (x1 - (wk .i64 (x4*x2))))
def ewise_intOf_7(fu:Nat)(x1:Int)(x2:Int):Option Int:=
  some (imin x1 x2)
def ewise_intOf_8(fu:Nat)(x1:Int)(x2:Int):Option Int:=
  some (imax x1 x2)
def ewise_kernelOf_3(fu:Nat)(x1:Bool)(x2:Bool):Option Bool:=
  if x1=true then(some x2)else some false
def ewise_kernelOf_4(fu:Nat)(x1:Bool)(x2:Bool):Option Bool:=
  if x1=true then(some true)else some x2
def ewise_kernelOf_5(fu:Nat)(x1:Bool)(x2:Bool):Option Bool:=
  some (!(x1==x2))
def ewise_kernelOf_1(fu:Nat)(x1:Bool)(x2:Bool):Option Bool:=
  some x1
def ewise_kernelOf_8(fu:Nat)(x1:Bool)(x2:Bool):Option Bool:=
  some (x1==x2)
def ewise_kernelOf_11(fu:Nat)(x1:Int)(x2:Int):Option Bool:=
  (soft_Less fu x1 x2).bind λx3=>if x3=true then(some true)else(soft_Equal fu x1 x2).bind λx4=>some x4
def ewise_kernelOf_13(fu:Nat)(x1:Int)(x2:Int):Option Bool:=
  (soft_Less fu x2 x1).bind λx3=>some x3
def ewise_kernelOf_15(fu:Nat)(x1:Int)(x2:Int):Option Bool:=
  (soft_Less fu x2 x1).bind λx3=>if x3=true then(some true)else(soft_Equal fu x1 x2).bind λx4=>some x4
def ewise_kernelOf_9(fu:Nat)(x1:Int)(x2:Int):Option Bool:=
  some (decide (x1=x2))
def ewise_kernelOf_10(fu:Nat)(x1:Int)(x2:Int):Option Bool:=
  some (decide (x1<x2))
def ewise_kernelOf_12(fu:Nat)(x1:Int)(x2:Int):Option Bool:=
  some (decide (x1<=x2))
def ewise_kernelOf_14(fu:Nat)(x1:Int)(x2:Int):Option Bool:=
  some (decide (x2<x1))
def ewise_kernelOf_16(fu:Nat)(x1:Int)(x2:Int):Option Bool:=
  some (decide (x2<=x1))
def kt299(fu:Nat)(k:Nat)(x1:Int)(x2:Int):Option Int:=
  if k=322 then ewise_first_1 fu x1 x2 (λy0=>ewise_curveOf_1 fu y0)else none
def kt306(fu:Nat)(k:Nat)(x1:Int)(x2:Int):Option Int:=
  if k=210 then ewise_below_1 fu x1 x2 (λy0 y1=>ewise_floatOf_4 fu y0 y1)else none
def kc56_0(fu:Nat)(x:Int)(s:T_Setting)(a:Int)(b:Int):Option Int:=
  if x=28 then soft_Add fu a b else if x=29 then soft_Sub fu a b else if x=30 then soft_Mul fu a b else if x=31 then soft_Div fu a b else if x=32 then ewise_rest fu a b else if x=33 then elem_Pow fu a b else if x=34 then soft_Min fu a b else if x=35 then soft_Max fu a b else if x=36 then kt306 fu 210 a b else kt299 fu 322 a b
def kc56_1(fu:Nat)(x:Int)(s:T_Setting)(a:Int)(b:Int):Option Int:=
  if x=28 then ewise_intOf_4 fu a b else if x=29 then ewise_intOf_5 fu a b else if x=30 then ewise_intOf_6 fu a b else if x=31 then ewise_quotient fu a b else if x=32 then ewise_remainder_1 fu a b s.fFmod else if x=34 then ewise_intOf_7 fu a b else if x=35 then ewise_intOf_8 fu a b else ewise_intOf_9 fu a b
def kc56_2(fu:Nat)(x:Int)(s:T_Setting)(a:Bool)(b:Bool):Option Bool:=
  if x=23 then ewise_kernelOf_3 fu a b else if x=24 then ewise_kernelOf_4 fu a b else if x=25 then ewise_kernelOf_5 fu a b else if x=37 then ewise_kernelOf_8 fu a b else ewise_kernelOf_1 fu a b
def kc56_3(fu:Nat)(x:Int)(s:T_Setting)(a:Int)(b:Int):Option Bool:=
  if x=37 then soft_Equal fu a b else if x=38 then soft_Less fu a b else if x=39 then ewise_kernelOf_11 fu a b else if x=40 then ewise_kernelOf_13 fu a b else if x=41 then ewise_kernelOf_15 fu a b else none
def kc56_4(fu:Nat)(x:Int)(s:T_Setting)(a:Int)(b:Int):Option Bool:=
  if x=37 then ewise_kernelOf_9 fu a b else if x=38 then ewise_kernelOf_10 fu a b else if x=39 then ewise_kernelOf_12 fu a b else if x=40 then ewise_kernelOf_14 fu a b else if x=41 then ewise_kernelOf_16 fu a b else none
def ewise_kernelOf(fu:Nat)(x1:Int)(x2:T_Setting):Option (Int×T_Setting):=
  chk (x1=23∨x1=24∨x1=25∨x1=28∨x1=29∨x1=30∨x1=31∨x1=32∨x1=33∨x1=34∨x1=35∨x1=36∨x1=37∨x1=38∨x1=39∨x1=40∨x1=41)<|some (x1,x2)
def ewise_Do.L1(fu:Nat)(x1:Int)(x2:T_Setting)(x5:List T_Tensor)(x9:T_Tensor×Int)(x10:Int×Int)(x12:Int×T_Setting)(nx1:(List Int)→(List Int)→(List Bool)→Int→Option (T_Tensor×Int))(x33:List Int)(x34:List Int)(x35:List Bool)(x36:Int):Option (T_Tensor×Int):=
  chk (x9.1.fF.length=x33.length)<|chk (x9.1.fI.length=x34.length)<|chk (x9.1.fB.length=x35.length)<|if x36<x10.1 then(if x1=42 then(none)else if x1=43 then(none)else if x1=44 then(none)else(at? x5 0).bind λx57=>(at? x5 (wk .i64 ((x5.length:Int) - 1))).bind λx58=>(ewise_work_place fu (T_ewise_work.mk x1 x2 x5 (T_Tensor.mk x9.1.fType x9.1.fDims x33 x34 x35) x10.1) 0 x36).bind λx59=>(ewise_work_place fu (T_ewise_work.mk x1 x2 x5 (T_Tensor.mk x9.1.fType x9.1.fDims x33 x34 x35) x10.1) (wk .i64 ((x5.length:Int) - 1)) x36).bind λx60=>if x57.fType=1 then(if x9.1.fType=1 then((at? x57.fF x59).bind λx61=>(at? x58.fF x60).bind λx62=>(kc56_0 fu x12.1 x12.2 x61 x62).bind λx63=>(soft_Canon fu x63).bind λx64=>chk (0<=x36/\x36<(x33.length:Int))<|nx1 (x33.set x36.toNat x64) x34 x35 (wk .i64 (x36+1)))else(at? x57.fF x59).bind λx65=>(at? x58.fF x60).bind λx66=>(kc56_3 fu x12.1 x12.2 x65 x66).bind λx67=>chk (0<=x36/\x36<(x35.length:Int))<|nx1 x33 x34 (x35.set x36.toNat x67) (wk .i64 (x36+1)))else if x57.fType=7 then(if x9.1.fType=7 then((at? x57.fI x59).bind λx68=>(at? x58.fI x60).bind λx69=>(kc56_1 fu x12.1 x12.2 x68 x69).bind λx70=>chk (0<=x36/\x36<(x34.length:Int))<|nx1 x33 (x34.set x36.toNat x70) x35 (wk .i64 (x36+1)))else(at? x57.fI x59).bind λx71=>(at? x58.fI x60).bind λx72=>(kc56_4 fu x12.1 x12.2 x71 x72).bind λx73=>chk (0<=x36/\x36<(x35.length:Int))<|nx1 x33 x34 (x35.set x36.toNat x73) (wk .i64 (x36+1)))else(at? x57.fB x59).bind λx74=>(at? x58.fB x60).bind λx75=>(kc56_2 fu x12.1 x12.2 x74 x75).bind λx76=>chk (0<=x36/\x36<(x35.length:Int))<|nx1 x33 x34 (x35.set x36.toNat x76) (wk .i64 (x36+1)))else some (T_Tensor.mk x9.1.fType x9.1.fDims x33 x34 x35,0)
def ewise_Do.W1(fu:Nat)(x1:Int)(x2:T_Setting)(x5:List T_Tensor)(x9:T_Tensor×Int)(x10:Int×Int)(x12:Int×T_Setting)(x33:List Int)(x34:List Int)(x35:List Bool)(x36:Int):Option (T_Tensor×Int):=
  cloop (λnext s=>ewise_Do.L1 fu x1 x2 x5 x9 x10 x12 (λx33 x34 x35 x36=>next (x33,x34,x35,x36)) s.1 s.2.1 s.2.2.1 s.2.2.2) fu (x33,x34,x35,x36)
def ewise_Do.k1(fu:Nat)(x1:Int)(x2:T_Setting)(x3:List T_Tensor)(x5:List T_Tensor):Option (T_Tensor×Int):=
  (ewise_Vals fu x3).bind λx6=>(infer_Node fu x1 x2 x6 1).bind λx7=>if x7.2=0 then((at? x7.1 0).bind λx8=>(tens_New fu x8.fType x8.fDims).bind λx9=>(shape_Size fu x8.fDims).bind λx10=>if x9.2=0 then((ewise_work_divides fu (T_ewise_work.mk x1 x2 x5 x9.1 x10.1)).bind λx11=>if x11=true then(some (T_Tensor.mk 0 ([]) ([]) ([]) ([]),10))else(ewise_kernelOf fu x1 x2).bind λx12=>ewise_Do.W1 fu x1 x2 x5 x9 x10 x12 x9.1.fF x9.1.fI x9.1.fB 0)else some (T_Tensor.mk 0 ([]) ([]) ([]) ([]),x9.2))else some (T_Tensor.mk 0 ([]) ([]) ([]) ([]),x7.2)
def ewise_Do.L2(fu:Nat)(x1:Int)(x2:T_Setting)(x3:List T_Tensor)(nx2:(List T_Tensor)→Int→Option (T_Tensor×Int))(x81:List T_Tensor)(x82:Int):Option (T_Tensor×Int):=
  if x82<(x3.length:Int)then((at? x3 x82).bind λx87=>if x87.fType=0 then((tens_Canon fu x87).bind λx88=>chk ((x81.length+1:Int)*104<=140737488355328)<|nx2 (x81++([x88])) (wk .i64 (x82+1)))else(tens_Check fu x87).bind λx89=>if x89=0 then((tens_Canon fu x87).bind λx90=>chk ((x81.length+1:Int)*104<=140737488355328)<|nx2 (x81++([x90])) (wk .i64 (x82+1)))else some (T_Tensor.mk 0 ([]) ([]) ([]) ([]),x89))else ewise_Do.k1 fu x1 x2 x3 x81
def ewise_Do.W2(fu:Nat)(x1:Int)(x2:T_Setting)(x3:List T_Tensor)(x81:List T_Tensor)(x82:Int):Option (T_Tensor×Int):=
  cloop (λnext s=>ewise_Do.L2 fu x1 x2 x3 (λx81 x82=>next (x81,x82)) s.1 s.2) fu (x81,x82)
def ewise_Do(fu:Nat)(x1:Int)(x2:T_Setting)(x3:List T_Tensor):Option (T_Tensor×Int):=
  (ewise_Has fu x1).bind λx4=>if x4=true then(jn 1 () (λ(t:List T_Tensor)=>ewise_Do.k1 fu x1 x2 x3 t)<|ewise_Do.W2 fu x1 x2 x3 ([]:List T_Tensor) 0)else some (T_Tensor.mk 0 ([]) ([]) ([]) ([]),1)
def ref04_Size.k2(fu:Nat)(nx1:Int→Int→Option (Int×Int))(x1:List Int)(x6:Int)(x7:Int):Option (Int×Int):=
  (at? x1 x7).bind λx10=>nx1 (wk .i64 (x6*x10)) (wk .i64 (x7+1))
def ref04_Size.L1(fu:Nat)(x1:List Int)(nx1:Int→Int→Option (Int×Int))(x6:Int)(x7:Int):Option (Int×Int):=
  if x7<(x1.length:Int)then(jn 2 () (λ(t:Unit)=>ref04_Size.k2 fu nx1 x1 x6 x7)<|(at? x1 x7).bind λx11=>if 4096<x11 then(some (0,4))else if 4096<(wk .i64 (x6*x11))then(some (0,4))else ref04_Size.k2 fu nx1 x1 x6 x7)else some (x6,0)
def ref04_Size.W1(fu:Nat)(x1:List Int)(x6:Int)(x7:Int):Option (Int×Int):=
  cloop (λnext s=>ref04_Size.L1 fu x1 (λx6 x7=>next (x6,x7)) s.1 s.2) fu (x6,x7)
def ref04_Size.k1(fu:Nat)(x1:List Int)(x2:Bool)(x3:Bool):Option (Int×Int):=
  if x3=true then(some (0,4))else if x2=true then(some (0,0))else ref04_Size.W1 fu x1 1 0
def ref04_Size.k3(fu:Nat)(nx2:Bool→Bool→Int→Option (Int×Int))(x14:Bool)(x15:Int)(x18:Int)(x19:Bool):Option (Int×Int):=
  if x14=true then(nx2 x19 true (wk .i64 (x15+1)))else nx2 x19 (decide (4096<x18)) (wk .i64 (x15+1))
def ref04_Size.L2(fu:Nat)(x1:List Int)(nx2:Bool→Bool→Int→Option (Int×Int))(x13:Bool)(x14:Bool)(x15:Int):Option (Int×Int):=
  if x15<(x1.length:Int)then((at? x1 x15).bind λx18=>if x18<0 then(some (0,1))else jn 3 () (λ(t:Bool)=>ref04_Size.k3 fu nx2 x14 x15 x18 t)<|if x13=true then(ref04_Size.k3 fu nx2 x14 x15 x18 true)else ref04_Size.k3 fu nx2 x14 x15 x18 (decide (x18=0)))else ref04_Size.k1 fu x1 x13 x14
def ref04_Size.W2(fu:Nat)(x1:List Int)(x13:Bool)(x14:Bool)(x15:Int):Option (Int×Int):=
  cloop (λnext s=>ref04_Size.L2 fu x1 (λx13 x14 x15=>next (x13,x14,x15)) s.1 s.2.1 s.2.2) fu (x13,x14,x15)
def ref04_Size(fu:Nat)(x1:List Int):Option (Int×Int):=
  jn 1 () (λ(t:Bool×Bool)=>ref04_Size.k1 fu x1 t.1 t.2)<|ref04_Size.W2 fu x1 false (decide (8<(x1.length:Int))) 0
def ref04_dim(fu:Nat)(x1:List Int)(x2:Int):Option Int:=
  if(x1.length:Int)<=x2 then(some 1)else(at? x1 (wk .i64 ((wk .i64 ((x1.length:Int) - 1)) - x2))).bind λx3=>some x3
def ref04_Broadcast.k1(fu:Nat)(x5:List Int):Option ((List Int)×Int):=
  (ref04_Size fu x5).bind λx6=>if x6.2=0 then(some (x5,0))else some ([],x6.2)
def ref04_Broadcast.k3(fu:Nat)(nx1:(List Int)→Int→Option ((List Int)×Int))(x1:List Int)(x2:List Int)(x10:List Int)(x11:Int)(x17:Int):Option ((List Int)×Int):=
  chk (0<=wk .i64 ((wk .i64 ((imax (x1.length:Int) (x2.length:Int)) - 1)) - x11)/\wk .i64 ((wk .i64 ((imax (x1.length:Int) (x2.length:Int)) - 1)) - x11)<(x10.length:Int))<|nx1 (x10.set (wk .i64 ((wk .i64 ((imax (x1.length:Int) (x2.length:Int)) - 1)) - x11)).toNat x17) (wk .i64 (x11+1))
def ref04_Broadcast.k2(fu:Nat)(nx1:(List Int)→Int→Option ((List Int)×Int))(x1:List Int)(x2:List Int)(x10:List Int)(x11:Int)(x15:Int)(x16:Int):Option ((List Int)×Int):=
  jn 3 () (λ(t:Int)=>ref04_Broadcast.k3 fu nx1 x1 x2 x10 x11 t)<|if x15=1 then(ref04_Broadcast.k3 fu nx1 x1 x2 x10 x11 x16)else ref04_Broadcast.k3 fu nx1 x1 x2 x10 x11 x15
def ref04_Broadcast.L1(fu:Nat)(x1:List Int)(x2:List Int)(nx1:(List Int)→Int→Option ((List Int)×Int))(x10:List Int)(x11:Int):Option ((List Int)×Int):=
  if x11<(imax (x1.length:Int) (x2.length:Int))then((ref04_dim fu x1 x11).bind λx15=>(ref04_dim fu x2 x11).bind λx16=>jn 2 () (λ(t:Unit)=>ref04_Broadcast.k2 fu nx1 x1 x2 x10 x11 x15 x16)<|if x15=x16 then(ref04_Broadcast.k2 fu nx1 x1 x2 x10 x11 x15 x16)else if x15=1 then(ref04_Broadcast.k2 fu nx1 x1 x2 x10 x11 x15 x16)else if x16=1 then(ref04_Broadcast.k2 fu nx1 x1 x2 x10 x11 x15 x16)else some ([],3))else ref04_Broadcast.k1 fu x10
def ref04_Broadcast.W1(fu:Nat)(x1:List Int)(x2:List Int)(x10:List Int)(x11:Int):Option ((List Int)×Int):=
  cloop (λnext s=>ref04_Broadcast.L1 fu x1 x2 (λx10 x11=>next (x10,x11)) s.1 s.2) fu (x10,x11)
def ref04_Broadcast(fu:Nat)(x1:List Int)(x2:List Int):Option ((List Int)×Int):=
  (ref04_Size fu x1).bind λx3=>if x3.2=0 then((ref04_Size fu x2).bind λx4=>if x4.2=0 then(chk (0<=imax (x1.length:Int) (x2.length:Int)/\(imax (x1.length:Int) (x2.length:Int))*8<=140737488355328)<|jn 1 () (λ(t:List Int)=>ref04_Broadcast.k1 fu t)<|ref04_Broadcast.W1 fu x1 x2 (List.replicate (imax (x1.length:Int) (x2.length:Int)).toNat (0:Int)) 0)else some ([],x4.2))else some ([],x3.2)
def ref04_SameInts.L1(fu:Nat)(x1:List Int)(x2:List Int)(nx1:Int→Option Bool)(x5:Int):Option Bool:=
  if x5<(x1.length:Int)then((at? x1 x5).bind λx8=>(at? x2 x5).bind λx9=>if x8=x9 then(nx1 (wk .i64 (x5+1)))else some false)else some true
def ref04_SameInts.W1(fu:Nat)(x1:List Int)(x2:List Int)(x5:Int):Option Bool:=
  cloop (λnext s=>ref04_SameInts.L1 fu x1 x2 next s) fu x5
def ref04_SameInts(fu:Nat)(x1:List Int)(x2:List Int):Option Bool:=
  if(x1.length:Int)=(x2.length:Int)then(ref04_SameInts.W1 fu x1 x2 0)else some false
def ref04_Index.L1(fu:Nat)(x1:List Int)(nx1:(List Int)→Int→Int→Option ((List Int)×Int))(x5:List Int)(x6:Int)(x7:Int):Option ((List Int)×Int):=
  if 0<=x7 then((at? x1 x7).bind λx9=>chk (x9≠0)<|chk (0<=x7/\x7<(x5.length:Int))<|nx1 (x5.set x7.toNat (Int.tmod x6 x9)) (wk .i64 (Int.tdiv x6 x9)) (wk .i64 (x7 - 1)))else some (x5,0)
def ref04_Index.W1(fu:Nat)(x1:List Int)(x5:List Int)(x6:Int)(x7:Int):Option ((List Int)×Int):=
  cloop (λnext s=>ref04_Index.L1 fu x1 (λx5 x6 x7=>next (x5,x6,x7)) s.1 s.2.1 s.2.2) fu (x5,x6,x7)
def ref04_Index.k1(fu:Nat)(x1:List Int)(x2:Int):Option ((List Int)×Int):=
  chk (0<=(x1.length:Int)/\(x1.length:Int)*8<=140737488355328)<|ref04_Index.W1 fu x1 (List.replicate (x1.length:Int).toNat (0:Int)) x2 (wk .i64 ((x1.length:Int) - 1))
def ref04_Index(fu:Nat)(x1:List Int)(x2:Int):Option ((List Int)×Int):=
  (ref04_Size fu x1).bind λx3=>if x3.2=0 then(jn 1 () (λ(t:Unit)=>ref04_Index.k1 fu x1 x2)<|if x2<0 then(some ([],2))else if x3.1<=x2 then(some ([],2))else ref04_Index.k1 fu x1 x2)else some ([],x3.2)
def ref04_From.k3(fu:Nat)(nx1:Int→Int→Option (Int×Int))(x1:List Int)(x12:Int)(x13:Int)(x19:Int):Option (Int×Int):=
  (at? x1 x13).bind λx20=>nx1 (wk .i64 ((wk .i64 (x12*x20))+x19)) (wk .i64 (x13+1))
def ref04_From.L1(fu:Nat)(x1:List Int)(x2:List Int)(x7:(List Int)×Int)(nx1:Int→Int→Option (Int×Int))(x12:Int)(x13:Int):Option (Int×Int):=
  if x13<(x1.length:Int)then((at? x7.1 (wk .i64 ((wk .i64 ((x2.length:Int) - (x1.length:Int)))+x13))).bind λx18=>jn 3 () (λ(t:Int)=>ref04_From.k3 fu nx1 x1 x12 x13 t)<|(at? x1 x13).bind λx21=>if x21=1 then(ref04_From.k3 fu nx1 x1 x12 x13 0)else ref04_From.k3 fu nx1 x1 x12 x13 x18)else some (x12,0)
def ref04_From.W1(fu:Nat)(x1:List Int)(x2:List Int)(x7:(List Int)×Int)(x12:Int)(x13:Int):Option (Int×Int):=
  cloop (λnext s=>ref04_From.L1 fu x1 x2 x7 (λx12 x13=>next (x12,x13)) s.1 s.2) fu (x12,x13)
def ref04_From.k2(fu:Nat)(x1:List Int)(x2:List Int)(x3:Int):Option (Int×Int):=
  (ref04_Index fu x2 x3).bind λx7=>ref04_From.W1 fu x1 x2 x7 0 0
def ref04_From.k1(fu:Nat)(x1:List Int)(x2:List Int)(x3:Int)(x5:Int×Int):Option (Int×Int):=
  jn 2 () (λ(t:Unit)=>ref04_From.k2 fu x1 x2 x3)<|if x3<0 then(some (0,2))else if x5.1<=x3 then(some (0,2))else ref04_From.k2 fu x1 x2 x3
def ref04_From(fu:Nat)(x1:List Int)(x2:List Int)(x3:Int):Option (Int×Int):=
  (ref04_Size fu x1).bind λx4=>if x4.2=0 then((ref04_Size fu x2).bind λx5=>if x5.2=0 then((ref04_Broadcast fu x1 x2).bind λx6=>jn 1 () (λ(t:Unit)=>ref04_From.k1 fu x1 x2 x3 x5)<|if x6.2=0 then((ref04_SameInts fu x6.1 x2).bind λx22=>if x22=true then(ref04_From.k1 fu x1 x2 x3 x5)else some (0,3))else some (0,3))else some (0,x5.2))else some (0,x4.2)
def ref05_Known(fu:Nat)(x1:Int):Option Bool:=
  if x1=1 then(some true)else if x1=7 then(some true)else some (decide (x1=9))
def ref05_Check.k1(fu:Nat)(x1:T_Tensor)(x4:Int)(x5:Int)(x6:Int):Option Int:=
  if(x1.fF.length:Int)=x4 then(if(x1.fI.length:Int)=x5 then(if(x1.fB.length:Int)=x6 then(some 0)else some 3)else some 3)else some 3
def ref05_Check(fu:Nat)(x1:T_Tensor):Option Int:=
  (ref05_Known fu x1.fType).bind λx2=>if x2=true then((ref04_Size fu x1.fDims).bind λx3=>if x3.2=0 then(jn 1 () (λ(t:Int×Int×Int)=>ref05_Check.k1 fu x1 t.1 t.2.1 t.2.2)<|if x1.fType=1 then(ref05_Check.k1 fu x1 x3.1 0 0)else if x1.fType=7 then(ref05_Check.k1 fu x1 0 x3.1 0)else ref05_Check.k1 fu x1 0 0 x3.1)else some x3.2)else some 5
def ref05_New(fu:Nat)(x1:Int)(x2:List Int):Option (T_Tensor×Int):=
  (ref05_Known fu x1).bind λx3=>if x3=true then((ref04_Size fu x2).bind λx4=>if x4.2=0 then(chk ((x2.length:Int)*8<=140737488355328)<|if x1=1 then(chk (0<=x4.1/\x4.1*4<=140737488355328)<|some (T_Tensor.mk x1 x2 (List.replicate x4.1.toNat (0:Int)) ([]) ([]),0))else if x1=7 then(chk (0<=x4.1/\x4.1*8<=140737488355328)<|some (T_Tensor.mk x1 x2 ([]) (List.replicate x4.1.toNat (0:Int)) ([]),0))else chk (0<=x4.1/\x4.1*1<=140737488355328)<|some (T_Tensor.mk x1 x2 ([]) ([]) (List.replicate x4.1.toNat (false:Bool)),0))else some (T_Tensor.mk 0 ([]) ([]) ([]) ([]),x4.2))else some (T_Tensor.mk 0 ([]) ([]) ([]) ([]),5)
def ref05_Pick.c2(fu:Nat)(nx1:(List Int)→(List Int)→(List Bool)→Int→Option (T_Tensor×Int))(x15:List Int)(x16:List Int)(x17:List Bool)(x18:Int)(x28:List Int)(x29:List Int)(x30:List Bool):Option (T_Tensor×Int):=
  chk (x15.length=x28.length)<|chk (x16.length=x29.length)<|chk (x17.length=x30.length)<|nx1 x28 x29 x30 (wk .i64 (x18+1))
def ref05_Pick.k1(fu:Nat)(nx1:(List Int)→(List Int)→(List Bool)→Int→Option (T_Tensor×Int))(x1:T_Tensor)(x3:List Int)(x5:T_Tensor×Int)(x15:List Int)(x16:List Int)(x17:List Bool)(x18:Int):Option (T_Tensor×Int):=
  (at? x3 x18).bind λx27=>if 0<=x27 then(jc 2 () (λ(t:(List Int)×(List Int)×(List Bool))=>ref05_Pick.c2 fu nx1 x15 x16 x17 x18 t.1 t.2.1 t.2.2)<|if x5.1.fType=1 then((at? x1.fF x27).bind λx31=>chk (0<=x18/\x18<(x15.length:Int))<|ref05_Pick.c2 fu nx1 x15 x16 x17 x18 (x15.set x18.toNat x31) x16 x17)else if x5.1.fType=7 then((at? x1.fI x27).bind λx32=>chk (0<=x18/\x18<(x16.length:Int))<|ref05_Pick.c2 fu nx1 x15 x16 x17 x18 x15 (x16.set x18.toNat x32) x17)else(at? x1.fB x27).bind λx33=>chk (0<=x18/\x18<(x17.length:Int))<|ref05_Pick.c2 fu nx1 x15 x16 x17 x18 x15 x16 (x17.set x18.toNat x33))else nx1 x15 x16 x17 (wk .i64 (x18+1))
def ref05_Pick.L1(fu:Nat)(x1:T_Tensor)(x3:List Int)(x5:T_Tensor×Int)(x6:Int×Int)(nx1:(List Int)→(List Int)→(List Bool)→Int→Option (T_Tensor×Int))(x15:List Int)(x16:List Int)(x17:List Bool)(x18:Int):Option (T_Tensor×Int):=
  if x18<x6.1 then(jn 1 () (λ(t:Unit)=>ref05_Pick.k1 fu nx1 x1 x3 x5 x15 x16 x17 x18)<|(at? x3 x18).bind λx34=>if x34<(-1)then(some (T_Tensor.mk 0 ([]) ([]) ([]) ([]),2))else if(wk .i64 ((wk .i64 ((x1.fF.length:Int)+(x1.fI.length:Int)))+(x1.fB.length:Int)))<=x34 then(some (T_Tensor.mk 0 ([]) ([]) ([]) ([]),2))else ref05_Pick.k1 fu nx1 x1 x3 x5 x15 x16 x17 x18)else some (T_Tensor.mk x5.1.fType x5.1.fDims x15 x16 x17,0)
def ref05_Pick.W1(fu:Nat)(x1:T_Tensor)(x3:List Int)(x5:T_Tensor×Int)(x6:Int×Int)(x15:List Int)(x16:List Int)(x17:List Bool)(x18:Int):Option (T_Tensor×Int):=
  cloop (λnext s=>ref05_Pick.L1 fu x1 x3 x5 x6 (λx15 x16 x17 x18=>next (x15,x16,x17,x18)) s.1 s.2.1 s.2.2.1 s.2.2.2) fu (x15,x16,x17,x18)
def ref05_Pick(fu:Nat)(x1:T_Tensor)(x2:List Int)(x3:List Int):Option (T_Tensor×Int):=
  (ref05_Check fu x1).bind λx4=>if x4=0 then((ref05_New fu x1.fType x2).bind λx5=>if x5.2=0 then((ref04_Size fu x2).bind λx6=>if(x3.length:Int)=x6.1 then(ref05_Pick.W1 fu x1 x3 x5 x6 x5.1.fF x5.1.fI x5.1.fB 0)else some (T_Tensor.mk 0 ([]) ([]) ([]) ([]),3))else some (T_Tensor.mk 0 ([]) ([]) ([]) ([]),x5.2))else some (T_Tensor.mk 0 ([]) ([]) ([]) ([]),x4)
def law11_spread.k1(fu:Nat)(x1:T_Tensor)(x2:List Int)(x4:List Int):Option T_Tensor:=
  (ref05_Pick fu x1 x2 x4).bind λx5=>some x5.1
def law11_spread.L1(fu:Nat)(x1:T_Tensor)(x2:List Int)(x3:Int×Int)(nx1:(List Int)→Int→Option T_Tensor)(x7:List Int)(x8:Int):Option T_Tensor:=
  if x8<x3.1 then((ref04_From fu x1.fDims x2 x8).bind λx10=>chk ((x7.length+1:Int)*8<=140737488355328)<|nx1 (x7++([x10.1])) (wk .i64 (x8+1)))else law11_spread.k1 fu x1 x2 x7
def law11_spread.W1(fu:Nat)(x1:T_Tensor)(x2:List Int)(x3:Int×Int)(x7:List Int)(x8:Int):Option T_Tensor:=
  cloop (λnext s=>law11_spread.L1 fu x1 x2 x3 (λx7 x8=>next (x7,x8)) s.1 s.2) fu (x7,x8)
def law11_spread(fu:Nat)(x1:T_Tensor)(x2:List Int):Option T_Tensor:=
  (ref04_Size fu x2).bind λx3=>jn 1 () (λ(t:List Int)=>law11_spread.k1 fu x1 x2 t)<|law11_spread.W1 fu x1 x2 x3 ([]:List Int) 0
def ref05_Same.L1(fu:Nat)(x1:T_Tensor)(x2:T_Tensor)(nx1:Int→Option Bool)(x5:Int):Option Bool:=
  if x5<(x1.fB.length:Int)then((at? x1.fB x5).bind λx8=>(at? x2.fB x5).bind λx9=>if(x8==x9)=true then(nx1 (wk .i64 (x5+1)))else some false)else some true
def ref05_Same.W1(fu:Nat)(x1:T_Tensor)(x2:T_Tensor)(x5:Int):Option Bool:=
  cloop (λnext s=>ref05_Same.L1 fu x1 x2 next s) fu x5
def ref05_Same.k3(fu:Nat)(x1:T_Tensor)(x2:T_Tensor):Option Bool:=
  ref05_Same.W1 fu x1 x2 0
def ref05_Same.L2(fu:Nat)(x1:T_Tensor)(x2:T_Tensor)(nx2:Int→Option Bool)(x12:Int):Option Bool:=
  if x12<(x1.fI.length:Int)then((at? x1.fI x12).bind λx15=>(at? x2.fI x12).bind λx16=>if x15=x16 then(nx2 (wk .i64 (x12+1)))else some false)else ref05_Same.k3 fu x1 x2
def ref05_Same.W2(fu:Nat)(x1:T_Tensor)(x2:T_Tensor)(x12:Int):Option Bool:=
  cloop (λnext s=>ref05_Same.L2 fu x1 x2 next s) fu x12
def ref05_Same.k2(fu:Nat)(x1:T_Tensor)(x2:T_Tensor):Option Bool:=
  jn 3 () (λ(t:Unit)=>ref05_Same.k3 fu x1 x2)<|ref05_Same.W2 fu x1 x2 0
def ref05_Same.L3(fu:Nat)(x1:T_Tensor)(x2:T_Tensor)(nx3:Int→Option Bool)(x19:Int):Option Bool:=
  if x19<(x1.fF.length:Int)then((at? x1.fF x19).bind λx22=>(at? x2.fF x19).bind λx23=>if x22=x23 then(nx3 (wk .i64 (x19+1)))else some false)else ref05_Same.k2 fu x1 x2
def ref05_Same.W3(fu:Nat)(x1:T_Tensor)(x2:T_Tensor)(x19:Int):Option Bool:=
  cloop (λnext s=>ref05_Same.L3 fu x1 x2 next s) fu x19
def ref05_Same.k1(fu:Nat)(x1:T_Tensor)(x2:T_Tensor):Option Bool:=
  jn 2 () (λ(t:Unit)=>ref05_Same.k2 fu x1 x2)<|ref05_Same.W3 fu x1 x2 0
def ref05_Same(fu:Nat)(x1:T_Tensor)(x2:T_Tensor):Option Bool:=
  jn 1 () (λ(t:Unit)=>ref05_Same.k1 fu x1 x2)<|if x1.fType=x2.fType then((ref04_SameInts fu x1.fDims x2.fDims).bind λx24=>if x24=true then(if(x1.fF.length:Int)=(x2.fF.length:Int)then(if(x1.fI.length:Int)=(x2.fI.length:Int)then(if(x1.fB.length:Int)=(x2.fB.length:Int)then(ref05_Same.k1 fu x1 x2)else some false)else some false)else some false)else some false)else some false
def law11_EwiseSpread.k2(fu:Nat)(x5:T_Tensor×Int):Option Bool:=
  some (decide ((wk .i64 ((wk .i64 ((x5.1.fF.length:Int)+(x5.1.fI.length:Int)))+(x5.1.fB.length:Int)))=0))
def law11_EwiseSpread.k1(fu:Nat)(x1:Int)(x2:T_Setting)(x3:T_Tensor)(x4:T_Tensor):Option Bool:=
  (ewise_Do fu x1 x2 ([x3,x4])).bind λx5=>if x5.2=0 then((law11_spread fu x3 x5.1.fDims).bind λx6=>(law11_spread fu x4 x5.1.fDims).bind λx7=>(ewise_Do fu x1 x2 ([x6,x7])).bind λx8=>if x8.2=0 then((ref05_Same fu x5.1 x8.1).bind λx9=>some x9)else some false)else jn 2 x5 (λ(t:Unit)=>law11_EwiseSpread.k2 fu x5)<|law11_EwiseSpread.k2 fu x5
def law11_EwiseSpread(fu:Nat)(x1:Int)(x2:T_Setting)(x3:T_Tensor)(x4:T_Tensor):Option Bool:=
  jn 1 () (λ(t:Unit)=>law11_EwiseSpread.k1 fu x1 x2 x3 x4)<|if x1<23 then(some true)else if 41<x1 then(some true)else if x1=26 then(some true)else if x1=27 then(some true)else law11_EwiseSpread.k1 fu x1 x2 x3 x4
end Go.Av
