/- Plain functions, as the program has them; data of structs. Made by a program of mine. Conditions: none. -/
import Derived.Test.YteafmomjfnlkgaaGreatXt
import Derived.Test.YteafmomjfnlkgaaGreatAu
set_option linter.unusedVariables false
namespace Go.Av
structure T_Tensor where
  fType:Int
  fDims:List Int
  fF:List Int
  fI:List Int
  fB:List Bool
def bV(x:T_Tensor):List AV:=[.v (.int .i64 x.fType),.arr x.fDims.length (lm (ik .i64) x.fDims),.arr x.fF.length (lm (ik .u32) x.fF),.arr x.fI.length (lm (ik .i64) x.fI),.arr x.fB.length (lm (bk) x.fB)]
theorem kE: ∀ x,(bV x).length=5:=λ_=>rfl
theorem WM: ∀ x,(bV x).all AV.one=true:=λ_=>rfl
structure T_Setting where
  fAxis:Int
  fAxes:List Int
  fHasAxes:Bool
  fKeep:Bool
  fNoop:Bool
  fLast:Bool
  fZero:Bool
  fPerm:List Int
  fHasPerm:Bool
  fAlpha:Int
  fBeta:Int
  fEpsilon:Int
  fLow:Bool
  fHigh:Bool
  fFmod:Bool
  fTo:Int
  fMode:Int
  fTransA:Bool
  fTransB:Bool
  fGroup:Int
  fKernel:List Int
  fStrides:List Int
  fPads:List Int
  fDilations:List Int
  fAuto:Int
  fCeil:Bool
  fCount:Bool
  fBlock:Int
  fStart:Int
  fEnd:Int
  fHasEnd:Bool
  fValue:T_Tensor
def dL(x:T_Setting):List AV:=[.v (.int .i64 x.fAxis),.arr x.fAxes.length (lm (ik .i64) x.fAxes),.v (.bool x.fHasAxes),.v (.bool x.fKeep),.v (.bool x.fNoop),.v (.bool x.fLast),.v (.bool x.fZero),.arr x.fPerm.length (lm (ik .i64) x.fPerm),.v (.bool x.fHasPerm),.v (.int .u32 x.fAlpha),.v (.int .u32 x.fBeta),.v (.int .u32 x.fEpsilon),.v (.bool x.fLow),.v (.bool x.fHigh),.v (.bool x.fFmod),.v (.int .i64 x.fTo),.v (.int .i64 x.fMode),.v (.bool x.fTransA),.v (.bool x.fTransB),.v (.int .i64 x.fGroup),.arr x.fKernel.length (lm (ik .i64) x.fKernel),.arr x.fStrides.length (lm (ik .i64) x.fStrides),.arr x.fPads.length (lm (ik .i64) x.fPads),.arr x.fDilations.length (lm (ik .i64) x.fDilations),.v (.int .i64 x.fAuto),.v (.bool x.fCeil),.v (.bool x.fCount),.v (.int .i64 x.fBlock),.v (.int .i64 x.fStart),.v (.int .i64 x.fEnd),.v (.bool x.fHasEnd),.v (.int .i64 x.fValue.fType),.arr x.fValue.fDims.length (lm (ik .i64) x.fValue.fDims),.arr x.fValue.fF.length (lm (ik .u32) x.fValue.fF),.arr x.fValue.fI.length (lm (ik .i64) x.fValue.fI),.arr x.fValue.fB.length (lm (bk) x.fValue.fB)]
theorem nC: ∀ x,(dL x).length=36:=λ_=>rfl
theorem abS: ∀ x,(dL x).all AV.one=true:=λ_=>rfl
structure aQ where
  fType:Int
  fDims:List Int
  fConst:Bool
  fT:T_Tensor
def cO(x:aQ):List AV:=[.v (.int .i64 x.fType),.arr x.fDims.length (lm (ik .i64) x.fDims),.v (.bool x.fConst),.v (.int .i64 x.fT.fType),.arr x.fT.fDims.length (lm (ik .i64) x.fT.fDims),.arr x.fT.fF.length (lm (ik .u32) x.fT.fF),.arr x.fT.fI.length (lm (ik .i64) x.fT.fI),.arr x.fT.fB.length (lm (bk) x.fT.fB)]
theorem gG: ∀ x,(cO x).length=8:=λ_=>rfl
theorem aa8: ∀ x,(cO x).all AV.one=true:=λ_=>rfl
structure aX where
  fop:Int
  fs:T_Setting
  fin:List aQ
  fouts:Int
def bK(x:aX):List AV:=[.v (.int .i64 x.fop),.v (.int .i64 x.fs.fAxis),.arr x.fs.fAxes.length (lm (ik .i64) x.fs.fAxes),.v (.bool x.fs.fHasAxes),.v (.bool x.fs.fKeep),.v (.bool x.fs.fNoop),.v (.bool x.fs.fLast),.v (.bool x.fs.fZero),.arr x.fs.fPerm.length (lm (ik .i64) x.fs.fPerm),.v (.bool x.fs.fHasPerm),.v (.int .u32 x.fs.fAlpha),.v (.int .u32 x.fs.fBeta),.v (.int .u32 x.fs.fEpsilon),.v (.bool x.fs.fLow),.v (.bool x.fs.fHigh),.v (.bool x.fs.fFmod),.v (.int .i64 x.fs.fTo),.v (.int .i64 x.fs.fMode),.v (.bool x.fs.fTransA),.v (.bool x.fs.fTransB),.v (.int .i64 x.fs.fGroup),.arr x.fs.fKernel.length (lm (ik .i64) x.fs.fKernel),.arr x.fs.fStrides.length (lm (ik .i64) x.fs.fStrides),.arr x.fs.fPads.length (lm (ik .i64) x.fs.fPads),.arr x.fs.fDilations.length (lm (ik .i64) x.fs.fDilations),.v (.int .i64 x.fs.fAuto),.v (.bool x.fs.fCeil),.v (.bool x.fs.fCount),.v (.int .i64 x.fs.fBlock),.v (.int .i64 x.fs.fStart),.v (.int .i64 x.fs.fEnd),.v (.bool x.fs.fHasEnd),.v (.int .i64 x.fs.fValue.fType),.arr x.fs.fValue.fDims.length (lm (ik .i64) x.fs.fValue.fDims),.arr x.fs.fValue.fF.length (lm (ik .u32) x.fs.fValue.fF),.arr x.fs.fValue.fI.length (lm (ik .i64) x.fs.fValue.fI),.arr x.fs.fValue.fB.length (lm (bk) x.fs.fValue.fB),.arr x.fin.length (fm cO x.fin),.v (.int .i64 x.fouts)]
theorem qJ: ∀ x,(bK x).length=39:=λ_=>rfl
theorem ad6: ∀ x,(bK x).all AV.one=true:=λ_=>rfl
structure dN where
  fop:Int
  fs:T_Setting
  fin:List T_Tensor
  fout:T_Tensor
  fsize:Int
def kN(x:dN):List AV:=[.v (.int .i64 x.fop),.v (.int .i64 x.fs.fAxis),.arr x.fs.fAxes.length (lm (ik .i64) x.fs.fAxes),.v (.bool x.fs.fHasAxes),.v (.bool x.fs.fKeep),.v (.bool x.fs.fNoop),.v (.bool x.fs.fLast),.v (.bool x.fs.fZero),.arr x.fs.fPerm.length (lm (ik .i64) x.fs.fPerm),.v (.bool x.fs.fHasPerm),.v (.int .u32 x.fs.fAlpha),.v (.int .u32 x.fs.fBeta),.v (.int .u32 x.fs.fEpsilon),.v (.bool x.fs.fLow),.v (.bool x.fs.fHigh),.v (.bool x.fs.fFmod),.v (.int .i64 x.fs.fTo),.v (.int .i64 x.fs.fMode),.v (.bool x.fs.fTransA),.v (.bool x.fs.fTransB),.v (.int .i64 x.fs.fGroup),.arr x.fs.fKernel.length (lm (ik .i64) x.fs.fKernel),.arr x.fs.fStrides.length (lm (ik .i64) x.fs.fStrides),.arr x.fs.fPads.length (lm (ik .i64) x.fs.fPads),.arr x.fs.fDilations.length (lm (ik .i64) x.fs.fDilations),.v (.int .i64 x.fs.fAuto),.v (.bool x.fs.fCeil),.v (.bool x.fs.fCount),.v (.int .i64 x.fs.fBlock),.v (.int .i64 x.fs.fStart),.v (.int .i64 x.fs.fEnd),.v (.bool x.fs.fHasEnd),.v (.int .i64 x.fs.fValue.fType),.arr x.fs.fValue.fDims.length (lm (ik .i64) x.fs.fValue.fDims),.arr x.fs.fValue.fF.length (lm (ik .u32) x.fs.fValue.fF),.arr x.fs.fValue.fI.length (lm (ik .i64) x.fs.fValue.fI),.arr x.fs.fValue.fB.length (lm (bk) x.fs.fValue.fB),.arr x.fin.length (fm bV x.fin),.v (.int .i64 x.fout.fType),.arr x.fout.fDims.length (lm (ik .i64) x.fout.fDims),.arr x.fout.fF.length (lm (ik .u32) x.fout.fF),.arr x.fout.fI.length (lm (ik .i64) x.fout.fI),.arr x.fout.fB.length (lm (bk) x.fout.fB),.v (.int .i64 x.fsize)]
theorem uz: ∀ x,(kN x).length=44:=λ_=>rfl
theorem afw: ∀ x,(kN x).all AV.one=true:=λ_=>rfl
structure dQ where
  fneg:Bool
  fexp:Int
  fsig:Int
def nR(x:dQ):List AV:=[.v (.bool x.fneg),.v (.int .i64 x.fexp),.v (.int .u64 x.fsig)]
theorem xU: ∀ x,(nR x).length=3:=λ_=>rfl
theorem ai6: ∀ x,(nR x).all AV.one=true:=λ_=>rfl
structure gI where
  fneg:Bool
  fnan:Bool
  finf:Bool
  fexp:Int
  fsig:Int
def rM(x:gI):List AV:=[.v (.bool x.fneg),.v (.bool x.fnan),.v (.bool x.finf),.v (.int .i64 x.fexp),.v (.int .u64 x.fsig)]
theorem DJ: ∀ x,(rM x).length=5:=λ_=>rfl
theorem amL: ∀ x,(rM x).all AV.one=true:=λ_=>rfl
structure bU where
  fhigh:Int
  flow:Int
def fJ(x:bU):List AV:=[.v (.int .u64 x.fhigh),.v (.int .u64 x.flow)]
theorem LY: ∀ x,(fJ x).length=2:=λ_=>rfl
theorem adr: ∀ x,(fJ x).all AV.one=true:=λ_=>rfl
def rO(fu:Nat)(x1:Int):Option Bool:=
  if 1<=x1 then(some (decide (x1<=44)))else some false
def qX(fu:Nat)(x1:Int):Option Int:=
  if x1=1 then(some 4)else if x1=7 then(some 8)else if x1=9 then(some 1)else some 0
def xN(fu:Nat)(x1:Int):Option Bool:=
  (qX fu x1).bind λx2=>some (decide (0<x2))
def lY.L1(fu:Nat)(p1:Int→Option Bool)(x1:List Int)(nx1:Int→Option Int)(x4:Int):Option Int:=
  if x4<(x1.length:Int)then((at? x1 x4).bind λx7=>(p1 x7).bind λx8=>if x8=true then(some x4)else nx1 (wk .i64 (x4+1)))else some (-1)
def lY.W1(fu:Nat)(p1:Int→Option Bool)(x1:List Int)(x4:Int):Option Int:=
  bz (λnext s=>lY.L1 fu p1 x1 next s) fu x4
def lY(fu:Nat)(x1:List Int)(p1:Int→Option Bool):Option Int:=
  lY.W1 fu p1 x1 0
def oM(fu:Nat)(x1:List Int)(p1:Int→Option Bool):Option Bool:=
  (lY fu x1 p1).bind λx2=>some (decide (0<=x2))
def yH(fu:Nat)(x1:Int):Option Bool:=
  some (decide (x1<0))
def zu(fu:Nat)(x1:Int):Option Bool:=
  some (decide (4096<x1))
def slices_Index_int.L1(fu:Nat)(x1:List Int)(x2:Int)(nx1:Int→Option Int)(x4:Int):Option Int:=
  if x4<(x1.length:Int)then((at? x1 x4).bind λx6=>if x2=x6 then(some x4)else nx1 (wk .i64 (x4+1)))else some (-1)
def slices_Index_int.W1(fu:Nat)(x1:List Int)(x2:Int)(x4:Int):Option Int:=
  bz (λnext s=>slices_Index_int.L1 fu x1 x2 next s) fu x4
def slices_Index_int(fu:Nat)(x1:List Int)(x2:Int):Option Int:=
  slices_Index_int.W1 fu x1 x2 0
def slices_Contains_int(fu:Nat)(x1:List Int)(x2:Int):Option Bool:=
  (slices_Index_int fu x1 x2).bind λx3=>some (decide (0<=x3))
def eU.L1(fu:Nat)(x1:List Int)(nx1:Int→Int→Option (Int×Int))(x5:Int)(x6:Int):Option (Int×Int):=
  if x6<(x1.length:Int)then((at? x1 x6).bind λx8=>chk (x5≠0)<|if(wk .i64 (Int.tdiv 4096 x5))<x8 then(some (0,4))else nx1 (wk .i64 (x5*x8)) (wk .i64 (x6+1)))else some (x5,0)
def eU.W1(fu:Nat)(x1:List Int)(x5:Int)(x6:Int):Option (Int×Int):=
  bz (λnext s=>eU.L1 fu x1 (λx5 x6=>next (x5,x6)) s.1 s.2) fu (x5,x6)
def eU.k1(fu:Nat)(x1:List Int):Option (Int×Int):=
  (slices_Contains_int fu x1 0).bind λx3=>if x3=true then(some (0,0))else eU.W1 fu x1 1 0
def eU(fu:Nat)(x1:List Int):Option (Int×Int):=
  (oM fu x1 (λy0=>yH fu y0)).bind λx2=>if x2=true then(some (0,1))else jn 1 () (λ(t:Unit)=>eU.k1 fu x1)<|if 8<(x1.length:Int)then(some (0,4))else(oM fu x1 (λy0=>zu fu y0)).bind λx9=>if x9=true then(some (0,4))else eU.k1 fu x1
def jP.k1(fu:Nat)(x1:T_Tensor)(x3:Int×Int)(x4:Int):Option Int:=
  if x4=x3.1 then(if(wk .i64 ((wk .i64 ((x1.fF.length:Int)+(x1.fI.length:Int)))+(x1.fB.length:Int)))=x3.1 then(some 0)else some 3)else some 3
def jP(fu:Nat)(x1:T_Tensor):Option Int:=
  (xN fu x1.fType).bind λx2=>if x2=true then((eU fu x1.fDims).bind λx3=>if x3.2=0 then(jn 1 () (λ(t:Int)=>jP.k1 fu x1 x3 t)<|if x1.fType=7 then(jP.k1 fu x1 x3 (x1.fI.length:Int))else if x1.fType=9 then(jP.k1 fu x1 x3 (x1.fB.length:Int))else jP.k1 fu x1 x3 (x1.fF.length:Int))else some x3.2)else some 5
def BK(fu:Nat)(x1:List Int):Option (List Int):=
  chk ((x1.length:Int)*8<=140737488355328)<|some x1
def zQ(fu:Nat)(x1:List Int):Option (List Int):=
  chk ((x1.length:Int)*4<=140737488355328)<|some x1
def BA(fu:Nat)(x1:List Int):Option (List Int):=
  chk ((x1.length:Int)*8<=140737488355328)<|some x1
def AA(fu:Nat)(x1:List Bool):Option (List Bool):=
  chk ((x1.length:Int)*1<=140737488355328)<|some x1
def xk(fu:Nat)(x1:T_Tensor):Option T_Tensor:=
  (BK fu x1.fDims).bind λx2=>(zQ fu x1.fF).bind λx3=>(BA fu x1.fI).bind λx4=>(AA fu x1.fB).bind λx5=>some (T_Tensor.mk x1.fType x2 x3 x4 x5)
def iU(fu:Nat)(x1:Int):Option Int:=
  some (uM .u32 x1 2147483648)
def dV(fu:Nat)(x1:Int):Option Bool:=
  (iU fu x1).bind λx2=>some (decide (2139095040<x2))
def pW(fu:Nat)(x1:Int):Option Int:=
  (dV fu x1).bind λx2=>if x2=true then(some 2143289344)else some x1
def jO.L1(fu:Nat)(x2:T_Tensor)(nx1:(List Int)→Int→Option T_Tensor)(x5:List Int)(x6:Int):Option T_Tensor:=
  if x6<((x2.fF.length:Nat):Int)then((at? x5 x6).bind λx9=>(pW fu x9).bind λx10=>chk (0<=x6/\x6<(x5.length:Int))<|nx1 (x5.set x6.toNat x10) (wk .i64 (x6+1)))else some (T_Tensor.mk x2.fType x2.fDims x5 x2.fI x2.fB)
def jO.W1(fu:Nat)(x2:T_Tensor)(x5:List Int)(x6:Int):Option T_Tensor:=
  bz (λnext s=>jO.L1 fu x2 (λx5 x6=>next (x5,x6)) s.1 s.2) fu (x5,x6)
def jO(fu:Nat)(x1:T_Tensor):Option T_Tensor:=
  (xk fu x1).bind λx2=>jO.W1 fu x2 x2.fF 0
def slices_Clone_int(fu:Nat)(x1:List Int):Option (List Int):=
  chk ((x1.length:Int)*8<=140737488355328)<|some x1
def ku.L1(fu:Nat)(x1:List T_Tensor)(nx1:(List aQ)→Int→Option (List aQ))(x5:List aQ)(x6:Int):Option (List aQ):=
  if x6<(x1.length:Int)then((at? x1 x6).bind λx10=>if x10.fType=0 then(chk ((x5.length+1:Int)*144<=140737488355328)<|nx1 (x5++([aQ.mk 0 ([]) false (T_Tensor.mk 0 ([]) ([]) ([]) ([]))])) (wk .i64 (x6+1)))else(slices_Clone_int fu x10.fDims).bind λx11=>(xk fu x10).bind λx12=>chk ((x5.length+1:Int)*144<=140737488355328)<|nx1 (x5++([aQ.mk x10.fType x11 true x12])) (wk .i64 (x6+1)))else some x5
def ku.W1(fu:Nat)(x1:List T_Tensor)(x5:List aQ)(x6:Int):Option (List aQ):=
  bz (λnext s=>ku.L1 fu x1 (λx5 x6=>next (x5,x6)) s.1 s.2) fu (x5,x6)
def ku(fu:Nat)(x1:List T_Tensor):Option (List aQ):=
  ku.W1 fu x1 ([]:List aQ) 0
def tA:List (Nat×Nat):=[(1,1),(1,1),(1,1),(1,1),(1,1),(1,1),(1,1),(1,1),(1,1),(1,1),(1,1),(1,1),(1,1),(1,1),(1,1),(1,1),(1,1),(1,1),(1,1),(1,1),(1,1),(1,1),(2,2),(2,2),(2,2),(1,1),(1,1),(2,2),(2,2),(2,2),(2,2),(2,2),(2,2),(2,2),(2,2),(2,2),(2,2),(2,2),(2,2),(2,2),(2,2),(3,3),(1,3),(1,1)]
def zC(fu:Nat)(x1:Int):Option (Int×Int×Int×Int):=match x1 with
  | .ofNat (n+1)=>tA[n]?.map λq=>((q.1:Int),(q.2:Int),1,1)
  |_=>none
def lZ(fu:Nat)(x1:aX)(x2:Int):Option aQ:=
  if x2<(x1.fin.length:Int)then((at? x1.fin x2).bind λx3=>some x3)else some (aQ.mk 0 ([]) false (T_Tensor.mk 0 ([]) ([]) ([]) ([])))
def vT(fu:Nat)(x1:aX)(x2:Int):Option Bool:=
  (lZ fu x1 x2).bind λx3=>some (!(decide (x3.fType=0)))
def jf.L1(fu:Nat)(x1:aX)(x2:Int×Int×Int×Int)(nx1:Int→Option Bool)(x4:Int):Option Bool:=
  if x4<x2.1 then((vT fu x1 x4).bind λx6=>if x6=true then(nx1 (wk .i64 (x4+1)))else some false)else some true
def jf.W1(fu:Nat)(x1:aX)(x2:Int×Int×Int×Int)(x4:Int):Option Bool:=
  bz (λnext s=>jf.L1 fu x1 x2 next s) fu x4
def jf.k1(fu:Nat)(x1:aX)(x2:Int×Int×Int×Int):Option Bool:=
  jf.W1 fu x1 x2 0
def jf(fu:Nat)(x1:aX):Option Bool:=
  (zC fu x1.fop).bind λx2=>jn 1 () (λ(t:Unit)=>jf.k1 fu x1 x2)<|if x2.2.2.1=0 then(some false)else if x1.fop=61 then(none)else if(x1.fin.length:Int)<x2.1 then(some false)else if x2.2.1<(x1.fin.length:Int)then(some false)else if x1.fouts<x2.2.2.1 then(some false)else if x2.2.2.2<x1.fouts then(some false)else jf.k1 fu x1 x2
def dC.k5(fu:Nat)(x1:Int):Option ByteArray:=
  if x1=51 then(none)else if x1=52 then(none)else if x1=53 then(none)else if x1=62 then(none)else if x1=65 then(none)else some (⟨#[102]⟩:ByteArray)
def dC.k4(fu:Nat)(x1:Int)(x5:Bool):Option ByteArray:=
  if x5=true then(some (⟨#[97]⟩:ByteArray))else jn 5 x1 (λ(t:Unit)=>dC.k5 fu x1)<|if x1=46 then(none)else if x1=48 then(none)else if x1=49 then(none)else if x1=54 then(none)else if x1=55 then(none)else if x1=56 then(none)else if x1=57 then(none)else if x1=50 then(none)else dC.k5 fu x1
def dC.k3(fu:Nat)(x1:Int)(x4:Bool):Option ByteArray:=
  if x4=true then(some (⟨#[110,61]⟩:ByteArray))else if x1=37 then(some (⟨#[97,61]⟩:ByteArray))else if x1=47 then(none)else if x1=42 then(some (⟨#[98,97,43]⟩:ByteArray))else jn 4 () (λ(t:Bool)=>dC.k4 fu x1 t)<|if x1=21 then(dC.k4 fu x1 true)else if x1=44 then(dC.k4 fu x1 true)else if x1=45 then(none)else if x1=58 then(none)else if x1=59 then(none)else if x1=60 then(none)else if x1=63 then(none)else dC.k4 fu x1 (decide (x1=64))
def dC.k2(fu:Nat)(x1:Int)(x3:Bool):Option ByteArray:=
  if x3=true then(some (⟨#[98]⟩:ByteArray))else jn 3 () (λ(t:Bool)=>dC.k3 fu x1 t)<|if x1=28 then(dC.k3 fu x1 true)else if x1=29 then(dC.k3 fu x1 true)else if x1=30 then(dC.k3 fu x1 true)else if x1=31 then(dC.k3 fu x1 true)else if x1=32 then(dC.k3 fu x1 true)else if x1=34 then(dC.k3 fu x1 true)else if x1=35 then(dC.k3 fu x1 true)else if x1=38 then(dC.k3 fu x1 true)else if x1=39 then(dC.k3 fu x1 true)else if x1=40 then(dC.k3 fu x1 true)else if x1=41 then(dC.k3 fu x1 true)else dC.k3 fu x1 (decide (x1=43))
def dC.k1(fu:Nat)(x1:Int)(x2:Bool):Option ByteArray:=
  if x2=true then(some (⟨#[110]⟩:ByteArray))else jn 2 () (λ(t:Bool)=>dC.k2 fu x1 t)<|if x1=22 then(dC.k2 fu x1 true)else if x1=23 then(dC.k2 fu x1 true)else if x1=24 then(dC.k2 fu x1 true)else dC.k2 fu x1 (decide (x1=25))
def dC(fu:Nat)(x1:Int):Option ByteArray:=
  jn 1 () (λ(t:Bool)=>dC.k1 fu x1 t)<|if x1=1 then(dC.k1 fu x1 true)else if x1=2 then(dC.k1 fu x1 true)else if x1=3 then(dC.k1 fu x1 true)else if x1=67 then(none)else if x1=68 then(none)else if x1=69 then(none)else if x1=70 then(none)else dC.k1 fu x1 (decide (x1=71))
def oK.k1(fu:Nat)(x5:Bool):Option Bool:=
  some x5
def oK(fu:Nat)(x1:aX)(x2:Int)(x3:Int):Option Bool:=
  (lZ fu x1 x2).bind λx4=>if x3=110 then(jn 1 () (λ(t:Bool)=>oK.k1 fu t)<|if x4.fType=1 then(oK.k1 fu true)else oK.k1 fu (decide (x4.fType=7)))else if x3=102 then(some (decide (x4.fType=1)))else if x3=98 then(some (decide (x4.fType=9)))else if x3=105 then(some (decide (x4.fType=7)))else if x3=61 then((lZ fu x1 0).bind λx6=>some (decide (x4.fType=x6.fType)))else if x3=43 then((lZ fu x1 (wk .i64 (x2 - 1))).bind λx7=>some (decide (x4.fType=x7.fType)))else(qX fu x4.fType).bind λx8=>some (decide (0<x8))
def ja.k1(fu:Nat)(x1:aX):Option Bool:=
  if x1.fop=52 then(none)else some true
def ja.L1(fu:Nat)(x1:aX)(x2:ByteArray)(nx1:Int→Option Bool)(x8:Int):Option Bool:=
  if x8<(x1.fin.length:Int)then((vT fu x1 x8).bind λx14=>if x14=true then((lZ fu x1 x8).bind λx15=>(qX fu x15.fType).bind λx16=>if x16=0 then(some false)else(sat? x2 (xY x8 (wk .i64 ((x2.size:Int) - 1)))).bind λx17=>(oK fu x1 x8 x17).bind λx18=>if x18=true then(nx1 (wk .i64 (x8+1)))else some false)else nx1 (wk .i64 (x8+1)))else ja.k1 fu x1
def ja.W1(fu:Nat)(x1:aX)(x2:ByteArray)(x8:Int):Option Bool:=
  bz (λnext s=>ja.L1 fu x1 x2 next s) fu x8
def ja(fu:Nat)(x1:aX):Option Bool:=
  (dC fu x1.fop).bind λx2=>jn 1 () (λ(t:Unit)=>ja.k1 fu x1)<|ja.W1 fu x1 x2 0
def kz(fu:Nat)(x1:aX)(x2:Int):Option (List Int):=
  (lZ fu x1 x2).bind λx3=>some x3.fDims
def zI(fu:Nat)(x1:aX):Option Int:=
  (kz fu x1 0).bind λx2=>some (x2.length:Int)
def kX.k2(fu:Nat)(x1:aX):Option Bool:=
  if x1.fop=69 then(none)else if x1.fop=75 then(none)else if x1.fop=76 then(none)else if x1.fop=77 then(none)else some true
def kX.k1(fu:Nat)(x1:aX):Option Bool:=
  if x1.fop=80 then(none)else if x1.fop=58 then(none)else jn 2 x1 (λ(t:Unit)=>kX.k2 fu x1)<|if x1.fop=66 then(none)else if x1.fop=67 then(none)else if x1.fop=68 then(none)else kX.k2 fu x1
def kX(fu:Nat)(x1:aX):Option Bool:=
  (zI fu x1).bind λx2=>if x1.fop=32 then(if x1.fs.fFmod=true then(some true)else(lZ fu (aX.mk x1.fop (T_Setting.mk x1.fs.fAxis x1.fs.fAxes x1.fs.fHasAxes x1.fs.fKeep x1.fs.fNoop x1.fs.fLast x1.fs.fZero x1.fs.fPerm x1.fs.fHasPerm x1.fs.fAlpha x1.fs.fBeta x1.fs.fEpsilon x1.fs.fLow x1.fs.fHigh false x1.fs.fTo x1.fs.fMode x1.fs.fTransA x1.fs.fTransB x1.fs.fGroup x1.fs.fKernel x1.fs.fStrides x1.fs.fPads x1.fs.fDilations x1.fs.fAuto x1.fs.fCeil x1.fs.fCount x1.fs.fBlock x1.fs.fStart x1.fs.fEnd x1.fs.fHasEnd x1.fs.fValue) x1.fin x1.fouts) 0).bind λx3=>some (decide (x3.fType=7)))else if x1.fop=44 then((qX fu x1.fs.fTo).bind λx4=>some (decide (0<x4)))else if x1.fop=62 then(none)else if x1.fop=63 then(none)else if x1.fop=64 then(none)else if x1.fop=45 then(none)else jn 1 x1 (λ(t:Unit)=>kX.k1 fu x1)<|if x1.fop=47 then(none)else if x1.fop=48 then(none)else if x1.fop=50 then(none)else if x1.fop=51 then(none)else if x1.fop=52 then(none)else if x1.fop=70 then(none)else if x1.fop=71 then(none)else if x1.fop=72 then(none)else kX.k1 fu x1
def o7.k1(fu:Nat)(x1:aX):Option (List aQ):=
  if x1.fop=65 then(none)else some ([])
def o7(fu:Nat)(x1:aX):Option (List aQ):=
  if x1.fop=62 then(none)else if x1.fop=49 then(none)else jn 1 x1 (λ(t:Unit)=>o7.k1 fu x1)<|if x1.fop=46 then(none)else if x1.fop=48 then(none)else if x1.fop=53 then(none)else if x1.fop=54 then(none)else if x1.fop=55 then(none)else if x1.fop=56 then(none)else if x1.fop=57 then(none)else o7.k1 fu x1
def pz.L1(fu:Nat)(p1:aQ→Option Bool)(x1:List aQ)(nx1:Int→Option Int)(x4:Int):Option Int:=
  if x4<(x1.length:Int)then((at? x1 x4).bind λx7=>(p1 x7).bind λx8=>if x8=true then(some x4)else nx1 (wk .i64 (x4+1)))else some (-1)
def pz.W1(fu:Nat)(p1:aQ→Option Bool)(x1:List aQ)(x4:Int):Option Int:=
  bz (λnext s=>pz.L1 fu p1 x1 next s) fu x4
def pz(fu:Nat)(x1:List aQ)(p1:aQ→Option Bool):Option Int:=
  pz.W1 fu p1 x1 0
def qj(fu:Nat)(x1:List aQ)(p1:aQ→Option Bool):Option Bool:=
  (pz fu x1 p1).bind λx2=>some (decide (0<=x2))
def slices_Equal_int.L1(fu:Nat)(x1:List Int)(x2:List Int)(nx1:Int→Option Bool)(x5:Int):Option Bool:=
  if x5<(x1.length:Int)then((at? x1 x5).bind λx8=>(at? x2 x5).bind λx9=>if x8=x9 then(nx1 (wk .i64 (x5+1)))else some false)else some true
def slices_Equal_int.W1(fu:Nat)(x1:List Int)(x2:List Int)(x5:Int):Option Bool:=
  bz (λnext s=>slices_Equal_int.L1 fu x1 x2 next s) fu x5
def slices_Equal_int(fu:Nat)(x1:List Int)(x2:List Int):Option Bool:=
  if(x1.length:Int)=(x2.length:Int)then(slices_Equal_int.W1 fu x1 x2 0)else some false
def CY(fu:Nat)(x1:aQ):Option Bool:=
  if x1.fConst=true then((jP fu x1.fT).bind λx2=>if x2=0 then(if x1.fT.fType=x1.fType then((slices_Equal_int fu x1.fT.fDims x1.fDims).bind λx3=>some x3)else some false)else some false)else some false
def BD(fu:Nat)(x1:aQ):Option Bool:=
  (CY fu x1).bind λx2=>some (!x2)
def BN(fu:Nat)(x1:aQ):Option Bool:=
  some (!(decide ((x1.fDims.length:Int)=1)))
def oP.L1(fu:Nat)(p1:Int→Option Bool)(x1:List Int)(nx1:Int→Option Int)(x4:Int):Option Int:=
  if x4<(x1.length:Int)then((at? x1 x4).bind λx7=>(p1 x7).bind λx8=>if x8=true then(some x4)else nx1 (wk .i64 (x4+1)))else some (-1)
def oP.W1(fu:Nat)(p1:Int→Option Bool)(x1:List Int)(x4:Int):Option Int:=
  bz (λnext s=>oP.L1 fu p1 x1 next s) fu x4
def oP(fu:Nat)(x1:List Int)(p1:Int→Option Bool):Option Int:=
  oP.W1 fu p1 x1 0
def EO(fu:Nat)(x1:List Int)(p1:Int→Option Bool):Option Bool:=
  (oP fu x1 p1).bind λx2=>some (decide (0<=x2))
def BB(fu:Nat)(x1:Int):Option Bool:=
  some (decide (4096<x1))
def Ar(fu:Nat)(x1:aQ):Option Bool:=
  (EO fu x1.fT.fI (λy0=>BB fu y0)).bind λx2=>some x2
def y9(fu:Nat)(x1:aX):Option Int:=
  (o7 fu x1).bind λx2=>(qj fu x2 (λy0=>BD fu y0)).bind λx3=>if x3=true then(some 15)else(qj fu x2 (λy0=>BN fu y0)).bind λx4=>if x4=true then(some 3)else if x1.fop=49 then(none)else(qj fu x2 (λy0=>Ar fu y0)).bind λx5=>if x5=true then(some 4)else some 0
def jl.k1(fu:Nat)(x1:aX):Option Int:=
  (ja fu x1).bind λx2=>if x2=true then((kX fu x1).bind λx3=>if x3=true then((y9 fu x1).bind λx4=>some x4)else some 14)else some 5
def jl.L1(fu:Nat)(x1:aX)(nx1:Int→Option Int)(x8:Int):Option Int:=
  if x8<(x1.fin.length:Int)then((at? x1.fin x8).bind λx12=>(eU fu x12.fDims).bind λx13=>(vT fu x1 x8).bind λx14=>if x14=true then(if x13.2=0 then(nx1 (wk .i64 (x8+1)))else some 4)else nx1 (wk .i64 (x8+1)))else jl.k1 fu x1
def jl.W1(fu:Nat)(x1:aX)(x8:Int):Option Int:=
  bz (λnext s=>jl.L1 fu x1 next s) fu x8
def jl(fu:Nat)(x1:aX):Option Int:=
  jn 1 () (λ(t:Unit)=>jl.k1 fu x1)<|jl.W1 fu x1 0
def dJ.k3(fu:Nat)(x7:List Int):Option ((List Int)×Int):=
  (eU fu x7).bind λx8=>if x8.2=0 then(some (x7,0))else some ([],x8.2)
def dJ.L1(fu:Nat)(x4:List Int)(x5:List Int)(nx1:(List Int)→Int→Option ((List Int)×Int))(x11:List Int)(x12:Int):Option ((List Int)×Int):=
  if x12<(x5.length:Int)then((at? x5 x12).bind λx15=>(at? x11 (wk .i64 ((wk .i64 ((x4.length:Int) - (x5.length:Int)))+x12))).bind λx16=>if x16=1 then(chk (0<=wk .i64 ((wk .i64 ((x4.length:Int) - (x5.length:Int)))+x12)/\wk .i64 ((wk .i64 ((x4.length:Int) - (x5.length:Int)))+x12)<(x11.length:Int))<|nx1 (x11.set (wk .i64 ((wk .i64 ((x4.length:Int) - (x5.length:Int)))+x12)).toNat x15) (wk .i64 (x12+1)))else if x15=1 then(nx1 x11 (wk .i64 (x12+1)))else if x15=x16 then(nx1 x11 (wk .i64 (x12+1)))else some ([],3))else dJ.k3 fu x11
def dJ.W1(fu:Nat)(x4:List Int)(x5:List Int)(x11:List Int)(x12:Int):Option ((List Int)×Int):=
  bz (λnext s=>dJ.L1 fu x4 x5 (λx11 x12=>next (x11,x12)) s.1 s.2) fu (x11,x12)
def dJ.k2(fu:Nat)(x4:List Int)(x5:List Int):Option ((List Int)×Int):=
  (slices_Clone_int fu x4).bind λx6=>jn 3 () (λ(t:List Int)=>dJ.k3 fu t)<|dJ.W1 fu x4 x5 x6 0
def dJ.k1(fu:Nat)(x1:List Int)(x2:List Int)(x3:List (List Int)):Option ((List Int)×Int):=
  jn 2 () (λ(t:(List Int)×(List Int))=>dJ.k2 fu t.1 t.2)<|if(x1.length:Int)<(x2.length:Int)then(dJ.k2 fu x2 x1)else dJ.k2 fu x1 x2
def dJ.L2(fu:Nat)(x1:List Int)(x2:List Int)(nx2:(List (List Int))→Int→Option ((List Int)×Int))(x19:List (List Int))(x20:Int):Option ((List Int)×Int):=
  if x20<2 then((at? x19 x20).bind λx23=>(eU fu x23).bind λx24=>if x24.2=0 then(nx2 x19 (wk .i64 (x20+1)))else some ([],x24.2))else dJ.k1 fu x1 x2 x19
def dJ.W2(fu:Nat)(x1:List Int)(x2:List Int)(x19:List (List Int))(x20:Int):Option ((List Int)×Int):=
  bz (λnext s=>dJ.L2 fu x1 x2 (λx19 x20=>next (x19,x20)) s.1 s.2) fu (x19,x20)
def dJ(fu:Nat)(x1:List Int)(x2:List Int):Option ((List Int)×Int):=
  jn 1 () (λ(t:List (List Int))=>dJ.k1 fu x1 x2 t)<|dJ.W2 fu x1 x2 ([x1,x2]) 0
def Ai(fu:Nat)(x1:List Int):Option ((List (List Int))×Int):=
  some ([x1],0)
def je.k1(fu:Nat)(x3:List Int):Option ((List (List Int))×Int):=
  (Ai fu x3).bind λx4=>some (x4.1,x4.2)
def je.L1(fu:Nat)(x1:aX)(nx1:(List Int)→Int→Option ((List (List Int))×Int))(x7:List Int)(x8:Int):Option ((List (List Int))×Int):=
  if x8<(x1.fin.length:Int)then((kz fu x1 x8).bind λx11=>(dJ fu x7 x11).bind λx12=>if x12.2=0 then(nx1 x12.1 (wk .i64 (x8+1)))else some ([],x12.2))else je.k1 fu x7
def je.W1(fu:Nat)(x1:aX)(x7:List Int)(x8:Int):Option ((List (List Int))×Int):=
  bz (λnext s=>je.L1 fu x1 (λx7 x8=>next (x7,x8)) s.1 s.2) fu (x7,x8)
def je(fu:Nat)(x1:aX):Option ((List (List Int))×Int):=
  (kz fu x1 0).bind λx2=>jn 1 () (λ(t:List Int)=>je.k1 fu t)<|je.W1 fu x1 x2 1
def zA(fu:Nat)(x1:List Int)(x2:List Int):Option Int:=
  (dJ fu x1 x2).bind λx3=>if x3.2=4 then(some x3.2)else if x3.2=0 then((slices_Equal_int fu x3.1 x2).bind λx4=>if x4=true then(some 0)else some 3)else some 3
def zM(fu:Nat):Option ((List (List Int))×Int):=
  some ([],3)
def dB.k1(fu:Nat)(x2:List Int):Option ((List (List Int))×Int):=
  (Ai fu x2).bind λx3=>some (x3.1,x3.2)
def dB.k4(fu:Nat)(x1:aX)(x2:List Int):Option ((List (List Int))×Int):=
  if x1.fop=71 then(none)else if x1.fop=73 then(none)else if x1.fop=74 then(none)else if x1.fop=75 then(none)else if x1.fop=76 then(none)else if x1.fop=77 then(none)else if x1.fop=78 then(none)else if x1.fop=79 then(none)else if x1.fop=80 then(none)else dB.k1 fu x2
def dB.k3(fu:Nat)(x1:aX)(x2:List Int):Option ((List (List Int))×Int):=
  if x1.fop=64 then(none)else jn 4 x1 (λ(t:Unit)=>dB.k4 fu x1 x2)<|if x1.fop=65 then(none)else if x1.fop=66 then(none)else if x1.fop=67 then(none)else if x1.fop=68 then(none)else if x1.fop=69 then(none)else if x1.fop=70 then(none)else dB.k4 fu x1 x2
def dB.k2(fu:Nat)(x1:aX)(x2:List Int)(x4:Bool):Option ((List (List Int))×Int):=
  if x4=true then((je fu x1).bind λx5=>some (x5.1,x5.2))else if x1.fop=36 then((kz fu x1 1).bind λx6=>(zA fu x6 x2).bind λx7=>if x7=0 then(dB.k1 fu x2)else some ([],x7))else if x1.fop=43 then((kz fu x1 1).bind λx8=>(kz fu x1 2).bind λx9=>if 0<(wk .i64 ((x8.length:Int)+(x9.length:Int)))then((zM fu).bind λx10=>some (x10.1,x10.2))else dB.k1 fu x2)else jn 3 x1 (λ(t:Unit)=>dB.k3 fu x1 x2)<|if x1.fop=45 then(none)else if x1.fop=46 then(none)else if x1.fop=47 then(none)else if x1.fop=48 then(none)else if x1.fop=49 then(none)else if x1.fop=50 then(none)else if x1.fop=51 then(none)else if x1.fop=52 then(none)else if x1.fop=53 then(none)else if x1.fop=54 then(none)else if x1.fop=55 then(none)else if x1.fop=56 then(none)else if x1.fop=57 then(none)else if x1.fop=58 then(none)else if x1.fop=59 then(none)else if x1.fop=60 then(none)else if x1.fop=62 then(none)else if x1.fop=63 then(none)else dB.k3 fu x1 x2
def dB(fu:Nat)(x1:aX):Option ((List (List Int))×Int):=
  (kz fu x1 0).bind λx2=>jn 1 () (λ(t:Unit)=>dB.k1 fu x2)<|jn 2 () (λ(t:Bool)=>dB.k2 fu x1 x2 t)<|if x1.fop=23 then(dB.k2 fu x1 x2 true)else if x1.fop=24 then(dB.k2 fu x1 x2 true)else if x1.fop=25 then(dB.k2 fu x1 x2 true)else if x1.fop=28 then(dB.k2 fu x1 x2 true)else if x1.fop=29 then(dB.k2 fu x1 x2 true)else if x1.fop=30 then(dB.k2 fu x1 x2 true)else if x1.fop=31 then(dB.k2 fu x1 x2 true)else if x1.fop=32 then(dB.k2 fu x1 x2 true)else if x1.fop=33 then(dB.k2 fu x1 x2 true)else if x1.fop=34 then(dB.k2 fu x1 x2 true)else if x1.fop=35 then(dB.k2 fu x1 x2 true)else if x1.fop=37 then(dB.k2 fu x1 x2 true)else if x1.fop=38 then(dB.k2 fu x1 x2 true)else if x1.fop=39 then(dB.k2 fu x1 x2 true)else if x1.fop=40 then(dB.k2 fu x1 x2 true)else if x1.fop=41 then(dB.k2 fu x1 x2 true)else dB.k2 fu x1 x2 (decide (x1.fop=42))
def fZ.k1(fu:Nat)(x1:aX):Option Int:=
  (lZ fu x1 0).bind λx2=>some x2.fType
def fZ.k3(fu:Nat)(x1:aX):Option Int:=
  if x1.fop=71 then(none)else if x1.fop=44 then(some x1.fs.fTo)else if x1.fop=62 then(none)else if x1.fop=42 then((lZ fu x1 1).bind λx4=>some x4.fType)else fZ.k1 fu x1
def fZ.k2(fu:Nat)(x1:aX)(x3:Bool):Option Int:=
  if x3=true then(some 9)else jn 3 x1 (λ(t:Unit)=>fZ.k3 fu x1)<|if x1.fop=59 then(none)else if x1.fop=60 then(none)else if x1.fop=70 then(none)else fZ.k3 fu x1
def fZ(fu:Nat)(x1:aX):Option Int:=
  jn 1 () (λ(t:Unit)=>fZ.k1 fu x1)<|jn 2 () (λ(t:Bool)=>fZ.k2 fu x1 t)<|if x1.fop=22 then(fZ.k2 fu x1 true)else if x1.fop=23 then(fZ.k2 fu x1 true)else if x1.fop=24 then(fZ.k2 fu x1 true)else if x1.fop=25 then(fZ.k2 fu x1 true)else if x1.fop=26 then(fZ.k2 fu x1 true)else if x1.fop=27 then(fZ.k2 fu x1 true)else if x1.fop=37 then(fZ.k2 fu x1 true)else if x1.fop=38 then(fZ.k2 fu x1 true)else if x1.fop=39 then(fZ.k2 fu x1 true)else if x1.fop=40 then(fZ.k2 fu x1 true)else fZ.k2 fu x1 (decide (x1.fop=41))
def jG.L1(fu:Nat)(x1:Int)(x2:T_Setting)(x3:List aQ)(x4:Int)(x7:(List (List Int))×Int)(nx1:(List aQ)→Int→Option ((List aQ)×Int))(x12:List aQ)(x13:Int):Option ((List aQ)×Int):=
  if x13<(x7.1.length:Int)then((at? x7.1 x13).bind λx18=>(eU fu x18).bind λx19=>if x19.2=0 then((fZ fu (aX.mk x1 x2 x3 x4)).bind λx20=>(slices_Clone_int fu x18).bind λx21=>chk ((x12.length+1:Int)*144<=140737488355328)<|nx1 (x12++([aQ.mk x20 x21 false (T_Tensor.mk 0 ([]) ([]) ([]) ([]))])) (wk .i64 (x13+1)))else some ([],4))else some (x12,0)
def jG.W1(fu:Nat)(x1:Int)(x2:T_Setting)(x3:List aQ)(x4:Int)(x7:(List (List Int))×Int)(x12:List aQ)(x13:Int):Option ((List aQ)×Int):=
  bz (λnext s=>jG.L1 fu x1 x2 x3 x4 x7 (λx12 x13=>next (x12,x13)) s.1 s.2) fu (x12,x13)
def jG(fu:Nat)(x1:Int)(x2:T_Setting)(x3:List aQ)(x4:Int):Option ((List aQ)×Int):=
  (jf fu (aX.mk x1 x2 x3 x4)).bind λx5=>if x5=true then((jl fu (aX.mk x1 x2 x3 x4)).bind λx6=>if x6=0 then((dB fu (aX.mk x1 x2 x3 x4)).bind λx7=>if x7.2=0 then(jG.W1 fu x1 x2 x3 x4 x7 ([]:List aQ) 0)else some ([],x7.2))else some ([],x6))else some ([],1)
def qM(fu:Nat)(x1:Int)(x2:List Int):Option (T_Tensor×Int):=
  (xN fu x1).bind λx3=>if x3=true then((eU fu x2).bind λx4=>if x4.2=0 then((slices_Clone_int fu x2).bind λx5=>if x1=1 then(chk (0<=x4.1/\x4.1*4<=140737488355328)<|some (T_Tensor.mk x1 x5 (List.replicate x4.1.toNat (0:Int)) ([]) ([]),0))else if x1=7 then(chk (0<=x4.1/\x4.1*8<=140737488355328)<|some (T_Tensor.mk x1 x5 ([]) (List.replicate x4.1.toNat (0:Int)) ([]),0))else chk (0<=x4.1/\x4.1*1<=140737488355328)<|some (T_Tensor.mk x1 x5 ([]) ([]) (List.replicate x4.1.toNat (false:Bool)),0))else some (T_Tensor.mk 0 ([]) ([]) ([]) ([]),x4.2))else some (T_Tensor.mk 0 ([]) ([]) ([]) ([]),5)
def mF.L1(fu:Nat)(x1:List Int)(nx1:(List Int)→Int→Int→Option (List Int))(x3:List Int)(x4:Int)(x5:Int):Option (List Int):=
  if 0<=x5 then(chk (0<=x5/\x5<(x3.length:Int))<|(at? x1 x5).bind λx7=>nx1 (x3.set x5.toNat x4) (wk .i64 (x4*x7)) (wk .i64 (x5 - 1)))else some x3
def mF.W1(fu:Nat)(x1:List Int)(x3:List Int)(x4:Int)(x5:Int):Option (List Int):=
  bz (λnext s=>mF.L1 fu x1 (λx3 x4 x5=>next (x3,x4,x5)) s.1 s.2.1 s.2.2) fu (x3,x4,x5)
def mF(fu:Nat)(x1:List Int):Option (List Int):=
  chk (0<=(x1.length:Int)/\(x1.length:Int)*8<=140737488355328)<|mF.W1 fu x1 (List.replicate (x1.length:Int).toNat (0:Int)) 1 (wk .i64 ((x1.length:Int) - 1))
def jK.L1(fu:Nat)(x4:List Int)(nx1:(List Int)→Int→Int→Option ((List Int)×Int))(x6:List Int)(x7:Int)(x8:Int):Option ((List Int)×Int):=
  if x8<(x4.length:Int)then((at? x4 x8).bind λx10=>chk (x10≠0)<|chk (0<=x8/\x8<(x6.length:Int))<|nx1 (x6.set x8.toNat (wk .i64 (Int.tdiv x7 x10))) (Int.tmod x7 x10) (wk .i64 (x8+1)))else some (x6,0)
def jK.W1(fu:Nat)(x4:List Int)(x6:List Int)(x7:Int)(x8:Int):Option ((List Int)×Int):=
  bz (λnext s=>jK.L1 fu x4 (λx6 x7 x8=>next (x6,x7,x8)) s.1 s.2.1 s.2.2) fu (x6,x7,x8)
def jK.k1(fu:Nat)(x1:List Int)(x2:Int):Option ((List Int)×Int):=
  chk (0<=(x1.length:Int)/\(x1.length:Int)*8<=140737488355328)<|(mF fu x1).bind λx4=>jK.W1 fu x4 (List.replicate (x1.length:Int).toNat (0:Int)) x2 0
def jK(fu:Nat)(x1:List Int)(x2:Int):Option ((List Int)×Int):=
  (eU fu x1).bind λx3=>if x3.2=0 then(jn 1 () (λ(t:Unit)=>jK.k1 fu x1 x2)<|if x2<0 then(some ([],2))else if x3.1<=x2 then(some ([],2))else jK.k1 fu x1 x2)else some ([],x3.2)
def jM.L1(fu:Nat)(x1:List Int)(x2:List Int)(x7:(List Int)×Int)(x8:List Int)(nx1:Int→Int→Option (Int×Int))(x12:Int)(x13:Int):Option (Int×Int):=
  if x13<(x8.length:Int)then((at? x8 x13).bind λx17=>(at? x1 x13).bind λx18=>if x18=1 then(nx1 x12 (wk .i64 (x13+1)))else(at? (oZ x7.1 (wk .i64 ((x2.length:Int) - (x1.length:Int))).toNat x7.1.length) x13).bind λx19=>nx1 (wk .i64 (x12+(wk .i64 (x19*x17)))) (wk .i64 (x13+1)))else some (x12,0)
def jM.W1(fu:Nat)(x1:List Int)(x2:List Int)(x7:(List Int)×Int)(x8:List Int)(x12:Int)(x13:Int):Option (Int×Int):=
  bz (λnext s=>jM.L1 fu x1 x2 x7 x8 (λx12 x13=>next (x12,x13)) s.1 s.2) fu (x12,x13)
def jM.k1(fu:Nat)(x1:List Int)(x2:List Int)(x3:Int):Option (Int×Int):=
  (jK fu x2 x3).bind λx7=>if x7.2=0 then(chk (0<=wk .i64 ((x2.length:Int) - (x1.length:Int))/\wk .i64 ((x2.length:Int) - (x1.length:Int))<=(x7.1.length:Int))<|(mF fu x1).bind λx8=>jM.W1 fu x1 x2 x7 x8 0 0)else some (0,x7.2)
def jM(fu:Nat)(x1:List Int)(x2:List Int)(x3:Int):Option (Int×Int):=
  (eU fu x1).bind λx4=>if x4.2=0 then((eU fu x2).bind λx5=>if x5.2=0 then((dJ fu x1 x2).bind λx6=>jn 1 () (λ(t:Unit)=>jM.k1 fu x1 x2 x3)<|if x6.2=0 then((slices_Equal_int fu x6.1 x2).bind λx20=>if x20=true then(jM.k1 fu x1 x2 x3)else some (0,3))else some (0,3))else some (0,x5.2))else some (0,x4.2)
def gY(fu:Nat)(x1:dN)(x2:Int)(x3:Int):Option Int:=
  (at? x1.fin x2).bind λx4=>(jM fu x4.fDims x1.fout.fDims x3).bind λx5=>some x5.1
def fU.L1(fu:Nat)(x1:dN)(nx1:Int→Option Bool)(x5:Int):Option Bool:=
  if x5<x1.fsize then((at? x1.fin 1).bind λx9=>(gY fu x1 1 x5).bind λx10=>(at? x9.fI x10).bind λx11=>if x11=0 then(some true)else nx1 (wk .i64 (x5+1)))else some false
def fU.W1(fu:Nat)(x1:dN)(x5:Int):Option Bool:=
  bz (λnext s=>fU.L1 fu x1 next s) fu x5
def fU.k1(fu:Nat)(x1:dN):Option Bool:=
  fU.W1 fu x1 0
def fU(fu:Nat)(x1:dN):Option Bool:=
  jn 1 () (λ(t:Unit)=>fU.k1 fu x1)<|if x1.fop=31 then((at? x1.fin 0).bind λx12=>if x12.fType=7 then(fU.k1 fu x1)else some false)else if x1.fop=32 then((at? x1.fin 0).bind λx13=>if x13.fType=7 then(fU.k1 fu x1)else some false)else some false
def jW(fu:Nat)(x1:Int)(x2:Int)(p2:Int→Option Int):Option Int:=
  (p2 x1).bind λx4=>some x4
def lH(fu:Nat)(x1:Int):Option Int:=
  some (yY .u32 x1 2147483648)
def qZ(fu:Nat)(x1:Int):Option Int:=
  (iU fu x1).bind λx2=>if(aZ .u32 x1 31)=1 then(some (wk .i64 (0 - (wk .i64 x2))))else some (wk .i64 x2)
def iM(fu:Nat)(x1:Int)(x2:Int):Option Bool:=
  (dV fu x1).bind λx3=>if x3=true then(some false)else(dV fu x2).bind λx4=>if x4=true then(some false)else(qZ fu x1).bind λx5=>(qZ fu x2).bind λx6=>some (decide (x5<x6))
def CP(fu:Nat)(x1:Int):Option Int:=
  (dV fu x1).bind λx2=>if x2=true then(some x1)else(iM fu x1 0).bind λx3=>if x3=true then(some 3212836864)else(iM fu 0 x1).bind λx4=>if x4=true then(some 1065353216)else some 0
def nG(fu:Nat)(x1:Int):Option dQ:=
  if(wk .i64 (band .u32 (aZ .u32 x1 23) 255))=0 then(some (dQ.mk (decide ((aZ .u32 x1 31)=1)) (-149) (wk .u64 (band .u32 x1 8388607))))else some (dQ.mk (decide ((aZ .u32 x1 31)=1)) (wk .i64 ((wk .i64 (band .u32 (aZ .u32 x1 23) 255)) - 150)) (gy .u64 (wk .u64 (band .u32 x1 8388607)) 8388608))
def jb(fu:Nat)(x1:Int):Option Bool:=
  (iU fu x1).bind λx2=>some (decide (x2=2139095040))
def BR(fu:Nat)(x1:Bool)(x2:Int)(x3:Bool):Option Bool:=
  some x1
def ig.k2(fu:Nat)(x4:Int)(x5:Int):Option Int:=
  if 256<=x4 then((sat? (⟨((([0,1,2,2,3,3,3,3,4,4,4,4,4,4,4,4,5,5,5,5,5,5,5,5,5,5,5,5,5,5,5,5,6,6,6,6,6,6,6,6,6,6,6,6,6,6,6,6,6,6,6,6,6,6,6,6,6,6,6,6,6,6,6,6]).append ([7,7,7,7,7,7,7,7,7,7,7,7,7,7,7,7,7,7,7,7,7,7,7,7,7,7,7,7,7,7,7,7,7,7,7,7,7,7,7,7,7,7,7,7,7,7,7,7,7,7,7,7,7,7,7,7,7,7,7,7,7,7,7,7])).append (([8,8,8,8,8,8,8,8,8,8,8,8,8,8,8,8,8,8,8,8,8,8,8,8,8,8,8,8,8,8,8,8,8,8,8,8,8,8,8,8,8,8,8,8,8,8,8,8,8,8,8,8,8,8,8,8,8,8,8,8,8,8,8,8]).append ([8,8,8,8,8,8,8,8,8,8,8,8,8,8,8,8,8,8,8,8,8,8,8,8,8,8,8,8,8,8,8,8,8,8,8,8,8,8,8,8,8,8,8,8,8,8,8,8,8,8,8,8,8,8,8,8,8,8,8,8,8,8,8,8]))).toArray⟩:ByteArray) (wk .u8 (aZ .u64 x4 8))).bind λx6=>some (wk .i64 ((wk .i64 (x5+8))+(wk .i64 x6))))else(sat? (⟨((([0,1,2,2,3,3,3,3,4,4,4,4,4,4,4,4,5,5,5,5,5,5,5,5,5,5,5,5,5,5,5,5,6,6,6,6,6,6,6,6,6,6,6,6,6,6,6,6,6,6,6,6,6,6,6,6,6,6,6,6,6,6,6,6]).append ([7,7,7,7,7,7,7,7,7,7,7,7,7,7,7,7,7,7,7,7,7,7,7,7,7,7,7,7,7,7,7,7,7,7,7,7,7,7,7,7,7,7,7,7,7,7,7,7,7,7,7,7,7,7,7,7,7,7,7,7,7,7,7,7])).append (([8,8,8,8,8,8,8,8,8,8,8,8,8,8,8,8,8,8,8,8,8,8,8,8,8,8,8,8,8,8,8,8,8,8,8,8,8,8,8,8,8,8,8,8,8,8,8,8,8,8,8,8,8,8,8,8,8,8,8,8,8,8,8,8]).append ([8,8,8,8,8,8,8,8,8,8,8,8,8,8,8,8,8,8,8,8,8,8,8,8,8,8,8,8,8,8,8,8,8,8,8,8,8,8,8,8,8,8,8,8,8,8,8,8,8,8,8,8,8,8,8,8,8,8,8,8,8,8,8,8]))).toArray⟩:ByteArray) (wk .u8 x4)).bind λx7=>some (wk .i64 (x5+(wk .i64 x7)))
def ig.k1(fu:Nat)(x2:Int)(x3:Int):Option Int:=
  jn 2 () (λ(t:Int×Int)=>ig.k2 fu t.1 t.2)<|if 65536<=x2 then(ig.k2 fu (aZ .u64 x2 16) (wk .i64 (x3+16)))else ig.k2 fu x2 x3
def ig(fu:Nat)(x1:Int):Option Int:=
  jn 1 () (λ(t:Int×Int)=>ig.k1 fu t.1 t.2)<|if 4294967296<=x1 then(ig.k1 fu (aZ .u64 x1 32) 32)else ig.k1 fu x1 0
def zH(fu:Nat)(x1:Int)(x2:Bool):Option Bool:=
  chk (x1=0)<|some false
def jA(fu:Nat)(x1:Bool):Option Int:=
  if x1=true then(some 2147483648)else some 0
def wV(fu:Nat)(x1:Int)(x2:Bool):Option Int:=
  chk (x1=0)<|(zH fu 0 x2).bind λx3=>if x3=true then((jA fu x2).bind λx4=>some (gy .u32 x4 1))else(jA fu x2).bind λx5=>some x5
def mZ.k1(fu:Nat)(x2:Bool):Option Int:=
  (jA fu x2).bind λx3=>some (gy .u32 x3 2139095040)
def mZ(fu:Nat)(x1:Int)(x2:Bool):Option Int:=
  chk (x1=0)<|jn 1 () (λ(t:Unit)=>mZ.k1 fu x2)<|mZ.k1 fu x2
def bT.k3(fu:Nat)(x2:Bool)(x3:Int)(x6:Int)(x11:Int):Option Int:=
  if x11=0 then((jA fu x2).bind λx12=>some x12)else if 104<(wk .i64 (x3+(gu (wk .i64 (x6 - 24)) (wk .i64 ((-149) - x3)))))then((mZ fu 0 x2).bind λx13=>some x13)else if 2139095040<=(wk .u64 ((bY .u64 (wk .u64 (wk .i64 ((wk .i64 (x3+(gu (wk .i64 (x6 - 24)) (wk .i64 ((-149) - x3)))))+149))) 23)+x11))then((mZ fu 0 x2).bind λx14=>some x14)else(jA fu x2).bind λx15=>some (gy .u32 x15 (wk .u32 (wk .u64 ((bY .u64 (wk .u64 (wk .i64 ((wk .i64 (x3+(gu (wk .i64 (x6 - 24)) (wk .i64 ((-149) - x3)))))+149))) 23)+x11))))
def bT.k2(fu:Nat)(x2:Bool)(x3:Int)(x6:Int)(x7:Int)(x8:Bool)(x9:Bool)(x10:Bool):Option Int:=
  jn 3 () (λ(t:Int)=>bT.k3 fu x2 x3 x6 t)<|if x8=true then(bT.k3 fu x2 x3 x6 (wk .u64 (x7+1)))else if x9=true then(if(band .u64 x7 1)=1 then(bT.k3 fu x2 x3 x6 (wk .u64 (x7+1)))else bT.k3 fu x2 x3 x6 x7)else bT.k3 fu x2 x3 x6 x7
def bT.k4(fu:Nat)(x2:Bool)(x3:Int)(x4:Int)(x5:Bool)(x6:Int)(x16:Bool):Option Int:=
  if(band .u64 x4 (wk .u64 ((bY .u64 1 (gu (wk .i64 (x6 - 24)) (wk .i64 ((-149) - x3)))) - 1)))=(bY .u64 1 (wk .i64 ((gu (wk .i64 (x6 - 24)) (wk .i64 ((-149) - x3))) - 1)))then(if(band .u64 x4 (wk .u64 ((bY .u64 1 (gu (wk .i64 (x6 - 24)) (wk .i64 ((-149) - x3)))) - 1)))=0 then(bT.k2 fu x2 x3 x6 (aZ .u64 x4 (gu (wk .i64 (x6 - 24)) (wk .i64 ((-149) - x3)))) x16 (!x5) x5)else bT.k2 fu x2 x3 x6 (aZ .u64 x4 (gu (wk .i64 (x6 - 24)) (wk .i64 ((-149) - x3)))) x16 (!x5) true)else if(band .u64 x4 (wk .u64 ((bY .u64 1 (gu (wk .i64 (x6 - 24)) (wk .i64 ((-149) - x3)))) - 1)))=0 then(bT.k2 fu x2 x3 x6 (aZ .u64 x4 (gu (wk .i64 (x6 - 24)) (wk .i64 ((-149) - x3)))) x16 false x5)else bT.k2 fu x2 x3 x6 (aZ .u64 x4 (gu (wk .i64 (x6 - 24)) (wk .i64 ((-149) - x3)))) x16 false true
def bT.k1(fu:Nat)(x2:Bool)(x3:Int)(x4:Int)(x5:Bool)(x6:Int):Option Int:=
  jn 2 () (λ(t:Int×Bool×Bool×Bool)=>bT.k2 fu x2 x3 x6 t.1 t.2.1 t.2.2.1 t.2.2.2)<|if(gu (wk .i64 (x6 - 24)) (wk .i64 ((-149) - x3)))<=0 then(chk (0<=(wk .i64 (0 - (gu (wk .i64 (x6 - 24)) (wk .i64 ((-149) - x3))))))<|bT.k2 fu x2 x3 x6 (bY .u64 x4 (wk .i64 (0 - (gu (wk .i64 (x6 - 24)) (wk .i64 ((-149) - x3)))))) false false x5)else if x6<(gu (wk .i64 (x6 - 24)) (wk .i64 ((-149) - x3)))then(bT.k2 fu x2 x3 x6 0 false false true)else chk (0<=(gu (wk .i64 (x6 - 24)) (wk .i64 ((-149) - x3))))<|chk (0<=(wk .i64 ((gu (wk .i64 (x6 - 24)) (wk .i64 ((-149) - x3))) - 1)))<|jn 4 () (λ(t:Bool)=>bT.k4 fu x2 x3 x4 x5 x6 t)<|if(bY .u64 1 (wk .i64 ((gu (wk .i64 (x6 - 24)) (wk .i64 ((-149) - x3))) - 1)))<(band .u64 x4 (wk .u64 ((bY .u64 1 (gu (wk .i64 (x6 - 24)) (wk .i64 ((-149) - x3)))) - 1)))then(bT.k4 fu x2 x3 x4 x5 x6 true)else if(band .u64 x4 (wk .u64 ((bY .u64 1 (gu (wk .i64 (x6 - 24)) (wk .i64 ((-149) - x3)))) - 1)))=(bY .u64 1 (wk .i64 ((gu (wk .i64 (x6 - 24)) (wk .i64 ((-149) - x3))) - 1)))then(bT.k4 fu x2 x3 x4 x5 x6 x5)else bT.k4 fu x2 x3 x4 x5 x6 false
def bT(fu:Nat)(x1:Int)(x2:Bool)(x3:Int)(x4:Int)(x5:Bool):Option Int:=
  chk (x1=0)<|(ig fu x4).bind λx6=>jn 1 () (λ(t:Unit)=>bT.k1 fu x2 x3 x4 x5 x6)<|if x6=0 then(if x5=true then((wV fu 0 x2).bind λx17=>some x17)else(jA fu x2).bind λx18=>some x18)else if x3<(-300)then((wV fu 0 x2).bind λx19=>some x19)else if 200<x3 then((mZ fu 0 x2).bind λx20=>some x20)else bT.k1 fu x2 x3 x4 x5 x6
def iE.k3(fu:Nat)(x3:dQ)(x5:Int):Option Int:=
  (bT fu 0 x3.fneg 0 x5 false).bind λx6=>some x6
def iE.k2(fu:Nat)(x3:dQ)(x4:Int):Option Int:=
  jn 3 () (λ(t:Int)=>iE.k3 fu x3 t)<|(BR fu x3.fneg x4 (decide ((band .u64 (aZ .u64 x3.fsig (wk .i64 (0 - x3.fexp))) 1)=1))).bind λx7=>if x7=true then(iE.k3 fu x3 (wk .u64 ((aZ .u64 x3.fsig (wk .i64 (0 - x3.fexp)))+1)))else iE.k3 fu x3 (aZ .u64 x3.fsig (wk .i64 (0 - x3.fexp)))
def iE.k1(fu:Nat)(x1:Int)(x3:dQ):Option Int:=
  chk (0<=(wk .i64 (0 - x3.fexp)))<|if(wk .u64 (x3.fsig - (bY .u64 (aZ .u64 x3.fsig (wk .i64 (0 - x3.fexp))) (wk .i64 (0 - x3.fexp)))))=0 then(some x1)else jn 2 () (λ(t:Int)=>iE.k2 fu x3 t)<|if(-24)<=x3.fexp then(chk (0<=(wk .i64 ((wk .i64 (0 - x3.fexp)) - 1)))<|if(bY .u64 1 (wk .i64 ((wk .i64 (0 - x3.fexp)) - 1)))<(wk .u64 (x3.fsig - (bY .u64 (aZ .u64 x3.fsig (wk .i64 (0 - x3.fexp))) (wk .i64 (0 - x3.fexp)))))then(iE.k2 fu x3 1)else if(wk .u64 (x3.fsig - (bY .u64 (aZ .u64 x3.fsig (wk .i64 (0 - x3.fexp))) (wk .i64 (0 - x3.fexp)))))=(bY .u64 1 (wk .i64 ((wk .i64 (0 - x3.fexp)) - 1)))then(iE.k2 fu x3 0)else iE.k2 fu x3 (-1))else iE.k2 fu x3 (-1)
def iE(fu:Nat)(x1:Int):Option Int:=
  (dV fu x1).bind λx2=>if x2=true then(some 2143289344)else(nG fu x1).bind λx3=>jn 1 () (λ(t:Unit)=>iE.k1 fu x1 x3)<|(jb fu x1).bind λx8=>if x8=true then(some x1)else if 0<=x3.fexp then(some x1)else if x3.fsig=0 then(some x1)else iE.k1 fu x1 x3
def Bi(fu:Nat)(x1:Bool)(x2:Int)(x3:Bool):Option Bool:=
  some (!x1)
def iC.k3(fu:Nat)(x3:dQ)(x5:Int):Option Int:=
  (bT fu 0 x3.fneg 0 x5 false).bind λx6=>some x6
def iC.k2(fu:Nat)(x3:dQ)(x4:Int):Option Int:=
  jn 3 () (λ(t:Int)=>iC.k3 fu x3 t)<|(Bi fu x3.fneg x4 (decide ((band .u64 (aZ .u64 x3.fsig (wk .i64 (0 - x3.fexp))) 1)=1))).bind λx7=>if x7=true then(iC.k3 fu x3 (wk .u64 ((aZ .u64 x3.fsig (wk .i64 (0 - x3.fexp)))+1)))else iC.k3 fu x3 (aZ .u64 x3.fsig (wk .i64 (0 - x3.fexp)))
def iC.k1(fu:Nat)(x1:Int)(x3:dQ):Option Int:=
  chk (0<=(wk .i64 (0 - x3.fexp)))<|if(wk .u64 (x3.fsig - (bY .u64 (aZ .u64 x3.fsig (wk .i64 (0 - x3.fexp))) (wk .i64 (0 - x3.fexp)))))=0 then(some x1)else jn 2 () (λ(t:Int)=>iC.k2 fu x3 t)<|if(-24)<=x3.fexp then(chk (0<=(wk .i64 ((wk .i64 (0 - x3.fexp)) - 1)))<|if(bY .u64 1 (wk .i64 ((wk .i64 (0 - x3.fexp)) - 1)))<(wk .u64 (x3.fsig - (bY .u64 (aZ .u64 x3.fsig (wk .i64 (0 - x3.fexp))) (wk .i64 (0 - x3.fexp)))))then(iC.k2 fu x3 1)else if(wk .u64 (x3.fsig - (bY .u64 (aZ .u64 x3.fsig (wk .i64 (0 - x3.fexp))) (wk .i64 (0 - x3.fexp)))))=(bY .u64 1 (wk .i64 ((wk .i64 (0 - x3.fexp)) - 1)))then(iC.k2 fu x3 0)else iC.k2 fu x3 (-1))else iC.k2 fu x3 (-1)
def iC(fu:Nat)(x1:Int):Option Int:=
  (dV fu x1).bind λx2=>if x2=true then(some 2143289344)else(nG fu x1).bind λx3=>jn 1 () (λ(t:Unit)=>iC.k1 fu x1 x3)<|(jb fu x1).bind λx8=>if x8=true then(some x1)else if 0<=x3.fexp then(some x1)else if x3.fsig=0 then(some x1)else iC.k1 fu x1 x3
def yQ(fu:Nat)(x1:Bool)(x2:Int)(x3:Bool):Option Bool:=
  if 0<x2 then(some true)else if x2=0 then(some x3)else some false
def fM.k3(fu:Nat)(x3:dQ)(x5:Int):Option Int:=
  (bT fu 0 x3.fneg 0 x5 false).bind λx6=>some x6
def fM.k2(fu:Nat)(x3:dQ)(x4:Int):Option Int:=
  jn 3 () (λ(t:Int)=>fM.k3 fu x3 t)<|(yQ fu x3.fneg x4 (decide ((band .u64 (aZ .u64 x3.fsig (wk .i64 (0 - x3.fexp))) 1)=1))).bind λx7=>if x7=true then(fM.k3 fu x3 (wk .u64 ((aZ .u64 x3.fsig (wk .i64 (0 - x3.fexp)))+1)))else fM.k3 fu x3 (aZ .u64 x3.fsig (wk .i64 (0 - x3.fexp)))
def fM.k1(fu:Nat)(x1:Int)(x3:dQ):Option Int:=
  chk (0<=(wk .i64 (0 - x3.fexp)))<|if(wk .u64 (x3.fsig - (bY .u64 (aZ .u64 x3.fsig (wk .i64 (0 - x3.fexp))) (wk .i64 (0 - x3.fexp)))))=0 then(some x1)else jn 2 () (λ(t:Int)=>fM.k2 fu x3 t)<|if(-24)<=x3.fexp then(chk (0<=(wk .i64 ((wk .i64 (0 - x3.fexp)) - 1)))<|if(bY .u64 1 (wk .i64 ((wk .i64 (0 - x3.fexp)) - 1)))<(wk .u64 (x3.fsig - (bY .u64 (aZ .u64 x3.fsig (wk .i64 (0 - x3.fexp))) (wk .i64 (0 - x3.fexp)))))then(fM.k2 fu x3 1)else if(wk .u64 (x3.fsig - (bY .u64 (aZ .u64 x3.fsig (wk .i64 (0 - x3.fexp))) (wk .i64 (0 - x3.fexp)))))=(bY .u64 1 (wk .i64 ((wk .i64 (0 - x3.fexp)) - 1)))then(fM.k2 fu x3 0)else fM.k2 fu x3 (-1))else fM.k2 fu x3 (-1)
def fM(fu:Nat)(x1:Int):Option Int:=
  (dV fu x1).bind λx2=>if x2=true then(some 2143289344)else(nG fu x1).bind λx3=>jn 1 () (λ(t:Unit)=>fM.k1 fu x1 x3)<|(jb fu x1).bind λx8=>if x8=true then(some x1)else if 0<=x3.fexp then(some x1)else if x3.fsig=0 then(some x1)else fM.k1 fu x1 x3
def jR.L1(fu:Nat)(x1:Int)(nx1:Int→Int→Option Int)(x2:Int)(x3:Int):Option Int:=
  if 0<x3 then(if(wk .u64 ((gy .u64 x2 x3)*(gy .u64 x2 x3)))<=x1 then(nx1 (gy .u64 x2 x3) (aZ .u64 x3 1))else nx1 x2 (aZ .u64 x3 1))else some x2
def jR.W1(fu:Nat)(x1:Int)(x2:Int)(x3:Int):Option Int:=
  bz (λnext s=>jR.L1 fu x1 (λx2 x3=>next (x2,x3)) s.1 s.2) fu (x2,x3)
def jR(fu:Nat)(x1:Int):Option Int:=
  jR.W1 fu x1 0 2147483648
def oh.k1(fu:Nat)(x1:Int)(x6:dQ)(x8:Int):Option Int:=
  chk (0<=x8)<|(jR fu (bY .u64 x6.fsig x8)).bind λx9=>(bT fu x1 false (wk .i64 (Int.tdiv (wk .i64 (x6.fexp - x8)) 2)) x9 (!(decide ((wk .u64 (x9*x9))=(bY .u64 x6.fsig x8))))).bind λx10=>some x10
def oh(fu:Nat)(x1:Int)(x2:Int):Option Int:=
  (dV fu x2).bind λx3=>if x3=true then(some 2143289344)else(iU fu x2).bind λx4=>if x4=0 then(some x2)else if(aZ .u32 x2 31)=1 then(some 2143289344)else(jb fu x2).bind λx5=>if x5=true then(some x2)else(nG fu x2).bind λx6=>(ig fu x6.fsig).bind λx7=>jn 1 () (λ(t:Int)=>oh.k1 fu x1 x6 t)<|if(band .i64 (wk .i64 (x6.fexp - (wk .i64 (62 - x7)))) 1)=1 then(oh.k1 fu x1 x6 (wk .i64 ((wk .i64 (62 - x7))+1)))else oh.k1 fu x1 x6 (wk .i64 (62 - x7))
def EM(fu:Nat)(x1:Int):Option Int:=
  (oh fu 0 x1).bind λx2=>some x2
def nT(fu:Nat)(x1:Int):Option gI:=
  if(wk .i64 (band .u32 (aZ .u32 x1 23) 255))=255 then(some (gI.mk (decide ((aZ .u32 x1 31)=1)) (!(decide ((wk .u64 (band .u32 x1 8388607))=0))) (decide ((wk .u64 (band .u32 x1 8388607))=0)) 0 0))else if(wk .i64 (band .u32 (aZ .u32 x1 23) 255))=0 then(some (gI.mk (decide ((aZ .u32 x1 31)=1)) false false (-149) (wk .u64 (band .u32 x1 8388607))))else some (gI.mk (decide ((aZ .u32 x1 31)=1)) false false (wk .i64 ((wk .i64 (band .u32 (aZ .u32 x1 23) 255)) - 150)) (gy .u64 (wk .u64 (band .u32 x1 8388607)) 8388608))
def wR(fu:Nat)(x1:gI):Option gI:=
  (ig fu x1.fsig).bind λx2=>chk (0<=(wk .i64 (24 - x2)))<|some (gI.mk x1.fneg x1.fnan x1.finf (wk .i64 (x1.fexp - (wk .i64 (24 - x2)))) (bY .u64 x1.fsig (wk .i64 (24 - x2))))
def jk.k2(fu:Nat)(x4:gI)(x5:gI):Option Int:=
  (wR fu (gI.mk x4.fneg false false x4.fexp x4.fsig)).bind λx10=>(wR fu (gI.mk x5.fneg false false x5.fexp x5.fsig)).bind λx11=>chk (x11.fsig≠0)<|(bT fu 0 (!(x4.fneg==x5.fneg)) (wk .i64 ((wk .i64 (x10.fexp - x11.fexp)) - 38)) (wk .u64 (Int.tdiv (bY .u64 x10.fsig 38) x11.fsig)) (!(decide ((Int.tmod (bY .u64 x10.fsig 38) x11.fsig)=0)))).bind λx12=>some x12
def jk.k1(fu:Nat)(x4:gI)(x5:gI)(x6:Bool)(x7:Bool)(x8:Bool)(x9:Bool):Option Int:=
  jn 2 () (λ(t:Unit)=>jk.k2 fu x4 x5)<|if x4.fnan=true then(some 2143289344)else if x5.fnan=true then(some 2143289344)else if x6=true then(if x7=true then(some 2143289344)else if x8=true then(if x9=true then(some 2143289344)else(jA fu (!(x4.fneg==x5.fneg))).bind λx13=>some (gy .u32 x13 2139095040))else(jA fu (!(x4.fneg==x5.fneg))).bind λx14=>some (gy .u32 x14 2139095040))else if x8=true then(if x9=true then(some 2143289344)else if x7=true then((jA fu (!(x4.fneg==x5.fneg))).bind λx15=>some x15)else(jA fu (!(x4.fneg==x5.fneg))).bind λx16=>some x16)else if x9=true then((jA fu (!(x4.fneg==x5.fneg))).bind λx17=>some (gy .u32 x17 2139095040))else if x7=true then((jA fu (!(x4.fneg==x5.fneg))).bind λx18=>some x18)else jk.k2 fu x4 x5
def jk(fu:Nat)(x1:Int)(x2:Int)(x3:Int):Option Int:=
  chk (x1=0)<|(nT fu x2).bind λx4=>(nT fu x3).bind λx5=>jn 1 () (λ(t:Bool×Bool×Bool×Bool)=>jk.k1 fu x4 x5 t.1 t.2.1 t.2.2.1 t.2.2.2)<|if x4.finf=true then(if x5.finf=true then(jk.k1 fu x4 x5 true true false false)else jk.k1 fu x4 x5 true false false (decide (x5.fsig=0)))else if x5.finf=true then(jk.k1 fu x4 x5 false true (decide (x4.fsig=0)) false)else jk.k1 fu x4 x5 false false (decide (x4.fsig=0)) (decide (x5.fsig=0))
def qm(fu:Nat)(x1:Int)(x2:Int):Option Int:=
  (jk fu 0 x1 x2).bind λx3=>some x3
def DY(fu:Nat)(x1:Int)(x2:Int):Option Int:=
  (qm fu 1065353216 x1).bind λx3=>some x3
def qg.k1(fu:Nat)(x4:gI)(x5:gI):Option Int:=
  (bT fu 0 (!(x4.fneg==x5.fneg)) (wk .i64 (x4.fexp+x5.fexp)) (wk .u64 (x4.fsig*x5.fsig)) false).bind λx6=>some x6
def qg(fu:Nat)(x1:Int)(x2:Int)(x3:Int):Option Int:=
  chk (x1=0)<|(nT fu x2).bind λx4=>(nT fu x3).bind λx5=>jn 1 () (λ(t:Unit)=>qg.k1 fu x4 x5)<|if x4.fnan=true then(some 2143289344)else if x5.fnan=true then(some 2143289344)else if x4.finf=true then(if x5.finf=true then((jA fu (!(x4.fneg==x5.fneg))).bind λx7=>some (gy .u32 x7 2139095040))else if x5.fsig=0 then(some 2143289344)else(jA fu (!(x4.fneg==x5.fneg))).bind λx8=>some (gy .u32 x8 2139095040))else if x5.finf=true then(if x4.fsig=0 then(some 2143289344)else(jA fu (!(x4.fneg==x5.fneg))).bind λx9=>some (gy .u32 x9 2139095040))else qg.k1 fu x4 x5
def iI(fu:Nat)(x1:Int)(x2:Int):Option Int:=
  (qg fu 0 x1 x2).bind λx3=>some x3
def rH(fu:Nat)(x1:Bool):Option Int:=
  if x1=true then(some 2147483648)else some 0
def wS(fu:Nat)(x1:Int)(x2:Int):Option (bU×Bool):=
  if 64<=x2 then(chk (0<=(wk .i64 (x2 - 64)))<|some (bU.mk (bY .u64 x1 (wk .i64 (x2 - 64))) 0,false))else if 0<x2 then(chk (0<=(wk .i64 (64 - x2)))<|chk (0<=x2)<|some (bU.mk (aZ .u64 x1 (wk .i64 (64 - x2))) (bY .u64 x1 x2),false))else if x2=0 then(some (bU.mk 0 x1,false))else if x2<=(-64)then(some (bU.mk 0 0,!(decide (x1=0))))else chk (0<=(wk .i64 (0 - x2)))<|some (bU.mk 0 (aZ .u64 x1 (wk .i64 (0 - x2))),!(decide ((bY .u64 (aZ .u64 x1 (wk .i64 (0 - x2))) (wk .i64 (0 - x2)))=x1)))
def xW(fu:Nat)(x1:bU)(x2:bU):Option bU:=
  chk (0<=x1.flow/\0<=x2.flow/\0<=(0:Int)/\(0:Int)<=1)<|chk (0<=x1.fhigh/\0<=x2.fhigh/\0<=((x1.flow+x2.flow+0) / 18446744073709551616)/\((x1.flow+x2.flow+0) / 18446744073709551616)<=1)<|some (bU.mk ((x1.fhigh+x2.fhigh+((x1.flow+x2.flow+0) / 18446744073709551616))%18446744073709551616) ((x1.flow+x2.flow+0)%18446744073709551616))
def ru(fu:Nat)(x1:bU)(x2:Int)(x3:Bool)(x4:Int)(x5:Bool):Option Int:=
  (ig fu x1.fhigh).bind λx6=>if x6=0 then((bT fu x2 x3 x4 x1.flow x5).bind λx7=>some x7)else chk (0<=(wk .i64 (64 - x6)))<|chk (0<=x6)<|if x5=true then((bT fu x2 x3 (wk .i64 (x4+x6)) (gy .u64 (bY .u64 x1.fhigh (wk .i64 (64 - x6))) (aZ .u64 x1.flow x6)) true).bind λx8=>some x8)else(bT fu x2 x3 (wk .i64 (x4+x6)) (gy .u64 (bY .u64 x1.fhigh (wk .i64 (64 - x6))) (aZ .u64 x1.flow x6)) (!(decide ((bY .u64 x1.flow (wk .i64 (64 - x6)))=0)))).bind λx9=>some x9
def sN(fu:Nat)(x1:bU)(x2:bU):Option bU:=
  chk (0<=x1.flow/\(0<=x2.flow/\x2.flow<18446744073709551616)/\0<=(0:Int)/\(0:Int)<=1)<|chk (0<=x1.fhigh/\(0<=x2.fhigh/\x2.fhigh<18446744073709551616)/\0<=(if x1.flow<x2.flow+(0:Int)then 1 else 0)/\(if x1.flow<x2.flow+(0:Int)then 1 else 0)<=1)<|some (bU.mk ((x1.fhigh - x2.fhigh - (if x1.flow<x2.flow+(0:Int)then 1 else 0))%18446744073709551616) ((x1.flow - x2.flow - 0)%18446744073709551616))
def yA(fu:Nat)(x1:bU)(x2:bU):Option Bool:=
  if x1.fhigh<x2.fhigh then(some true)else if x1.fhigh=x2.fhigh then(some (decide (x1.flow<x2.flow)))else some false
def nI.k1(fu:Nat)(x1:Int)(x4:Bool)(x5:Int)(x6:Int)(x7:Bool)(x8:Int)(x9:Int):Option Int:=
  (ig fu x6).bind λx10=>(wS fu x6 (wk .i64 (x5 - (wk .i64 ((wk .i64 (x5+x10)) - 126))))).bind λx11=>(wS fu x9 (wk .i64 (x8 - (wk .i64 ((wk .i64 (x5+x10)) - 126))))).bind λx12=>if(x4==x7)=true then((xW fu x11.1 x12.1).bind λx13=>(ru fu x13 x1 x4 (wk .i64 ((wk .i64 (x5+x10)) - 126)) x12.2).bind λx14=>some x14)else if x12.2=true then((sN fu x11.1 x12.1).bind λx15=>(sN fu x15 (bU.mk 0 1)).bind λx16=>(ru fu x16 x1 x4 (wk .i64 ((wk .i64 (x5+x10)) - 126)) true).bind λx17=>some x17)else if(x11.1.fhigh==x12.1.fhigh&&(x11.1.flow==x12.1.flow))=true then((rH fu (decide (x1=2))).bind λx18=>some x18)else(yA fu x11.1 x12.1).bind λx19=>if x19=true then((sN fu x12.1 x11.1).bind λx20=>(ru fu x20 x1 x7 (wk .i64 ((wk .i64 (x5+x10)) - 126)) false).bind λx21=>some x21)else(sN fu x11.1 x12.1).bind λx22=>(ru fu x22 x1 x4 (wk .i64 ((wk .i64 (x5+x10)) - 126)) false).bind λx23=>some x23
def nI(fu:Nat)(x1:Int)(x2:dQ)(x3:dQ):Option Int:=
  jn 1 () (λ(t:Bool×Int×Int×Bool×Int×Int)=>nI.k1 fu x1 t.1 t.2.1 t.2.2.1 t.2.2.2.1 t.2.2.2.2.1 t.2.2.2.2.2)<|(ig fu x3.fsig).bind λx24=>(ig fu x2.fsig).bind λx25=>if(wk .i64 (x2.fexp+x25))<(wk .i64 (x3.fexp+x24))then(nI.k1 fu x1 x3.fneg x3.fexp x3.fsig x2.fneg x2.fexp x2.fsig)else nI.k1 fu x1 x2.fneg x2.fexp x2.fsig x3.fneg x3.fexp x3.fsig
def iP.k3(fu:Nat)(x1:Int)(x2:Int)(x3:Int)(x6:dQ)(x7:dQ)(x8:dQ):Option Int:=
  (nI fu x1 (dQ.mk (!(decide ((aZ .u32 x2 31)=(aZ .u32 x3 31)))) (wk .i64 (x6.fexp+x7.fexp)) (wk .u64 (x6.fsig*x7.fsig))) x8).bind λx9=>some x9
def iP.k2(fu:Nat)(x1:Int)(x2:Int)(x3:Int)(x4:Int):Option Int:=
  (nG fu x2).bind λx6=>(nG fu x3).bind λx7=>(nG fu x4).bind λx8=>jn 3 () (λ(t:Unit)=>iP.k3 fu x1 x2 x3 x6 x7 x8)<|if(wk .u64 (x6.fsig*x7.fsig))=0 then(if x8.fsig=0 then(if(x8.fneg==(!(decide ((aZ .u32 x2 31)=(aZ .u32 x3 31)))))=true then(some x4)else(rH fu (decide (x1=2))).bind λx10=>some x10)else some x4)else if x8.fsig=0 then((bT fu x1 (!(decide ((aZ .u32 x2 31)=(aZ .u32 x3 31)))) (wk .i64 (x6.fexp+x7.fexp)) (wk .u64 (x6.fsig*x7.fsig)) false).bind λx11=>some x11)else iP.k3 fu x1 x2 x3 x6 x7 x8
def iP.k1(fu:Nat)(x1:Int)(x2:Int)(x3:Int)(x4:Int)(x5:Bool):Option Int:=
  jn 2 () (λ(t:Unit)=>iP.k2 fu x1 x2 x3 x4)<|(dV fu x2).bind λx12=>if x12=true then(some 2143289344)else(dV fu x3).bind λx13=>if x13=true then(some 2143289344)else(dV fu x4).bind λx14=>if x14=true then(some 2143289344)else(iI fu x2 x3).bind λx15=>(dV fu x15).bind λx16=>if x16=true then(some 2143289344)else if x5=true then((jb fu x4).bind λx17=>if x17=true then((rH fu (!(decide ((aZ .u32 x2 31)=(aZ .u32 x3 31))))).bind λx18=>if x4=(gy .u32 x18 2139095040)then(some (gy .u32 x18 2139095040))else some 2143289344)else(rH fu (!(decide ((aZ .u32 x2 31)=(aZ .u32 x3 31))))).bind λx19=>some (gy .u32 x19 2139095040))else(jb fu x4).bind λx20=>if x20=true then(some x4)else iP.k2 fu x1 x2 x3 x4
def iP(fu:Nat)(x1:Int)(x2:Int)(x3:Int)(x4:Int):Option Int:=
  jn 1 () (λ(t:Bool)=>iP.k1 fu x1 x2 x3 x4 t)<|(jb fu x2).bind λx21=>if x21=true then(iP.k1 fu x1 x2 x3 x4 true)else(jb fu x3).bind λx22=>iP.k1 fu x1 x2 x3 x4 x22
def lN(fu:Nat)(x1:Int)(x2:Int)(x3:Int):Option Int:=
  (iP fu 0 x1 x2 x3).bind λx4=>some x4
def kw.L1(fu:Nat)(x1:Int)(x2:List Int)(nx1:Int→Int→Option Int)(x6:Int)(x7:Int):Option Int:=
  if x7<((oZ x2 1 x2.length).length:Int)then((at? (oZ x2 1 x2.length) x7).bind λx10=>(lN fu x1 x6 x10).bind λx11=>nx1 x11 (wk .i64 (x7+1)))else some x6
def kw.W1(fu:Nat)(x1:Int)(x2:List Int)(x6:Int)(x7:Int):Option Int:=
  bz (λnext s=>kw.L1 fu x1 x2 (λx6 x7=>next (x6,x7)) s.1 s.2) fu (x6,x7)
def kw(fu:Nat)(x1:Int)(x2:List Int):Option Int:=
  (at? x2 0).bind λx3=>chk (0<=1/\1<=(x2.length:Int))<|kw.W1 fu x1 x2 x3 0
def kK.k1(fu:Nat)(x3:dQ)(x5:Int):Option Int:=
  if x3.fneg=true then(some (wk .i64 (0 - x5)))else some x5
def kK(fu:Nat)(x1:Int):Option Int:=
  (dV fu x1).bind λx2=>if x2=true then(some 0)else(nG fu x1).bind λx3=>(iU fu x1).bind λx4=>if 1593835520<=x4 then(if x3.fneg=true then(some (-9223372036854775808))else some 9223372036854775807)else jn 1 () (λ(t:Int)=>kK.k1 fu x3 t)<|if 0<=x3.fexp then(chk (0<=x3.fexp)<|kK.k1 fu x3 (bY .i64 (wk .i64 x3.fsig) x3.fexp))else chk (0<=(wk .i64 (0 - x3.fexp)))<|kK.k1 fu x3 (aZ .i64 (wk .i64 x3.fsig) (wk .i64 (0 - x3.fexp)))
def nK.k1(fu:Nat)(x2:Int)(x4:dQ):Option Int:=
  (bT fu 0 x4.fneg (wk .i64 (x4.fexp+(gu (-1000) (xY x2 1000)))) x4.fsig false).bind λx5=>some x5
def nK(fu:Nat)(x1:Int)(x2:Int):Option Int:=
  (dV fu x1).bind λx3=>if x3=true then(some 2143289344)else(nG fu x1).bind λx4=>jn 1 () (λ(t:Unit)=>nK.k1 fu x2 x4)<|(jb fu x1).bind λx6=>if x6=true then(some x1)else if x4.fsig=0 then(some x1)else nK.k1 fu x2 x4
def o8(fu:Nat)(x1:Int):Option Int:=
  (dV fu x1).bind λx2=>if x2=true then(some 2143289344)else(iM fu 1118925335 x1).bind λx3=>if x3=true then(some 2139095040)else(iM fu x1 3268411392).bind λx4=>if x4=true then(some 0)else(iI fu x1 1069066811).bind λx5=>(fM fu x5).bind λx6=>(lH fu 3109978243).bind λx7=>(lH fu 1060208640).bind λx8=>(lN fu x6 x8 x1).bind λx9=>(lN fu x6 x7 x9).bind λx10=>(kw fu x10 ([985008993,1007192201,1026206379,1042983595,1056964608,1065353216,1065353216])).bind λx11=>(kK fu x6).bind λx12=>(nK fu x11 x12).bind λx13=>some x13
def ou.k1(fu:Nat)(x2:Int)(x3:Int):Option (Int×Int):=
  some (gy .u32 (band .u32 x2 8388607) 1056964608,wk .i64 ((wk .i64 (x3+(wk .i64 (aZ .u32 x2 23)))) - 126))
def ou(fu:Nat)(x1:Int):Option (Int×Int):=
  jn 1 () (λ(t:Int×Int)=>ou.k1 fu t.1 t.2)<|if(aZ .u32 x1 23)=0 then((nK fu x1 24).bind λx4=>ou.k1 fu x4 (-24))else ou.k1 fu x1 0
def wH(fu:Nat)(x1:Int):Option Int:=
  chk (x1=0)<|(jA fu (decide ((0:Int)=2))).bind λx2=>some x2
def gp.k3(fu:Nat)(x6:Bool)(x9:Bool)(x12:Int)(x13:Int)(x14:Int)(x15:Bool):Option Int:=
  if(x6==x9)=true then((bT fu 0 x6 x12 (wk .u64 (x13+x14)) x15).bind λx16=>some x16)else if x15=true then((bT fu 0 x6 x12 (wk .u64 ((wk .u64 (x13 - x14)) - 1)) true).bind λx17=>some x17)else if x13=x14 then((wH fu 0).bind λx18=>some x18)else if x14<x13 then((bT fu 0 x6 x12 (wk .u64 (x13 - x14)) false).bind λx19=>some x19)else(bT fu 0 x9 x12 (wk .u64 (x14 - x13)) false).bind λx20=>some x20
def gp.k2(fu:Nat)(x6:Bool)(x7:Int)(x8:Int)(x9:Bool)(x10:Int)(x11:Int):Option Int:=
  jn 3 () (λ(t:Int×Int×Int×Bool)=>gp.k3 fu x6 x9 t.1 t.2.1 t.2.2.1 t.2.2.2)<|if(wk .i64 (x7 - x10))<=38 then(chk (0<=(wk .i64 (x7 - x10)))<|gp.k3 fu x6 x9 x10 (bY .u64 x8 (wk .i64 (x7 - x10))) x11 false)else chk (0<=(wk .i64 ((wk .i64 (x7 - x10)) - 38)))<|gp.k3 fu x6 x9 (wk .i64 (x7 - 38)) (bY .u64 x8 38) (aZ .u64 x11 (wk .i64 ((wk .i64 (x7 - x10)) - 38))) (!(decide ((bY .u64 (aZ .u64 x11 (wk .i64 ((wk .i64 (x7 - x10)) - 38))) (wk .i64 ((wk .i64 (x7 - x10)) - 38)))=x11)))
def gp.k1(fu:Nat)(x4:gI)(x5:gI):Option Int:=
  jn 2 () (λ(t:Bool×Int×Int×Bool×Int×Int)=>gp.k2 fu t.1 t.2.1 t.2.2.1 t.2.2.2.1 t.2.2.2.2.1 t.2.2.2.2.2)<|if x4.fexp<x5.fexp then(gp.k2 fu x5.fneg x5.fexp x5.fsig x4.fneg x4.fexp x4.fsig)else gp.k2 fu x4.fneg x4.fexp x4.fsig x5.fneg x5.fexp x5.fsig
def gp(fu:Nat)(x1:Int)(x2:Int)(x3:Int):Option Int:=
  chk (x1=0)<|(nT fu x2).bind λx4=>(nT fu x3).bind λx5=>jn 1 () (λ(t:Unit)=>gp.k1 fu x4 x5)<|if x4.fnan=true then(some 2143289344)else if x5.fnan=true then(some 2143289344)else if x4.finf=true then(if x5.finf=true then(if(x4.fneg==x5.fneg)=true then(some x2)else some 2143289344)else some x2)else if x5.finf=true then(some x3)else if x4.fsig=0 then(if x5.fsig=0 then(if x2=x3 then(some x2)else(wH fu 0).bind λx21=>some x21)else gp.k1 fu x4 x5)else gp.k1 fu x4 x5
def kL(fu:Nat)(x1:Int)(x2:Int):Option Int:=
  (gp fu 0 x1 x2).bind λx3=>some x3
def rV(fu:Nat)(x1:Int)(x2:Int):Option Int:=
  (lH fu x2).bind λx3=>(gp fu 0 x1 x3).bind λx4=>some x4
def yR(fu:Nat)(x1:Int)(x2:Int):Option Int:=
  if x2<0 then((bT fu x1 true 0 (wk .u64 (0 - (wk .u64 x2))) false).bind λx3=>some x3)else(bT fu x1 false 0 (wk .u64 x2) false).bind λx4=>some x4
def vW(fu:Nat)(x1:Int):Option Int:=
  (yR fu 0 x1).bind λx2=>some x2
def lX.k1(fu:Nat)(x6:Int)(x7:Int):Option Int:=
  (rV fu x6 1065353216).bind λx8=>(kL fu x8 1073741824).bind λx9=>(qm fu x8 x9).bind λx10=>(iI fu x10 x10).bind λx11=>(kw fu x11 ([1046711865,1049774373,1053609165,1059760811,1073741824])).bind λx12=>(iI fu x10 x12).bind λx13=>(vW fu x7).bind λx14=>(lN fu x14 3109978243 x13).bind λx15=>(lN fu x14 1060208640 x15).bind λx16=>some x16
def lX(fu:Nat)(x1:Int):Option Int:=
  (dV fu x1).bind λx2=>if x2=true then(some 2143289344)else(iU fu x1).bind λx3=>if x3=0 then(some 4286578688)else if(band .u32 x1 2147483648)=0 then((jb fu x1).bind λx4=>if x4=true then(some x1)else(ou fu x1).bind λx5=>jn 1 () (λ(t:Int×Int)=>lX.k1 fu t.1 t.2)<|(iM fu x5.1 1060439283).bind λx17=>if x17=true then((kL fu x5.1 x5.1).bind λx18=>lX.k1 fu x18 (wk .i64 (x5.2 - 1)))else lX.k1 fu x5.1 x5.2)else some 2143289344
def mP(fu:Nat)(x1:Int)(x2:Int):Option Bool:=
  (dV fu x1).bind λx3=>if x3=true then(some false)else(dV fu x2).bind λx4=>if x4=true then(some false)else(qZ fu x1).bind λx5=>(qZ fu x2).bind λx6=>some (decide (x5=x6))
def rZ(fu:Nat)(x1:Int)(x2:Int):Option Int:=
  (dV fu x1).bind λx3=>if x3=true then(some 2143289344)else(dV fu x2).bind λx4=>if x4=true then(some 2143289344)else(mP fu x1 x2).bind λx5=>if x5=true then(some (gy .u32 x1 x2))else(iM fu x2 x1).bind λx6=>if x6=true then(some x2)else some x1
def pM(fu:Nat)(x1:Int)(x2:Int):Option Int:=
  (dV fu x1).bind λx3=>if x3=true then(some 2143289344)else(dV fu x2).bind λx4=>if x4=true then(some 2143289344)else(mP fu x1 x2).bind λx5=>if x5=true then(some (band .u32 x1 x2))else(iM fu x1 x2).bind λx6=>if x6=true then(some x2)else some x1
def rX(fu:Nat)(x1:Int)(x2:Int)(x3:Int):Option Int:=
  (rZ fu x3 x1).bind λx4=>(pM fu x2 x4).bind λx5=>some x5
def gQ.k3(fu:Nat)(x11:Int):Option Int:=
  (rX fu x11 3212836864 1065353216).bind λx12=>some x12
def gQ.k2(fu:Nat)(x2:Int)(x9:Int)(x10:Int):Option Int:=
  jn 3 () (λ(t:Int)=>gQ.k3 fu t)<|if(band .i64 (band .i64 (wk .i64 ((band .i64 x9 3)+x2)) 3) 2)=0 then(gQ.k3 fu x10)else(lH fu x10).bind λx13=>gQ.k3 fu x13
def gQ.k1(fu:Nat)(x1:Int)(x2:Int):Option Int:=
  (iI fu x1 1059256707).bind λx3=>(fM fu x3).bind λx4=>(lN fu x4 3217620992 x1).bind λx5=>(lN fu x4 3120406528 x5).bind λx6=>(lN fu x4 3013747049 x6).bind λx7=>(iI fu x7 x7).bind λx8=>(kK fu x4).bind λx9=>jn 2 () (λ(t:Int)=>gQ.k2 fu x2 x9 t)<|if(band .i64 (band .i64 (wk .i64 ((band .i64 x9 3)+x2)) 3) 1)=0 then((iI fu x7 x8).bind λx14=>(kw fu x8 ([3109031169,1007192201,3190467243])).bind λx15=>(lN fu x14 x15 x7).bind λx16=>gQ.k2 fu x2 x9 x16)else(kw fu x8 ([3132492641,1026206379,3204448256,1065353216])).bind λx17=>gQ.k2 fu x2 x9 x17
def gQ(fu:Nat)(x1:Int)(x2:Int):Option Int:=
  jn 1 () (λ(t:Unit)=>gQ.k1 fu x1 x2)<|(dV fu x1).bind λx18=>if x18=true then(some 2143289344)else(jb fu x1).bind λx19=>if x19=true then(some 2143289344)else gQ.k1 fu x1 x2
def Jq(fu:Nat)(x1:Int):Option Int:=
  (gQ fu x1 0).bind λx2=>some x2
def Pg(fu:Nat)(x1:Int):Option Int:=
  (gQ fu x1 1).bind λx2=>some x2
def vg(fu:Nat)(x1:Int)(x2:Int):Option Int:=
  if(band .u32 x2 2147483648)=0 then(some x1)else(lH fu x1).bind λx3=>some x3
def Ci(fu:Nat)(x1:Int):Option Int:=
  (iU fu x1).bind λx2=>(dV fu x1).bind λx3=>if x3=true then(some 2143289344)else(iM fu x2 964689920).bind λx4=>if x4=true then(some x1)else(iI fu 1073741824 x2).bind λx5=>(o8 fu x5).bind λx6=>(kL fu x6 1065353216).bind λx7=>(qm fu 1073741824 x7).bind λx8=>(rV fu 1065353216 x8).bind λx9=>(rX fu x9 0 1065353216).bind λx10=>(vg fu x10 x1).bind λx11=>some x11
def Dx(fu:Nat)(x1:Int):Option Int:=
  (iU fu x1).bind λx2=>(dV fu x1).bind λx3=>if x3=true then(some 2143289344)else if x2=0 then(some x1)else(iM fu 1082130432 x2).bind λx4=>if x4=true then((vg fu 1065353216 x1).bind λx5=>some x5)else(lN fu 1051179525 x2 1065353216).bind λx6=>(qm fu 1065353216 x6).bind λx7=>(kw fu x7 ([1065868322,3216638179,1068888291,3197217166,1048738054])).bind λx8=>(iI fu x7 x8).bind λx9=>(lH fu x9).bind λx10=>(iI fu x2 x2).bind λx11=>(lH fu x11).bind λx12=>(o8 fu x12).bind λx13=>(lN fu x10 x13 1065353216).bind λx14=>(rX fu x14 0 1065353216).bind λx15=>(vg fu x15 x1).bind λx16=>some x16
def Dh(fu:Nat)(x1:Int):Option Int:=
  (dV fu x1).bind λx2=>if x2=true then(some 2143289344)else(lH fu x1).bind λx3=>(o8 fu x3).bind λx4=>(kL fu 1065353216 x4).bind λx5=>(qm fu 1065353216 x5).bind λx6=>(rX fu x6 0 1065353216).bind λx7=>some x7
def Eb(fu:Nat)(x1:Int)(x2:Int):Option Int:=
  (pM fu x1 0).bind λx3=>some x3
def rF(fu:Nat)(x1:Int)(x2:Int)(p2:Int→Int→Option Int):Option Int:=
  (iM fu x1 0).bind λx4=>if x4=true then((p2 x1 x2).bind λx5=>some x5)else some x1
def DL(fu:Nat)(x1:Int)(x2:Int)(x3:T_Setting):Option Int:=
  (iI fu x3.fAlpha x1).bind λx4=>some x4
def BX(fu:Nat)(x1:Int)(x2:Int)(x3:T_Setting):Option Int:=
  (o8 fu x1).bind λx4=>(rV fu x4 1065353216).bind λx5=>(iI fu x3.fAlpha x5).bind λx6=>some x6
def EN(fu:Nat)(x1:Int)(x2:Int)(x3:T_Setting):Option Int:=
  (iI fu x3.fAlpha x1).bind λx4=>(kL fu x4 x3.fBeta).bind λx5=>(rZ fu 1065353216 x5).bind λx6=>(pM fu 0 x6).bind λx7=>some x7
def D5(fu:Nat)(x1:Int):Option Int:=
  (dV fu x1).bind λx2=>if x2=true then(some 2143289344)else(pM fu x1 0).bind λx3=>(iU fu x1).bind λx4=>(lH fu x4).bind λx5=>(o8 fu x5).bind λx6=>(kL fu 1065353216 x6).bind λx7=>(lX fu x7).bind λx8=>(kL fu x3 x8).bind λx9=>some x9
def QT(fu:Nat)(x1:Int):Option Int:=
  some x1
def xy(fu:Nat)(x1:Int):Option (Int×Int):=
  if(wk .i64 (band .u32 (aZ .u32 x1 23) 255))=0 then(some (wk .u64 (band .u32 x1 8388607),1))else some (gy .u64 (wk .u64 (band .u32 x1 8388607)) 8388608,wk .i64 (band .u32 (aZ .u32 x1 23) 255))
def fP.k3(fu:Nat)(x1:Int)(x6:Int)(x7:Int):Option Int:=
  (bT fu 0 (!(decide ((band .u32 x1 2147483648)=0))) (wk .i64 (x6 - 150)) x7 false).bind λx8=>some x8
def fP.L1(fu:Nat)(x1:Int)(x5:Int)(x6:Int)(nx1:Int→Int→Option Int)(x9:Int)(x10:Int):Option Int:=
  if x6<x10 then(nx1 (Int.tmod (wk .u64 (x9*2)) x5) (wk .i64 (x10 - 1)))else fP.k3 fu x1 x6 x9
def fP.W1(fu:Nat)(x1:Int)(x5:Int)(x6:Int)(x9:Int)(x10:Int):Option Int:=
  bz (λnext s=>fP.L1 fu x1 x5 x6 (λx9 x10=>next (x9,x10)) s.1 s.2) fu (x9,x10)
def fP.k2(fu:Nat)(x1:Int)(x3:Int×Int)(x5:Int)(x6:Int):Option Int:=
  jn 3 () (λ(t:Int)=>fP.k3 fu x1 x6 t)<|chk (x5≠0)<|fP.W1 fu x1 x5 x6 (Int.tmod x3.1 x5) x3.2
def fP.k1(fu:Nat)(x1:Int)(x2:Int):Option Int:=
  (xy fu x1).bind λx3=>(xy fu x2).bind λx4=>jn 2 () (λ(t:Int×Int)=>fP.k2 fu x1 x3 t.1 t.2)<|if x3.2<x4.2 then(if 40<(wk .i64 (x4.2 - x3.2))then(some x1)else chk (0<=(wk .i64 (x4.2 - x3.2)))<|fP.k2 fu x1 x3 (bY .u64 x4.1 (wk .i64 (x4.2 - x3.2))) x3.2)else fP.k2 fu x1 x3 x4.1 x4.2
def fP(fu:Nat)(x1:Int)(x2:Int):Option Int:=
  jn 1 () (λ(t:Unit)=>fP.k1 fu x1 x2)<|(dV fu x1).bind λx11=>if x11=true then(some 2143289344)else(dV fu x2).bind λx12=>if x12=true then(some 2143289344)else(jb fu x1).bind λx13=>if x13=true then(some 2143289344)else(iU fu x2).bind λx14=>if x14=0 then(some 2143289344)else(jb fu x2).bind λx15=>if x15=true then(some x1)else fP.k1 fu x1 x2
def lw.k1(fu:Nat)(x1:Int)(x2:Int):Option Int:=
  (iU fu x1).bind λx3=>(lX fu x3).bind λx4=>(iI fu x2 x4).bind λx5=>(o8 fu x5).bind λx6=>if(band .u32 x1 2147483648)=0 then(some x6)else(jb fu x2).bind λx7=>if x7=true then(some x6)else(fM fu x2).bind λx8=>(mP fu x8 x2).bind λx9=>if x9=true then((iU fu x2).bind λx10=>(iM fu x10 1266679808).bind λx11=>if x11=true then((kK fu x2).bind λx12=>if(band .i64 x12 1)=0 then(some x6)else(lH fu x6).bind λx13=>some x13)else some x6)else some x6
def lw(fu:Nat)(x1:Int)(x2:Int):Option Int:=
  jn 1 () (λ(t:Unit)=>lw.k1 fu x1 x2)<|(iU fu x2).bind λx14=>if x14=0 then(some 1065353216)else if x1=1065353216 then(some 1065353216)else(dV fu x1).bind λx15=>if x15=true then(some 2143289344)else(dV fu x2).bind λx16=>if x16=true then(some 2143289344)else if x1=3212836864 then((jb fu x2).bind λx17=>if x17=true then(some 1065353216)else(iM fu x1 0).bind λx18=>if x18=true then((fM fu x2).bind λx19=>(mP fu x19 x2).bind λx20=>if x20=true then(lw.k1 fu x1 x2)else some 2143289344)else lw.k1 fu x1 x2)else(iM fu x1 0).bind λx21=>if x21=true then((jb fu x2).bind λx22=>if x22=true then(lw.k1 fu x1 x2)else(fM fu x2).bind λx23=>(mP fu x23 x2).bind λx24=>if x24=true then(lw.k1 fu x1 x2)else some 2143289344)else lw.k1 fu x1 x2
def DX(fu:Nat)(x1:Int)(x2:Int):Option Int:=
  (iI fu x2 x1).bind λx3=>some x3
def Cf(fu:Nat)(x1:Int)(x2:Int):Option Int:=
  some (gu x1 (wk .i64 (0 - x1)))
def FM(fu:Nat)(x1:Int)(x2:Int):Option Int:=
  some (wk .i64 (0 - x1))
def zU(fu:Nat)(x1:Int):Option Int:=
  if x1<0 then(some (-1))else if 0<x1 then(some 1)else some 0
def AC(fu:Nat)(x1:Int)(x2:Int):Option Int:=
  (zU fu x1).bind λx3=>some x3
def EY(fu:Nat)(x1:Int)(x2:Int):Option Int:=
  some x1
def Em(fu:Nat)(x1:Int)(x2:Int):Option Int:=
  some (wk .i64 (x1+x2))
def FD(fu:Nat)(x1:Int)(x2:Int):Option Int:=
  some (wk .i64 (x1 - x2))
def Cb(fu:Nat)(x1:Int)(x2:Int):Option Int:=
  some (wk .i64 (x1*x2))
def xO(fu:Nat)(x1:Int)(x2:Int):Option Int:=
  if x2=(-1)then(some (wk .i64 (0 - x1)))else chk (x2≠0)<|some (wk .i64 (Int.tdiv x1 x2))
def xZ(fu:Nat)(x1:Int)(x2:Int)(x3:Bool):Option Int:=
  (xO fu x1 x2).bind λx4=>if x3=true then(some (wk .i64 (x1 - (wk .i64 (x4*x2)))))else if(wk .i64 (x1 - (wk .i64 (x4*x2))))=0 then(some (wk .i64 (x1 - (wk .i64 (x4*x2)))))else if(yY .i64 (wk .i64 (x1 - (wk .i64 (x4*x2)))) x2)<0 then(some (wk .i64 ((wk .i64 (x1 - (wk .i64 (x4*x2))))+x2)))else some (wk .i64 (x1 - (wk .i64 (x4*x2))))
def DW(fu:Nat)(x1:Int)(x2:Int):Option Int:=
  some (xY x1 x2)
def EP(fu:Nat)(x1:Int)(x2:Int):Option Int:=
  some (gu x1 x2)
def Ey(fu:Nat)(x1:Bool)(x2:Bool):Option Bool:=
  some x1
def FB(fu:Nat)(x1:Bool)(x2:Bool):Option Bool:=
  some (!x1)
def Ak(fu:Nat)(x1:Bool)(x2:Bool):Option Bool:=
  if x1=true then(some x2)else some false
def AY(fu:Nat)(x1:Bool)(x2:Bool):Option Bool:=
  if x1=true then(some true)else some x2
def EF(fu:Nat)(x1:Bool)(x2:Bool):Option Bool:=
  some (!(x1==x2))
def BZ(fu:Nat)(x1:Bool)(x2:Bool):Option Bool:=
  some (x1==x2)
def zl(fu:Nat)(x1:Int)(x2:Int):Option Bool:=
  (dV fu x1).bind λx3=>some x3
def yI(fu:Nat)(x1:Int)(x2:Int)(x3:T_Setting):Option Bool:=
  (jb fu x1).bind λx4=>if x4=true then(if x3.fLow=true then(if(band .u32 x1 2147483648)=0 then(if x3.fHigh=true then(some true)else some false)else some true)else if x3.fHigh=true then(some (decide ((band .u32 x1 2147483648)=0)))else some false)else some false
def zy(fu:Nat)(x1:Int)(x2:Int):Option Bool:=
  (iM fu x1 x2).bind λx3=>if x3=true then(some true)else(mP fu x1 x2).bind λx4=>some x4
def zn(fu:Nat)(x1:Int)(x2:Int):Option Bool:=
  (iM fu x2 x1).bind λx3=>some x3
def yK(fu:Nat)(x1:Int)(x2:Int):Option Bool:=
  (iM fu x2 x1).bind λx3=>if x3=true then(some true)else(mP fu x1 x2).bind λx4=>some x4
def EE(fu:Nat)(x1:Int)(x2:Int):Option Bool:=
  some (decide (x1=x2))
def ER(fu:Nat)(x1:Int)(x2:Int):Option Bool:=
  some (decide (x1<x2))
def ES(fu:Nat)(x1:Int)(x2:Int):Option Bool:=
  some (decide (x1<=x2))
def Ce(fu:Nat)(x1:Int)(x2:Int):Option Bool:=
  some (decide (x2<x1))
def CV(fu:Nat)(x1:Int)(x2:Int):Option Bool:=
  some (decide (x2<=x1))
def kC(fu:Nat)(k:Nat)(x1:Int)(x2:Int):Option Int:=
  if k=140 then jW fu x1 x2 (λy0=>iU fu y0)else if k=197 then jW fu x1 x2 (λy0=>lH fu y0)else if k=198 then jW fu x1 x2 (λy0=>CP fu y0)else if k=199 then jW fu x1 x2 (λy0=>iE fu y0)else if k=200 then jW fu x1 x2 (λy0=>iC fu y0)else if k=201 then jW fu x1 x2 (λy0=>fM fu y0)else if k=202 then jW fu x1 x2 (λy0=>EM fu y0)else if k=213 then jW fu x1 x2 (λy0=>o8 fu y0)else if k=315 then jW fu x1 x2 (λy0=>lX fu y0)else if k=316 then jW fu x1 x2 (λy0=>Jq fu y0)else if k=317 then jW fu x1 x2 (λy0=>Pg fu y0)else if k=318 then jW fu x1 x2 (λy0=>Ci fu y0)else if k=319 then jW fu x1 x2 (λy0=>Dx fu y0)else if k=320 then jW fu x1 x2 (λy0=>Dh fu y0)else if k=321 then jW fu x1 x2 (λy0=>D5 fu y0)else if k=322 then jW fu x1 x2 (λy0=>QT fu y0)else none
def vH(fu:Nat)(k:Nat)(o:Option T_Setting)(x1:Int)(x2:Int):Option Int:=
  match o with
  |none=>if k=210 then rF fu x1 x2 (λy0 y1=>DX fu y0 y1)else none
  |some s=>if k=208 then rF fu x1 x2 (λy0 y1=>DL fu y0 y1 s)else if k=211 then rF fu x1 x2 (λy0 y1=>BX fu y0 y1 s)else none
def sF(fu:Nat)(x:Int)(s:T_Setting)(a:Int)(b:Int):Option Int:=
  if x=1 then kC fu 140 a b else if x=2 then kC fu 197 a b else if x=3 then kC fu 198 a b else if x=4 then kC fu 199 a b else if x=5 then kC fu 200 a b else if x=6 then kC fu 201 a b else if x=7 then kC fu 202 a b else if x=8 then DY fu a b else if x=9 then kC fu 213 a b else if x=10 then kC fu 315 a b else if x=11 then kC fu 316 a b else if x=12 then kC fu 317 a b else if x=13 then kC fu 318 a b else if x=14 then kC fu 319 a b else if x=15 then kC fu 320 a b else if x=16 then Eb fu a b else if x=17 then vH fu 208 (some s) a b else if x=18 then vH fu 211 (some s) a b else if x=19 then EN fu a b s else if x=20 then kC fu 321 a b else if x=28 then kL fu a b else if x=29 then rV fu a b else if x=30 then iI fu a b else if x=31 then qm fu a b else if x=32 then fP fu a b else if x=33 then lw fu a b else if x=34 then rZ fu a b else if x=35 then pM fu a b else if x=36 then vH fu 210 none a b else kC fu 322 a b
def qC(fu:Nat)(x:Int)(s:T_Setting)(a:Int)(b:Int):Option Int:=
  if x=1 then Cf fu a b else if x=2 then FM fu a b else if x=3 then AC fu a b else if x=28 then Em fu a b else if x=29 then FD fu a b else if x=30 then Cb fu a b else if x=31 then xO fu a b else if x=32 then xZ fu a b s.fFmod else if x=34 then DW fu a b else if x=35 then EP fu a b else EY fu a b
def Be(fu:Nat)(x:Int)(s:T_Setting)(a:Bool)(b:Bool):Option Bool:=
  if x=22 then FB fu a b else if x=23 then Ak fu a b else if x=24 then AY fu a b else if x=25 then EF fu a b else if x=37 then BZ fu a b else Ey fu a b
def FQ(fu:Nat)(x:Int)(s:T_Setting)(a:Int)(b:Int):Option Bool:=
  if x=26 then zl fu a b else if x=27 then yI fu a b s else if x=37 then mP fu a b else if x=38 then iM fu a b else if x=39 then zy fu a b else if x=40 then zn fu a b else if x=41 then yK fu a b else none
def Ei(fu:Nat)(x:Int)(s:T_Setting)(a:Int)(b:Int):Option Bool:=
  if x=37 then EE fu a b else if x=38 then ER fu a b else if x=39 then ES fu a b else if x=40 then Ce fu a b else if x=41 then CV fu a b else none
def mV(fu:Nat)(x1:Int)(x2:T_Setting):Option (Int×T_Setting):=
  chk (1<=x1/\x1<=44)<|some (x1,x2)
def oL(fu:Nat)(x1:dN)(x2:Int):Option Bool:=
  if x2<(x1.fin.length:Int)then((at? x1.fin x2).bind λx3=>some (!(decide (x3.fType=0))))else some false
def aN.L2(fu:Nat)(nx1:(List Int)→(List Int)→(List Bool)→Int→Option (T_Tensor×Int))(x1:Int)(x2:T_Setting)(x5:List T_Tensor)(x9:T_Tensor×Int)(x10:Int×Int)(x142:List Int)(x143:List Int)(x144:List Bool)(x145:Int)(nx2:(List Int)→(List Int)→Int→Option (T_Tensor×Int))(x302:List Int)(x303:List Int)(x304:Int):Option (T_Tensor×Int):=
  chk (x142.length=x302.length)<|if x304<2 then((at? x303 x304).bind λx312=>(oL fu (dN.mk x1 x2 x5 (T_Tensor.mk x9.1.fType x9.1.fDims x302 x143 x144) x10.1) (wk .i64 (x304+1))).bind λx313=>if x313=true then((mV fu x312 x2).bind λx314=>(at? x302 x145).bind λx315=>(at? x5 (wk .i64 (x304+1))).bind λx316=>(at? x316.fF 0).bind λx317=>(sF fu x314.1 x314.2 x315 x317).bind λx318=>chk (0<=x145/\x145<(x302.length:Int))<|nx2 (x302.set x145.toNat x318) x303 (wk .i64 (x304+1)))else nx2 x302 x303 (wk .i64 (x304+1)))else nx1 x302 x143 x144 (wk .i64 (x145+1))
def aN.W2(fu:Nat)(nx1:(List Int)→(List Int)→(List Bool)→Int→Option (T_Tensor×Int))(x1:Int)(x2:T_Setting)(x5:List T_Tensor)(x9:T_Tensor×Int)(x10:Int×Int)(x142:List Int)(x143:List Int)(x144:List Bool)(x145:Int)(x302:List Int)(x303:List Int)(x304:Int):Option (T_Tensor×Int):=
  bz (λnext s=>aN.L2 fu nx1 x1 x2 x5 x9 x10 x142 x143 x144 x145 (λx302 x303 x304=>next (x302,x303,x304)) s.1 s.2.1 s.2.2) fu (x302,x303,x304)
def aN.L3(fu:Nat)(nx1:(List Int)→(List Int)→(List Bool)→Int→Option (T_Tensor×Int))(x1:Int)(x2:T_Setting)(x5:List T_Tensor)(x9:T_Tensor×Int)(x10:Int×Int)(x142:List Int)(x143:List Int)(x144:List Bool)(x145:Int)(nx3:(List Int)→(List Int)→Int→Option (T_Tensor×Int))(x328:List Int)(x329:List Int)(x330:Int):Option (T_Tensor×Int):=
  chk (x143.length=x328.length)<|if x330<2 then((at? x329 x330).bind λx338=>(oL fu (dN.mk x1 x2 x5 (T_Tensor.mk x9.1.fType x9.1.fDims x142 x328 x144) x10.1) (wk .i64 (x330+1))).bind λx339=>if x339=true then((mV fu x338 x2).bind λx340=>(at? x328 x145).bind λx341=>(at? x5 (wk .i64 (x330+1))).bind λx342=>(at? x342.fI 0).bind λx343=>(qC fu x340.1 x340.2 x341 x343).bind λx344=>chk (0<=x145/\x145<(x328.length:Int))<|nx3 (x328.set x145.toNat x344) x329 (wk .i64 (x330+1)))else nx3 x328 x329 (wk .i64 (x330+1)))else nx1 x142 x328 x144 (wk .i64 (x145+1))
def aN.W3(fu:Nat)(nx1:(List Int)→(List Int)→(List Bool)→Int→Option (T_Tensor×Int))(x1:Int)(x2:T_Setting)(x5:List T_Tensor)(x9:T_Tensor×Int)(x10:Int×Int)(x142:List Int)(x143:List Int)(x144:List Bool)(x145:Int)(x328:List Int)(x329:List Int)(x330:Int):Option (T_Tensor×Int):=
  bz (λnext s=>aN.L3 fu nx1 x1 x2 x5 x9 x10 x142 x143 x144 x145 (λx328 x329 x330=>next (x328,x329,x330)) s.1 s.2.1 s.2.2) fu (x328,x329,x330)
def aN.L4(fu:Nat)(nx1:(List Int)→(List Int)→(List Bool)→Int→Option (T_Tensor×Int))(x1:Int)(x2:T_Setting)(x5:List T_Tensor)(x9:T_Tensor×Int)(x10:Int×Int)(x142:List Int)(x143:List Int)(x144:List Bool)(x145:Int)(x346:Bool)(nx4:(List Int)→(List Int)→Int→Option (T_Tensor×Int))(x354:List Int)(x355:List Int)(x356:Int):Option (T_Tensor×Int):=
  chk (x143.length=x354.length)<|if x356<2 then((at? x355 x356).bind λx364=>(oL fu (dN.mk x1 x2 x5 (T_Tensor.mk x9.1.fType x9.1.fDims x142 x354 (x144.set x145.toNat x346)) x10.1) (wk .i64 (x356+1))).bind λx365=>if x365=true then((mV fu x364 x2).bind λx366=>(at? x354 x145).bind λx367=>(at? x5 (wk .i64 (x356+1))).bind λx368=>(at? x368.fI 0).bind λx369=>(qC fu x366.1 x366.2 x367 x369).bind λx370=>chk (0<=x145/\x145<(x354.length:Int))<|nx4 (x354.set x145.toNat x370) x355 (wk .i64 (x356+1)))else nx4 x354 x355 (wk .i64 (x356+1)))else nx1 x142 x354 (x144.set x145.toNat x346) (wk .i64 (x145+1))
def aN.W4(fu:Nat)(nx1:(List Int)→(List Int)→(List Bool)→Int→Option (T_Tensor×Int))(x1:Int)(x2:T_Setting)(x5:List T_Tensor)(x9:T_Tensor×Int)(x10:Int×Int)(x142:List Int)(x143:List Int)(x144:List Bool)(x145:Int)(x346:Bool)(x354:List Int)(x355:List Int)(x356:Int):Option (T_Tensor×Int):=
  bz (λnext s=>aN.L4 fu nx1 x1 x2 x5 x9 x10 x142 x143 x144 x145 x346 (λx354 x355 x356=>next (x354,x355,x356)) s.1 s.2.1 s.2.2) fu (x354,x355,x356)
def aN.L1(fu:Nat)(x1:Int)(x2:T_Setting)(x5:List T_Tensor)(x9:T_Tensor×Int)(x10:Int×Int)(x12:Int×T_Setting)(nx1:(List Int)→(List Int)→(List Bool)→Int→Option (T_Tensor×Int))(x142:List Int)(x143:List Int)(x144:List Bool)(x145:Int):Option (T_Tensor×Int):=
  chk (x9.1.fB.length=x144.length)<|if x145<x10.1 then(if x1=42 then((at? x5 0).bind λx275=>(gY fu (dN.mk x1 x2 x5 (T_Tensor.mk x9.1.fType x9.1.fDims x142 x143 x144) x10.1) 0 x145).bind λx276=>(at? x275.fB x276).bind λx277=>if x277=true then((gY fu (dN.mk x1 x2 x5 (T_Tensor.mk x9.1.fType x9.1.fDims x142 x143 x144) x10.1) 1 x145).bind λx278=>if x9.1.fType=1 then((at? x5 1).bind λx279=>(at? x279.fF x278).bind λx280=>chk (0<=x145/\x145<(x142.length:Int))<|nx1 (x142.set x145.toNat x280) x143 x144 (wk .i64 (x145+1)))else if x9.1.fType=7 then((at? x5 1).bind λx281=>(at? x281.fI x278).bind λx282=>chk (0<=x145/\x145<(x143.length:Int))<|nx1 x142 (x143.set x145.toNat x282) x144 (wk .i64 (x145+1)))else(at? x5 1).bind λx283=>(at? x283.fB x278).bind λx284=>chk (0<=x145/\x145<(x144.length:Int))<|nx1 x142 x143 (x144.set x145.toNat x284) (wk .i64 (x145+1)))else(gY fu (dN.mk x1 x2 x5 (T_Tensor.mk x9.1.fType x9.1.fDims x142 x143 x144) x10.1) 2 x145).bind λx285=>if x9.1.fType=1 then((at? x5 2).bind λx286=>(at? x286.fF x285).bind λx287=>chk (0<=x145/\x145<(x142.length:Int))<|nx1 (x142.set x145.toNat x287) x143 x144 (wk .i64 (x145+1)))else if x9.1.fType=7 then((at? x5 2).bind λx288=>(at? x288.fI x285).bind λx289=>chk (0<=x145/\x145<(x143.length:Int))<|nx1 x142 (x143.set x145.toNat x289) x144 (wk .i64 (x145+1)))else(at? x5 2).bind λx290=>(at? x290.fB x285).bind λx291=>chk (0<=x145/\x145<(x144.length:Int))<|nx1 x142 x143 (x144.set x145.toNat x291) (wk .i64 (x145+1)))else if x1=43 then((gY fu (dN.mk x1 x2 x5 (T_Tensor.mk x9.1.fType x9.1.fDims x142 x143 x144) x10.1) 0 x145).bind λx292=>if x9.1.fType=1 then((at? x5 0).bind λx293=>(at? x293.fF x292).bind λx294=>chk (0<=x145/\x145<(x142.length:Int))<|aN.W2 fu nx1 x1 x2 x5 x9 x10 x142 x143 x144 x145 (x142.set x145.toNat x294) ([35,34]) 0)else if x9.1.fType=7 then((at? x5 0).bind λx319=>(at? x319.fI x292).bind λx320=>chk (0<=x145/\x145<(x143.length:Int))<|aN.W3 fu nx1 x1 x2 x5 x9 x10 x142 x143 x144 x145 (x143.set x145.toNat x320) ([35,34]) 0)else(at? x5 0).bind λx345=>(at? x345.fB x292).bind λx346=>chk (0<=x145/\x145<(x144.length:Int))<|aN.W4 fu nx1 x1 x2 x5 x9 x10 x142 x143 x144 x145 x346 x143 ([35,34]) 0)else if x1=44 then((at? x5 0).bind λx371=>if x371.fType=x9.1.fType then((gY fu (dN.mk x1 x2 x5 (T_Tensor.mk x9.1.fType x9.1.fDims x142 x143 x144) x10.1) 0 x145).bind λx372=>if x9.1.fType=1 then((at? x371.fF x372).bind λx373=>chk (0<=x145/\x145<(x142.length:Int))<|nx1 (x142.set x145.toNat x373) x143 x144 (wk .i64 (x145+1)))else if x9.1.fType=7 then((at? x371.fI x372).bind λx374=>chk (0<=x145/\x145<(x143.length:Int))<|nx1 x142 (x143.set x145.toNat x374) x144 (wk .i64 (x145+1)))else(at? x371.fB x372).bind λx375=>chk (0<=x145/\x145<(x144.length:Int))<|nx1 x142 x143 (x144.set x145.toNat x375) (wk .i64 (x145+1)))else if x371.fType=1 then(if x9.1.fType=7 then((at? x371.fF x145).bind λx376=>(kK fu x376).bind λx377=>chk (0<=x145/\x145<(x143.length:Int))<|nx1 x142 (x143.set x145.toNat x377) x144 (wk .i64 (x145+1)))else(at? x371.fF x145).bind λx378=>(iU fu x378).bind λx379=>chk (0<=x145/\x145<(x144.length:Int))<|nx1 x142 x143 (x144.set x145.toNat (!(decide (x379=0)))) (wk .i64 (x145+1)))else if x371.fType=7 then(if x9.1.fType=1 then((at? x371.fI x145).bind λx380=>(vW fu x380).bind λx381=>chk (0<=x145/\x145<(x142.length:Int))<|nx1 (x142.set x145.toNat x381) x143 x144 (wk .i64 (x145+1)))else(at? x371.fI x145).bind λx382=>chk (0<=x145/\x145<(x144.length:Int))<|nx1 x142 x143 (x144.set x145.toNat (!(decide (x382=0)))) (wk .i64 (x145+1)))else(at? x371.fB x145).bind λx383=>if x383=true then(if x9.1.fType=1 then(chk (0<=x145/\x145<(x142.length:Int))<|nx1 (x142.set x145.toNat 1065353216) x143 x144 (wk .i64 (x145+1)))else chk (0<=x145/\x145<(x143.length:Int))<|nx1 x142 (x143.set x145.toNat 1) x144 (wk .i64 (x145+1)))else nx1 x142 x143 x144 (wk .i64 (x145+1)))else(at? x5 0).bind λx384=>(at? x5 (wk .i64 ((x5.length:Int) - 1))).bind λx385=>(gY fu (dN.mk x1 x2 x5 (T_Tensor.mk x9.1.fType x9.1.fDims x142 x143 x144) x10.1) 0 x145).bind λx386=>(gY fu (dN.mk x1 x2 x5 (T_Tensor.mk x9.1.fType x9.1.fDims x142 x143 x144) x10.1) (wk .i64 ((x5.length:Int) - 1)) x145).bind λx387=>if x384.fType=1 then(if x9.1.fType=1 then((at? x384.fF x386).bind λx388=>(at? x385.fF x387).bind λx389=>(sF fu x12.1 x12.2 x388 x389).bind λx390=>(pW fu x390).bind λx391=>chk (0<=x145/\x145<(x142.length:Int))<|nx1 (x142.set x145.toNat x391) x143 x144 (wk .i64 (x145+1)))else(at? x384.fF x386).bind λx392=>(at? x385.fF x387).bind λx393=>(FQ fu x12.1 x12.2 x392 x393).bind λx394=>chk (0<=x145/\x145<(x144.length:Int))<|nx1 x142 x143 (x144.set x145.toNat x394) (wk .i64 (x145+1)))else if x384.fType=7 then(if x9.1.fType=7 then((at? x384.fI x386).bind λx395=>(at? x385.fI x387).bind λx396=>(qC fu x12.1 x12.2 x395 x396).bind λx397=>chk (0<=x145/\x145<(x143.length:Int))<|nx1 x142 (x143.set x145.toNat x397) x144 (wk .i64 (x145+1)))else(at? x384.fI x386).bind λx398=>(at? x385.fI x387).bind λx399=>(Ei fu x12.1 x12.2 x398 x399).bind λx400=>chk (0<=x145/\x145<(x144.length:Int))<|nx1 x142 x143 (x144.set x145.toNat x400) (wk .i64 (x145+1)))else(at? x384.fB x386).bind λx401=>(at? x385.fB x387).bind λx402=>(Be fu x12.1 x12.2 x401 x402).bind λx403=>chk (0<=x145/\x145<(x144.length:Int))<|nx1 x142 x143 (x144.set x145.toNat x403) (wk .i64 (x145+1)))else some (T_Tensor.mk x9.1.fType x9.1.fDims x142 x143 x144,0)
def aN.W1(fu:Nat)(x1:Int)(x2:T_Setting)(x5:List T_Tensor)(x9:T_Tensor×Int)(x10:Int×Int)(x12:Int×T_Setting)(x142:List Int)(x143:List Int)(x144:List Bool)(x145:Int):Option (T_Tensor×Int):=
  bz (λnext s=>aN.L1 fu x1 x2 x5 x9 x10 x12 (λx142 x143 x144 x145=>next (x142,x143,x144,x145)) s.1 s.2.1 s.2.2.1 s.2.2.2) fu (x142,x143,x144,x145)
def aN.k1(fu:Nat)(x1:Int)(x2:T_Setting)(x3:List T_Tensor)(x5:List T_Tensor):Option (T_Tensor×Int):=
  (ku fu x3).bind λx6=>(jG fu x1 x2 x6 1).bind λx7=>if x7.2=0 then((at? x7.1 0).bind λx8=>(qM fu x8.fType x8.fDims).bind λx9=>(eU fu x8.fDims).bind λx10=>if x9.2=0 then((fU fu (dN.mk x1 x2 x5 x9.1 x10.1)).bind λx11=>if x11=true then(some (T_Tensor.mk 0 ([]) ([]) ([]) ([]),10))else(mV fu x1 x2).bind λx12=>aN.W1 fu x1 x2 x5 x9 x10 x12 x9.1.fF x9.1.fI x9.1.fB 0)else some (T_Tensor.mk 0 ([]) ([]) ([]) ([]),x9.2))else some (T_Tensor.mk 0 ([]) ([]) ([]) ([]),x7.2)
def aN.L5(fu:Nat)(x1:Int)(x2:T_Setting)(x3:List T_Tensor)(nx5:(List T_Tensor)→Int→Option (T_Tensor×Int))(x408:List T_Tensor)(x409:Int):Option (T_Tensor×Int):=
  if x409<(x3.length:Int)then((at? x3 x409).bind λx414=>if x414.fType=0 then((jO fu x414).bind λx415=>chk ((x408.length+1:Int)*104<=140737488355328)<|nx5 (x408++([x415])) (wk .i64 (x409+1)))else(jP fu x414).bind λx416=>if x416=0 then((jO fu x414).bind λx417=>chk ((x408.length+1:Int)*104<=140737488355328)<|nx5 (x408++([x417])) (wk .i64 (x409+1)))else some (T_Tensor.mk 0 ([]) ([]) ([]) ([]),x416))else aN.k1 fu x1 x2 x3 x408
def aN.W5(fu:Nat)(x1:Int)(x2:T_Setting)(x3:List T_Tensor)(x408:List T_Tensor)(x409:Int):Option (T_Tensor×Int):=
  bz (λnext s=>aN.L5 fu x1 x2 x3 (λx408 x409=>next (x408,x409)) s.1 s.2) fu (x408,x409)
def aN(fu:Nat)(x1:Int)(x2:T_Setting)(x3:List T_Tensor):Option (T_Tensor×Int):=
  (rO fu x1).bind λx4=>if x4=true then(jn 1 () (λ(t:List T_Tensor)=>aN.k1 fu x1 x2 x3 t)<|aN.W5 fu x1 x2 x3 ([]:List T_Tensor) 0)else some (T_Tensor.mk 0 ([]) ([]) ([]) ([]),1)
def ut(fu:Nat)(x1:Int)(x2:Int):Option Bool:=
  if x1<(-1)then(some true)else some (decide (x2<=x1))
def bC.c3(fu:Nat)(x5:T_Tensor×Int)(x7:List Int)(x8:List Int)(x9:List Bool):Option (T_Tensor×Int):=
  chk (x5.1.fB.length=x9.length)<|some (T_Tensor.mk x5.1.fType x5.1.fDims x7 x8 x9,0)
def bC.L1(fu:Nat)(x1:T_Tensor)(x3:List Int)(x5:T_Tensor×Int)(x7:List Int)(x8:List Int)(nx1:(List Bool)→Int→Option (T_Tensor×Int))(x12:List Bool)(x13:Int):Option (T_Tensor×Int):=
  if x13<(x3.length:Int)then((at? x3 x13).bind λx16=>if 0<=x16 then((at? x1.fB x16).bind λx17=>chk (0<=x13/\x13<((x5.1.fB.length:Nat):Int))<|chk (0<=x13/\x13<(x12.length:Int))<|nx1 (x12.set x13.toNat x17) (wk .i64 (x13+1)))else nx1 x12 (wk .i64 (x13+1)))else bC.c3 fu x5 x7 x8 x12
def bC.W1(fu:Nat)(x1:T_Tensor)(x3:List Int)(x5:T_Tensor×Int)(x7:List Int)(x8:List Int)(x12:List Bool)(x13:Int):Option (T_Tensor×Int):=
  bz (λnext s=>bC.L1 fu x1 x3 x5 x7 x8 (λx12 x13=>next (x12,x13)) s.1 s.2) fu (x12,x13)
def bC.c2(fu:Nat)(x1:T_Tensor)(x3:List Int)(x5:T_Tensor×Int)(x7:List Int)(x8:List Int):Option (T_Tensor×Int):=
  chk (x5.1.fI.length=x8.length)<|jc 3 () (λ(t:List Bool)=>bC.c3 fu x5 x7 x8 t)<|if((x5.1.fB.length:Nat):Int)=0 then(bC.c3 fu x5 x7 x8 x5.1.fB)else bC.W1 fu x1 x3 x5 x7 x8 x5.1.fB 0
def bC.L2(fu:Nat)(x1:T_Tensor)(x3:List Int)(x5:T_Tensor×Int)(x7:List Int)(nx2:(List Int)→Int→Option (T_Tensor×Int))(x20:List Int)(x21:Int):Option (T_Tensor×Int):=
  if x21<(x3.length:Int)then((at? x3 x21).bind λx24=>if 0<=x24 then((at? x1.fI x24).bind λx25=>chk (0<=x21/\x21<((x5.1.fI.length:Nat):Int))<|chk (0<=x21/\x21<(x20.length:Int))<|nx2 (x20.set x21.toNat x25) (wk .i64 (x21+1)))else nx2 x20 (wk .i64 (x21+1)))else bC.c2 fu x1 x3 x5 x7 x20
def bC.W2(fu:Nat)(x1:T_Tensor)(x3:List Int)(x5:T_Tensor×Int)(x7:List Int)(x20:List Int)(x21:Int):Option (T_Tensor×Int):=
  bz (λnext s=>bC.L2 fu x1 x3 x5 x7 (λx20 x21=>next (x20,x21)) s.1 s.2) fu (x20,x21)
def bC.c1(fu:Nat)(x1:T_Tensor)(x3:List Int)(x5:T_Tensor×Int)(x7:List Int):Option (T_Tensor×Int):=
  chk (x5.1.fF.length=x7.length)<|jc 2 () (λ(t:List Int)=>bC.c2 fu x1 x3 x5 x7 t)<|if((x5.1.fI.length:Nat):Int)=0 then(bC.c2 fu x1 x3 x5 x7 x5.1.fI)else bC.W2 fu x1 x3 x5 x7 x5.1.fI 0
def bC.L3(fu:Nat)(x1:T_Tensor)(x3:List Int)(x5:T_Tensor×Int)(nx3:(List Int)→Int→Option (T_Tensor×Int))(x28:List Int)(x29:Int):Option (T_Tensor×Int):=
  if x29<(x3.length:Int)then((at? x3 x29).bind λx32=>if 0<=x32 then((at? x1.fF x32).bind λx33=>chk (0<=x29/\x29<((x5.1.fF.length:Nat):Int))<|chk (0<=x29/\x29<(x28.length:Int))<|nx3 (x28.set x29.toNat x33) (wk .i64 (x29+1)))else nx3 x28 (wk .i64 (x29+1)))else bC.c1 fu x1 x3 x5 x28
def bC.W3(fu:Nat)(x1:T_Tensor)(x3:List Int)(x5:T_Tensor×Int)(x28:List Int)(x29:Int):Option (T_Tensor×Int):=
  bz (λnext s=>bC.L3 fu x1 x3 x5 (λx28 x29=>next (x28,x29)) s.1 s.2) fu (x28,x29)
def bC(fu:Nat)(x1:T_Tensor)(x2:List Int)(x3:List Int):Option (T_Tensor×Int):=
  (jP fu x1).bind λx4=>if x4=0 then((qM fu x1.fType x2).bind λx5=>if x5.2=0 then(if(x3.length:Int)=(wk .i64 ((wk .i64 (((x5.1.fF.length:Nat):Int)+((x5.1.fI.length:Nat):Int)))+((x5.1.fB.length:Nat):Int)))then((oM fu x3 (λy0=>ut fu y0 (wk .i64 ((wk .i64 ((x1.fF.length:Int)+(x1.fI.length:Int)))+(x1.fB.length:Int))))).bind λx6=>if x6=true then(some (T_Tensor.mk 0 ([]) ([]) ([]) ([]),2))else jc 1 () (λ(t:List Int)=>bC.c1 fu x1 x3 x5 t)<|if((x5.1.fF.length:Nat):Int)=0 then(bC.c1 fu x1 x3 x5 x5.1.fF)else bC.W3 fu x1 x3 x5 x5.1.fF 0)else some (T_Tensor.mk 0 ([]) ([]) ([]) ([]),3))else some (T_Tensor.mk 0 ([]) ([]) ([]) ([]),x5.2))else some (T_Tensor.mk 0 ([]) ([]) ([]) ([]),x4)
def bu.L2(fu:Nat)(nx1:(List Int)→(List Int)→(List Bool)→Int→Option (T_Tensor×Int))(x1:Int)(x2:T_Setting)(x7:List T_Tensor)(x11:T_Tensor×Int)(x12:Int×Int)(x144:List Int)(x145:List Int)(x146:List Bool)(x147:Int)(nx2:(List Int)→(List Int)→Int→Option (T_Tensor×Int))(x304:List Int)(x305:List Int)(x306:Int):Option (T_Tensor×Int):=
  chk (x144.length=x304.length)<|if x306<2 then((at? x305 x306).bind λx314=>(oL fu (dN.mk x1 x2 x7 (T_Tensor.mk x11.1.fType x11.1.fDims x304 x145 x146) x12.1) (wk .i64 (x306+1))).bind λx315=>if x315=true then((mV fu x314 x2).bind λx316=>(at? x304 x147).bind λx317=>(at? x7 (wk .i64 (x306+1))).bind λx318=>(at? x318.fF 0).bind λx319=>(sF fu x316.1 x316.2 x317 x319).bind λx320=>chk (0<=x147/\x147<(x304.length:Int))<|nx2 (x304.set x147.toNat x320) x305 (wk .i64 (x306+1)))else nx2 x304 x305 (wk .i64 (x306+1)))else nx1 x304 x145 x146 (wk .i64 (x147+1))
def bu.W2(fu:Nat)(nx1:(List Int)→(List Int)→(List Bool)→Int→Option (T_Tensor×Int))(x1:Int)(x2:T_Setting)(x7:List T_Tensor)(x11:T_Tensor×Int)(x12:Int×Int)(x144:List Int)(x145:List Int)(x146:List Bool)(x147:Int)(x304:List Int)(x305:List Int)(x306:Int):Option (T_Tensor×Int):=
  bz (λnext s=>bu.L2 fu nx1 x1 x2 x7 x11 x12 x144 x145 x146 x147 (λx304 x305 x306=>next (x304,x305,x306)) s.1 s.2.1 s.2.2) fu (x304,x305,x306)
def bu.L3(fu:Nat)(nx1:(List Int)→(List Int)→(List Bool)→Int→Option (T_Tensor×Int))(x1:Int)(x2:T_Setting)(x7:List T_Tensor)(x11:T_Tensor×Int)(x12:Int×Int)(x144:List Int)(x145:List Int)(x146:List Bool)(x147:Int)(nx3:(List Int)→(List Int)→Int→Option (T_Tensor×Int))(x330:List Int)(x331:List Int)(x332:Int):Option (T_Tensor×Int):=
  chk (x145.length=x330.length)<|if x332<2 then((at? x331 x332).bind λx340=>(oL fu (dN.mk x1 x2 x7 (T_Tensor.mk x11.1.fType x11.1.fDims x144 x330 x146) x12.1) (wk .i64 (x332+1))).bind λx341=>if x341=true then((mV fu x340 x2).bind λx342=>(at? x330 x147).bind λx343=>(at? x7 (wk .i64 (x332+1))).bind λx344=>(at? x344.fI 0).bind λx345=>(qC fu x342.1 x342.2 x343 x345).bind λx346=>chk (0<=x147/\x147<(x330.length:Int))<|nx3 (x330.set x147.toNat x346) x331 (wk .i64 (x332+1)))else nx3 x330 x331 (wk .i64 (x332+1)))else nx1 x144 x330 x146 (wk .i64 (x147+1))
def bu.W3(fu:Nat)(nx1:(List Int)→(List Int)→(List Bool)→Int→Option (T_Tensor×Int))(x1:Int)(x2:T_Setting)(x7:List T_Tensor)(x11:T_Tensor×Int)(x12:Int×Int)(x144:List Int)(x145:List Int)(x146:List Bool)(x147:Int)(x330:List Int)(x331:List Int)(x332:Int):Option (T_Tensor×Int):=
  bz (λnext s=>bu.L3 fu nx1 x1 x2 x7 x11 x12 x144 x145 x146 x147 (λx330 x331 x332=>next (x330,x331,x332)) s.1 s.2.1 s.2.2) fu (x330,x331,x332)
def bu.L4(fu:Nat)(nx1:(List Int)→(List Int)→(List Bool)→Int→Option (T_Tensor×Int))(x1:Int)(x2:T_Setting)(x7:List T_Tensor)(x11:T_Tensor×Int)(x12:Int×Int)(x144:List Int)(x145:List Int)(x146:List Bool)(x147:Int)(x348:Bool)(nx4:(List Int)→(List Int)→Int→Option (T_Tensor×Int))(x356:List Int)(x357:List Int)(x358:Int):Option (T_Tensor×Int):=
  chk (x145.length=x356.length)<|if x358<2 then((at? x357 x358).bind λx366=>(oL fu (dN.mk x1 x2 x7 (T_Tensor.mk x11.1.fType x11.1.fDims x144 x356 (x146.set x147.toNat x348)) x12.1) (wk .i64 (x358+1))).bind λx367=>if x367=true then((mV fu x366 x2).bind λx368=>(at? x356 x147).bind λx369=>(at? x7 (wk .i64 (x358+1))).bind λx370=>(at? x370.fI 0).bind λx371=>(qC fu x368.1 x368.2 x369 x371).bind λx372=>chk (0<=x147/\x147<(x356.length:Int))<|nx4 (x356.set x147.toNat x372) x357 (wk .i64 (x358+1)))else nx4 x356 x357 (wk .i64 (x358+1)))else nx1 x144 x356 (x146.set x147.toNat x348) (wk .i64 (x147+1))
def bu.W4(fu:Nat)(nx1:(List Int)→(List Int)→(List Bool)→Int→Option (T_Tensor×Int))(x1:Int)(x2:T_Setting)(x7:List T_Tensor)(x11:T_Tensor×Int)(x12:Int×Int)(x144:List Int)(x145:List Int)(x146:List Bool)(x147:Int)(x348:Bool)(x356:List Int)(x357:List Int)(x358:Int):Option (T_Tensor×Int):=
  bz (λnext s=>bu.L4 fu nx1 x1 x2 x7 x11 x12 x144 x145 x146 x147 x348 (λx356 x357 x358=>next (x356,x357,x358)) s.1 s.2.1 s.2.2) fu (x356,x357,x358)
def bu.k3(fu:Nat)(x4:Int)(x5:Int)(x11:T_Tensor×Int)(x144:List Int)(x145:List Int)(x146:List Bool)(x406:List Int):Option (T_Tensor×Int):=
  (bC fu (T_Tensor.mk x11.1.fType x11.1.fDims x144 x145 x146) ([wk .i64 (x5 - x4)]) x406).bind λx407=>some (x407.1,x407.2)
def bu.L5(fu:Nat)(x4:Int)(x5:Int)(x11:T_Tensor×Int)(x144:List Int)(x145:List Int)(x146:List Bool)(nx5:(List Int)→Int→Option (T_Tensor×Int))(x408:List Int)(x409:Int):Option (T_Tensor×Int):=
  if x409<x5 then(chk ((x408.length+1:Int)*8<=140737488355328)<|nx5 (x408++([x409])) (wk .i64 (x409+1)))else bu.k3 fu x4 x5 x11 x144 x145 x146 x408
def bu.W5(fu:Nat)(x4:Int)(x5:Int)(x11:T_Tensor×Int)(x144:List Int)(x145:List Int)(x146:List Bool)(x408:List Int)(x409:Int):Option (T_Tensor×Int):=
  bz (λnext s=>bu.L5 fu x4 x5 x11 x144 x145 x146 (λx408 x409=>next (x408,x409)) s.1 s.2) fu (x408,x409)
def bu.L1(fu:Nat)(x1:Int)(x2:T_Setting)(x4:Int)(x5:Int)(x7:List T_Tensor)(x11:T_Tensor×Int)(x12:Int×Int)(x14:Int×T_Setting)(nx1:(List Int)→(List Int)→(List Bool)→Int→Option (T_Tensor×Int))(x144:List Int)(x145:List Int)(x146:List Bool)(x147:Int):Option (T_Tensor×Int):=
  chk (x11.1.fB.length=x146.length)<|if x147<x5 then(if x1=42 then((at? x7 0).bind λx277=>(gY fu (dN.mk x1 x2 x7 (T_Tensor.mk x11.1.fType x11.1.fDims x144 x145 x146) x12.1) 0 x147).bind λx278=>(at? x277.fB x278).bind λx279=>if x279=true then((gY fu (dN.mk x1 x2 x7 (T_Tensor.mk x11.1.fType x11.1.fDims x144 x145 x146) x12.1) 1 x147).bind λx280=>if x11.1.fType=1 then((at? x7 1).bind λx281=>(at? x281.fF x280).bind λx282=>chk (0<=x147/\x147<(x144.length:Int))<|nx1 (x144.set x147.toNat x282) x145 x146 (wk .i64 (x147+1)))else if x11.1.fType=7 then((at? x7 1).bind λx283=>(at? x283.fI x280).bind λx284=>chk (0<=x147/\x147<(x145.length:Int))<|nx1 x144 (x145.set x147.toNat x284) x146 (wk .i64 (x147+1)))else(at? x7 1).bind λx285=>(at? x285.fB x280).bind λx286=>chk (0<=x147/\x147<(x146.length:Int))<|nx1 x144 x145 (x146.set x147.toNat x286) (wk .i64 (x147+1)))else(gY fu (dN.mk x1 x2 x7 (T_Tensor.mk x11.1.fType x11.1.fDims x144 x145 x146) x12.1) 2 x147).bind λx287=>if x11.1.fType=1 then((at? x7 2).bind λx288=>(at? x288.fF x287).bind λx289=>chk (0<=x147/\x147<(x144.length:Int))<|nx1 (x144.set x147.toNat x289) x145 x146 (wk .i64 (x147+1)))else if x11.1.fType=7 then((at? x7 2).bind λx290=>(at? x290.fI x287).bind λx291=>chk (0<=x147/\x147<(x145.length:Int))<|nx1 x144 (x145.set x147.toNat x291) x146 (wk .i64 (x147+1)))else(at? x7 2).bind λx292=>(at? x292.fB x287).bind λx293=>chk (0<=x147/\x147<(x146.length:Int))<|nx1 x144 x145 (x146.set x147.toNat x293) (wk .i64 (x147+1)))else if x1=43 then((gY fu (dN.mk x1 x2 x7 (T_Tensor.mk x11.1.fType x11.1.fDims x144 x145 x146) x12.1) 0 x147).bind λx294=>if x11.1.fType=1 then((at? x7 0).bind λx295=>(at? x295.fF x294).bind λx296=>chk (0<=x147/\x147<(x144.length:Int))<|bu.W2 fu nx1 x1 x2 x7 x11 x12 x144 x145 x146 x147 (x144.set x147.toNat x296) ([35,34]) 0)else if x11.1.fType=7 then((at? x7 0).bind λx321=>(at? x321.fI x294).bind λx322=>chk (0<=x147/\x147<(x145.length:Int))<|bu.W3 fu nx1 x1 x2 x7 x11 x12 x144 x145 x146 x147 (x145.set x147.toNat x322) ([35,34]) 0)else(at? x7 0).bind λx347=>(at? x347.fB x294).bind λx348=>chk (0<=x147/\x147<(x146.length:Int))<|bu.W4 fu nx1 x1 x2 x7 x11 x12 x144 x145 x146 x147 x348 x145 ([35,34]) 0)else if x1=44 then((at? x7 0).bind λx373=>if x373.fType=x11.1.fType then((gY fu (dN.mk x1 x2 x7 (T_Tensor.mk x11.1.fType x11.1.fDims x144 x145 x146) x12.1) 0 x147).bind λx374=>if x11.1.fType=1 then((at? x373.fF x374).bind λx375=>chk (0<=x147/\x147<(x144.length:Int))<|nx1 (x144.set x147.toNat x375) x145 x146 (wk .i64 (x147+1)))else if x11.1.fType=7 then((at? x373.fI x374).bind λx376=>chk (0<=x147/\x147<(x145.length:Int))<|nx1 x144 (x145.set x147.toNat x376) x146 (wk .i64 (x147+1)))else(at? x373.fB x374).bind λx377=>chk (0<=x147/\x147<(x146.length:Int))<|nx1 x144 x145 (x146.set x147.toNat x377) (wk .i64 (x147+1)))else if x373.fType=1 then(if x11.1.fType=7 then((at? x373.fF x147).bind λx378=>(kK fu x378).bind λx379=>chk (0<=x147/\x147<(x145.length:Int))<|nx1 x144 (x145.set x147.toNat x379) x146 (wk .i64 (x147+1)))else(at? x373.fF x147).bind λx380=>(iU fu x380).bind λx381=>chk (0<=x147/\x147<(x146.length:Int))<|nx1 x144 x145 (x146.set x147.toNat (!(decide (x381=0)))) (wk .i64 (x147+1)))else if x373.fType=7 then(if x11.1.fType=1 then((at? x373.fI x147).bind λx382=>(vW fu x382).bind λx383=>chk (0<=x147/\x147<(x144.length:Int))<|nx1 (x144.set x147.toNat x383) x145 x146 (wk .i64 (x147+1)))else(at? x373.fI x147).bind λx384=>chk (0<=x147/\x147<(x146.length:Int))<|nx1 x144 x145 (x146.set x147.toNat (!(decide (x384=0)))) (wk .i64 (x147+1)))else(at? x373.fB x147).bind λx385=>if x385=true then(if x11.1.fType=1 then(chk (0<=x147/\x147<(x144.length:Int))<|nx1 (x144.set x147.toNat 1065353216) x145 x146 (wk .i64 (x147+1)))else chk (0<=x147/\x147<(x145.length:Int))<|nx1 x144 (x145.set x147.toNat 1) x146 (wk .i64 (x147+1)))else nx1 x144 x145 x146 (wk .i64 (x147+1)))else(at? x7 0).bind λx386=>(at? x7 (wk .i64 ((x7.length:Int) - 1))).bind λx387=>(gY fu (dN.mk x1 x2 x7 (T_Tensor.mk x11.1.fType x11.1.fDims x144 x145 x146) x12.1) 0 x147).bind λx388=>(gY fu (dN.mk x1 x2 x7 (T_Tensor.mk x11.1.fType x11.1.fDims x144 x145 x146) x12.1) (wk .i64 ((x7.length:Int) - 1)) x147).bind λx389=>if x386.fType=1 then(if x11.1.fType=1 then((at? x386.fF x388).bind λx390=>(at? x387.fF x389).bind λx391=>(sF fu x14.1 x14.2 x390 x391).bind λx392=>(pW fu x392).bind λx393=>chk (0<=x147/\x147<(x144.length:Int))<|nx1 (x144.set x147.toNat x393) x145 x146 (wk .i64 (x147+1)))else(at? x386.fF x388).bind λx394=>(at? x387.fF x389).bind λx395=>(FQ fu x14.1 x14.2 x394 x395).bind λx396=>chk (0<=x147/\x147<(x146.length:Int))<|nx1 x144 x145 (x146.set x147.toNat x396) (wk .i64 (x147+1)))else if x386.fType=7 then(if x11.1.fType=7 then((at? x386.fI x388).bind λx397=>(at? x387.fI x389).bind λx398=>(qC fu x14.1 x14.2 x397 x398).bind λx399=>chk (0<=x147/\x147<(x145.length:Int))<|nx1 x144 (x145.set x147.toNat x399) x146 (wk .i64 (x147+1)))else(at? x386.fI x388).bind λx400=>(at? x387.fI x389).bind λx401=>(Ei fu x14.1 x14.2 x400 x401).bind λx402=>chk (0<=x147/\x147<(x146.length:Int))<|nx1 x144 x145 (x146.set x147.toNat x402) (wk .i64 (x147+1)))else(at? x386.fB x388).bind λx403=>(at? x387.fB x389).bind λx404=>(Be fu x14.1 x14.2 x403 x404).bind λx405=>chk (0<=x147/\x147<(x146.length:Int))<|nx1 x144 x145 (x146.set x147.toNat x405) (wk .i64 (x147+1)))else jn 3 () (λ(t:List Int)=>bu.k3 fu x4 x5 x11 x144 x145 x146 t)<|bu.W5 fu x4 x5 x11 x144 x145 x146 ([]:List Int) x4
def bu.W1(fu:Nat)(x1:Int)(x2:T_Setting)(x4:Int)(x5:Int)(x7:List T_Tensor)(x11:T_Tensor×Int)(x12:Int×Int)(x14:Int×T_Setting)(x144:List Int)(x145:List Int)(x146:List Bool)(x147:Int):Option (T_Tensor×Int):=
  bz (λnext s=>bu.L1 fu x1 x2 x4 x5 x7 x11 x12 x14 (λx144 x145 x146 x147=>next (x144,x145,x146,x147)) s.1 s.2.1 s.2.2.1 s.2.2.2) fu (x144,x145,x146,x147)
def bu.k2(fu:Nat)(x1:Int)(x2:T_Setting)(x4:Int)(x5:Int)(x7:List T_Tensor)(x11:T_Tensor×Int)(x12:Int×Int):Option (T_Tensor×Int):=
  (mV fu x1 x2).bind λx14=>bu.W1 fu x1 x2 x4 x5 x7 x11 x12 x14 x11.1.fF x11.1.fI x11.1.fB x4
def bu.k1(fu:Nat)(x1:Int)(x2:T_Setting)(x3:List T_Tensor)(x4:Int)(x5:Int)(x7:List T_Tensor):Option (T_Tensor×Int):=
  (ku fu x3).bind λx8=>(jG fu x1 x2 x8 1).bind λx9=>if x9.2=0 then((at? x9.1 0).bind λx10=>(qM fu x10.fType x10.fDims).bind λx11=>(eU fu x10.fDims).bind λx12=>if x11.2=0 then((fU fu (dN.mk x1 x2 x7 x11.1 x12.1)).bind λx13=>if x13=true then(some (T_Tensor.mk 0 ([]) ([]) ([]) ([]),10))else jn 2 () (λ(t:Unit)=>bu.k2 fu x1 x2 x4 x5 x7 x11 x12)<|if x4<0 then(some (T_Tensor.mk 0 ([]) ([]) ([]) ([]),2))else if x5<x4 then(some (T_Tensor.mk 0 ([]) ([]) ([]) ([]),2))else if x12.1<x5 then(some (T_Tensor.mk 0 ([]) ([]) ([]) ([]),2))else bu.k2 fu x1 x2 x4 x5 x7 x11 x12)else some (T_Tensor.mk 0 ([]) ([]) ([]) ([]),x11.2))else some (T_Tensor.mk 0 ([]) ([]) ([]) ([]),x9.2)
def bu.L6(fu:Nat)(x1:Int)(x2:T_Setting)(x3:List T_Tensor)(x4:Int)(x5:Int)(nx6:(List T_Tensor)→Int→Option (T_Tensor×Int))(x414:List T_Tensor)(x415:Int):Option (T_Tensor×Int):=
  if x415<(x3.length:Int)then((at? x3 x415).bind λx420=>if x420.fType=0 then((jO fu x420).bind λx421=>chk ((x414.length+1:Int)*104<=140737488355328)<|nx6 (x414++([x421])) (wk .i64 (x415+1)))else(jP fu x420).bind λx422=>if x422=0 then((jO fu x420).bind λx423=>chk ((x414.length+1:Int)*104<=140737488355328)<|nx6 (x414++([x423])) (wk .i64 (x415+1)))else some (T_Tensor.mk 0 ([]) ([]) ([]) ([]),x422))else bu.k1 fu x1 x2 x3 x4 x5 x414
def bu.W6(fu:Nat)(x1:Int)(x2:T_Setting)(x3:List T_Tensor)(x4:Int)(x5:Int)(x414:List T_Tensor)(x415:Int):Option (T_Tensor×Int):=
  bz (λnext s=>bu.L6 fu x1 x2 x3 x4 x5 (λx414 x415=>next (x414,x415)) s.1 s.2) fu (x414,x415)
def bu(fu:Nat)(x1:Int)(x2:T_Setting)(x3:List T_Tensor)(x4:Int)(x5:Int):Option (T_Tensor×Int):=
  (rO fu x1).bind λx6=>if x6=true then(jn 1 () (λ(t:List T_Tensor)=>bu.k1 fu x1 x2 x3 x4 x5 t)<|bu.W6 fu x1 x2 x3 x4 x5 ([]:List T_Tensor) 0)else some (T_Tensor.mk 0 ([]) ([]) ([]) ([]),1)
def mM.L1(fu:Nat)(x1:List Int)(x2:List Int)(nx1:Int→Option Bool)(x5:Int):Option Bool:=
  if x5<(x1.length:Int)then((at? x1 x5).bind λx8=>(at? x2 x5).bind λx9=>if x8=x9 then(nx1 (wk .i64 (x5+1)))else some false)else some true
def mM.W1(fu:Nat)(x1:List Int)(x2:List Int)(x5:Int):Option Bool:=
  bz (λnext s=>mM.L1 fu x1 x2 next s) fu x5
def mM(fu:Nat)(x1:List Int)(x2:List Int):Option Bool:=
  if(x1.length:Int)=(x2.length:Int)then(mM.W1 fu x1 x2 0)else some false
def dE.L1(fu:Nat)(x1:T_Tensor)(x2:T_Tensor)(nx1:Int→Option Bool)(x5:Int):Option Bool:=
  if x5<(x1.fB.length:Int)then((at? x1.fB x5).bind λx8=>(at? x2.fB x5).bind λx9=>if(x8==x9)=true then(nx1 (wk .i64 (x5+1)))else some false)else some true
def dE.W1(fu:Nat)(x1:T_Tensor)(x2:T_Tensor)(x5:Int):Option Bool:=
  bz (λnext s=>dE.L1 fu x1 x2 next s) fu x5
def dE.k3(fu:Nat)(x1:T_Tensor)(x2:T_Tensor):Option Bool:=
  dE.W1 fu x1 x2 0
def dE.L2(fu:Nat)(x1:T_Tensor)(x2:T_Tensor)(nx2:Int→Option Bool)(x12:Int):Option Bool:=
  if x12<(x1.fI.length:Int)then((at? x1.fI x12).bind λx15=>(at? x2.fI x12).bind λx16=>if x15=x16 then(nx2 (wk .i64 (x12+1)))else some false)else dE.k3 fu x1 x2
def dE.W2(fu:Nat)(x1:T_Tensor)(x2:T_Tensor)(x12:Int):Option Bool:=
  bz (λnext s=>dE.L2 fu x1 x2 next s) fu x12
def dE.k2(fu:Nat)(x1:T_Tensor)(x2:T_Tensor):Option Bool:=
  jn 3 () (λ(t:Unit)=>dE.k3 fu x1 x2)<|dE.W2 fu x1 x2 0
def dE.L3(fu:Nat)(x1:T_Tensor)(x2:T_Tensor)(nx3:Int→Option Bool)(x19:Int):Option Bool:=
  if x19<(x1.fF.length:Int)then((at? x1.fF x19).bind λx22=>(at? x2.fF x19).bind λx23=>if x22=x23 then(nx3 (wk .i64 (x19+1)))else some false)else dE.k2 fu x1 x2
def dE.W3(fu:Nat)(x1:T_Tensor)(x2:T_Tensor)(x19:Int):Option Bool:=
  bz (λnext s=>dE.L3 fu x1 x2 next s) fu x19
def dE.k1(fu:Nat)(x1:T_Tensor)(x2:T_Tensor):Option Bool:=
  jn 2 () (λ(t:Unit)=>dE.k2 fu x1 x2)<|dE.W3 fu x1 x2 0
def dE(fu:Nat)(x1:T_Tensor)(x2:T_Tensor):Option Bool:=
  jn 1 () (λ(t:Unit)=>dE.k1 fu x1 x2)<|if x1.fType=x2.fType then((mM fu x1.fDims x2.fDims).bind λx24=>if x24=true then(if(x1.fF.length:Int)=(x2.fF.length:Int)then(if(x1.fI.length:Int)=(x2.fI.length:Int)then(if(x1.fB.length:Int)=(x2.fB.length:Int)then(dE.k1 fu x1 x2)else some false)else some false)else some false)else some false)else some false
def jr.k2(fu:Nat)(x4:Int)(x5:Int)(x6:T_Tensor×Int)(x7:T_Tensor×Int)(x8:T_Tensor×Int)(x9:T_Tensor×Int):Option Bool:=
  chk ((x8.1.fF.length:Int)*4<=140737488355328)<|chk ((x8.1.fF.length+x7.1.fF.length:Int)*4<=140737488355328)<|chk ((x8.1.fF.length+x7.1.fF.length+x9.1.fF.length:Int)*4<=140737488355328)<|chk ((x8.1.fI.length:Int)*8<=140737488355328)<|chk ((x8.1.fI.length+x7.1.fI.length:Int)*8<=140737488355328)<|chk ((x8.1.fI.length+x7.1.fI.length+x9.1.fI.length:Int)*8<=140737488355328)<|chk ((x8.1.fB.length:Int)*1<=140737488355328)<|chk ((x8.1.fB.length+x7.1.fB.length:Int)*1<=140737488355328)<|chk ((x8.1.fB.length+x7.1.fB.length+x9.1.fB.length:Int)*1<=140737488355328)<|(dE fu (T_Tensor.mk x6.1.fType x6.1.fDims (((([]:List Int)++x8.1.fF)++x7.1.fF)++x9.1.fF) (((([]:List Int)++x8.1.fI)++x7.1.fI)++x9.1.fI) (((([]:List Bool)++x8.1.fB)++x7.1.fB)++x9.1.fB)) x6.1).bind λx10=>if x10=true then((mM fu x7.1.fDims ([wk .i64 (x5 - x4)])).bind λx11=>some x11)else some false
def jr.k1(fu:Nat)(x1:Int)(x2:T_Setting)(x3:List T_Tensor)(x4:Int)(x5:Int)(x6:T_Tensor×Int)(x7:T_Tensor×Int):Option Bool:=
  (bu fu x1 x2 x3 0 x4).bind λx8=>(bu fu x1 x2 x3 x5 (wk .i64 ((wk .i64 ((x6.1.fF.length:Int)+(x6.1.fI.length:Int)))+(x6.1.fB.length:Int)))).bind λx9=>jn 2 () (λ(t:Unit)=>jr.k2 fu x4 x5 x6 x7 x8 x9)<|if x7.2=0 then(if x8.2=0 then(if x9.2=0 then(jr.k2 fu x4 x5 x6 x7 x8 x9)else some false)else some false)else some false
def jr.k3(fu:Nat)(x12:Bool):Option Bool:=
  some x12
def jr(fu:Nat)(x1:Int)(x2:T_Setting)(x3:List T_Tensor)(x4:Int)(x5:Int):Option Bool:=
  (aN fu x1 x2 x3).bind λx6=>(bu fu x1 x2 x3 x4 x5).bind λx7=>if x6.2=0 then(jn 1 () (λ(t:Unit)=>jr.k1 fu x1 x2 x3 x4 x5 x6 x7)<|if x4<0 then(some (decide (x7.2=2)))else if x5<x4 then(some (decide (x7.2=2)))else if(wk .i64 ((wk .i64 ((x6.1.fF.length:Int)+(x6.1.fI.length:Int)))+(x6.1.fB.length:Int)))<x5 then(some (decide (x7.2=2)))else jr.k1 fu x1 x2 x3 x4 x5 x6 x7)else jn 3 () (λ(t:Bool)=>jr.k3 fu t)<|if x7.2=x6.2 then((dE fu x7.1 (T_Tensor.mk 0 ([]) ([]) ([]) ([]))).bind λx13=>jr.k3 fu x13)else jr.k3 fu false
end Go.Av
