/- Plain functions, as the program has them; data of structs. Made by a program of mine. Conditions: none. -/
import Derived.Test.YtiagecndhhinfaaGreatUn
set_option linter.unusedVariables false
namespace Go.Av
structure aj where
  fType:Int
  fDims:List Int
  fF:List Int
  fI:List Int
  fB:List Bool
def bT(x:aj):List AV:=[.v (.int .i64 x.fType),.arr x.fDims.length (lm (ik .i64) x.fDims),.arr x.fF.length (lm (ik .u32) x.fF),.arr x.fI.length (lm (ik .i64) x.fI),.arr x.fB.length (lm (bk) x.fB)]
theorem nP: ∀ x,(bT x).length=5:=λ_=>rfl
theorem QI: ∀ x,(bT x).all AV.one=true:=λ_=>rfl
structure dh where
  fAxis:Int
  fAxes:List Int
  fHasAxes:Bool
  fKeep:Bool
  fNoop:Bool
  fLast:Bool
  fZero:Bool
  fPerm:List Int
  fHasPerm:Bool
  fAlpha:Int
  fBeta:Int
  fEpsilon:Int
  fLow:Bool
  fHigh:Bool
  fFmod:Bool
  fTo:Int
  fMode:Int
  fTransA:Bool
  fTransB:Bool
  fGroup:Int
  fKernel:List Int
  fStrides:List Int
  fPads:List Int
  fDilations:List Int
  fAuto:Int
  fCeil:Bool
  fCount:Bool
  fBlock:Int
  fStart:Int
  fEnd:Int
  fHasEnd:Bool
  fValue:aj
def mZ(x:dh):List AV:=[.v (.int .i64 x.fAxis),.arr x.fAxes.length (lm (ik .i64) x.fAxes),.v (.bool x.fHasAxes),.v (.bool x.fKeep),.v (.bool x.fNoop),.v (.bool x.fLast),.v (.bool x.fZero),.arr x.fPerm.length (lm (ik .i64) x.fPerm),.v (.bool x.fHasPerm),.v (.int .u32 x.fAlpha),.v (.int .u32 x.fBeta),.v (.int .u32 x.fEpsilon),.v (.bool x.fLow),.v (.bool x.fHigh),.v (.bool x.fFmod),.v (.int .i64 x.fTo),.v (.int .i64 x.fMode),.v (.bool x.fTransA),.v (.bool x.fTransB),.v (.int .i64 x.fGroup),.arr x.fKernel.length (lm (ik .i64) x.fKernel),.arr x.fStrides.length (lm (ik .i64) x.fStrides),.arr x.fPads.length (lm (ik .i64) x.fPads),.arr x.fDilations.length (lm (ik .i64) x.fDilations),.v (.int .i64 x.fAuto),.v (.bool x.fCeil),.v (.bool x.fCount),.v (.int .i64 x.fBlock),.v (.int .i64 x.fStart),.v (.int .i64 x.fEnd),.v (.bool x.fHasEnd),.v (.int .i64 x.fValue.fType),.arr x.fValue.fDims.length (lm (ik .i64) x.fValue.fDims),.arr x.fValue.fF.length (lm (ik .u32) x.fValue.fF),.arr x.fValue.fI.length (lm (ik .i64) x.fValue.fI),.arr x.fValue.fB.length (lm (bk) x.fValue.fB)]
theorem qM: ∀ x,(mZ x).length=36:=λ_=>rfl
theorem Xr: ∀ x,(mZ x).all AV.one=true:=λ_=>rfl
structure aP where
  fType:Int
  fDims:List Int
  fConst:Bool
  fT:aj
def dE(x:aP):List AV:=[.v (.int .i64 x.fType),.arr x.fDims.length (lm (ik .i64) x.fDims),.v (.bool x.fConst),.v (.int .i64 x.fT.fType),.arr x.fT.fDims.length (lm (ik .i64) x.fT.fDims),.arr x.fT.fF.length (lm (ik .u32) x.fT.fF),.arr x.fT.fI.length (lm (ik .i64) x.fT.fI),.arr x.fT.fB.length (lm (bk) x.fT.fB)]
theorem jr: ∀ x,(dE x).length=8:=λ_=>rfl
theorem QK: ∀ x,(dE x).all AV.one=true:=λ_=>rfl
structure bf where
  fop:Int
  fs:dh
  fin:List aP
  fouts:Int
def ig(x:bf):List AV:=[.v (.int .i64 x.fop),.v (.int .i64 x.fs.fAxis),.arr x.fs.fAxes.length (lm (ik .i64) x.fs.fAxes),.v (.bool x.fs.fHasAxes),.v (.bool x.fs.fKeep),.v (.bool x.fs.fNoop),.v (.bool x.fs.fLast),.v (.bool x.fs.fZero),.arr x.fs.fPerm.length (lm (ik .i64) x.fs.fPerm),.v (.bool x.fs.fHasPerm),.v (.int .u32 x.fs.fAlpha),.v (.int .u32 x.fs.fBeta),.v (.int .u32 x.fs.fEpsilon),.v (.bool x.fs.fLow),.v (.bool x.fs.fHigh),.v (.bool x.fs.fFmod),.v (.int .i64 x.fs.fTo),.v (.int .i64 x.fs.fMode),.v (.bool x.fs.fTransA),.v (.bool x.fs.fTransB),.v (.int .i64 x.fs.fGroup),.arr x.fs.fKernel.length (lm (ik .i64) x.fs.fKernel),.arr x.fs.fStrides.length (lm (ik .i64) x.fs.fStrides),.arr x.fs.fPads.length (lm (ik .i64) x.fs.fPads),.arr x.fs.fDilations.length (lm (ik .i64) x.fs.fDilations),.v (.int .i64 x.fs.fAuto),.v (.bool x.fs.fCeil),.v (.bool x.fs.fCount),.v (.int .i64 x.fs.fBlock),.v (.int .i64 x.fs.fStart),.v (.int .i64 x.fs.fEnd),.v (.bool x.fs.fHasEnd),.v (.int .i64 x.fs.fValue.fType),.arr x.fs.fValue.fDims.length (lm (ik .i64) x.fs.fValue.fDims),.arr x.fs.fValue.fF.length (lm (ik .u32) x.fs.fValue.fF),.arr x.fs.fValue.fI.length (lm (ik .i64) x.fs.fValue.fI),.arr x.fs.fValue.fB.length (lm (bk) x.fs.fValue.fB),.arr x.fin.length (fm dE x.fin),.v (.int .i64 x.fouts)]
theorem wI: ∀ x,(ig x).length=39:=λ_=>rfl
theorem Xt: ∀ x,(ig x).all AV.one=true:=λ_=>rfl
structure aV where
  fop:Int
  fs:dh
  fin:List aj
  fx:aj
  faxis:Int
def dJ(x:aV):List AV:=[.v (.int .i64 x.fop),.v (.int .i64 x.fs.fAxis),.arr x.fs.fAxes.length (lm (ik .i64) x.fs.fAxes),.v (.bool x.fs.fHasAxes),.v (.bool x.fs.fKeep),.v (.bool x.fs.fNoop),.v (.bool x.fs.fLast),.v (.bool x.fs.fZero),.arr x.fs.fPerm.length (lm (ik .i64) x.fs.fPerm),.v (.bool x.fs.fHasPerm),.v (.int .u32 x.fs.fAlpha),.v (.int .u32 x.fs.fBeta),.v (.int .u32 x.fs.fEpsilon),.v (.bool x.fs.fLow),.v (.bool x.fs.fHigh),.v (.bool x.fs.fFmod),.v (.int .i64 x.fs.fTo),.v (.int .i64 x.fs.fMode),.v (.bool x.fs.fTransA),.v (.bool x.fs.fTransB),.v (.int .i64 x.fs.fGroup),.arr x.fs.fKernel.length (lm (ik .i64) x.fs.fKernel),.arr x.fs.fStrides.length (lm (ik .i64) x.fs.fStrides),.arr x.fs.fPads.length (lm (ik .i64) x.fs.fPads),.arr x.fs.fDilations.length (lm (ik .i64) x.fs.fDilations),.v (.int .i64 x.fs.fAuto),.v (.bool x.fs.fCeil),.v (.bool x.fs.fCount),.v (.int .i64 x.fs.fBlock),.v (.int .i64 x.fs.fStart),.v (.int .i64 x.fs.fEnd),.v (.bool x.fs.fHasEnd),.v (.int .i64 x.fs.fValue.fType),.arr x.fs.fValue.fDims.length (lm (ik .i64) x.fs.fValue.fDims),.arr x.fs.fValue.fF.length (lm (ik .u32) x.fs.fValue.fF),.arr x.fs.fValue.fI.length (lm (ik .i64) x.fs.fValue.fI),.arr x.fs.fValue.fB.length (lm (bk) x.fs.fValue.fB),.arr x.fin.length (fm bT x.fin),.v (.int .i64 x.fx.fType),.arr x.fx.fDims.length (lm (ik .i64) x.fx.fDims),.arr x.fx.fF.length (lm (ik .u32) x.fx.fF),.arr x.fx.fI.length (lm (ik .i64) x.fx.fI),.arr x.fx.fB.length (lm (bk) x.fx.fB),.v (.int .i64 x.faxis)]
theorem AX: ∀ x,(dJ x).length=44:=λ_=>rfl
theorem Xu: ∀ x,(dJ x).all AV.one=true:=λ_=>rfl
structure qL where
  fneg:Bool
  fnan:Bool
  finf:Bool
  fexp:Int
  fsig:Int
def yB(x:qL):List AV:=[.v (.bool x.fneg),.v (.bool x.fnan),.v (.bool x.finf),.v (.int .i64 x.fexp),.v (.int .u64 x.fsig)]
theorem Hg: ∀ x,(yB x).length=5:=λ_=>rfl
theorem Xv: ∀ x,(yB x).all AV.one=true:=λ_=>rfl
def ut(fu:Nat)(x1:Int):Option Bool:=
  if 45<=x1 then(if x1<=64 then(some (!(decide (x1=61))))else some false)else some false
def xK(fu:Nat)(x1:Int):Option Int:=
  if x1=1 then(some 4)else if x1=7 then(some 8)else if x1=9 then(some 1)else some 0
def Dh(fu:Nat)(x1:Int):Option Bool:=
  (xK fu x1).bind λx2=>some (decide (0<x2))
def lL.L1(fu:Nat)(p1:Int→Option Bool)(x1:List Int)(nx1:Int→Option Int)(x4:Int):Option Int:=
  if x4<(x1.length:Int)then((at? x1 x4).bind λx7=>(p1 x7).bind λx8=>if x8=true then(some x4)else nx1 (wk .i64 (x4+1)))else some (-1)
def lL.W1(fu:Nat)(p1:Int→Option Bool)(x1:List Int)(x4:Int):Option Int:=
  aT (λnext s=>lL.L1 fu p1 x1 next s) fu x4
def lL(fu:Nat)(x1:List Int)(p1:Int→Option Bool):Option Int:=
  lL.W1 fu p1 x1 0
def kY(fu:Nat)(x1:List Int)(p1:Int→Option Bool):Option Bool:=
  (lL fu x1 p1).bind λx2=>some (decide (0<=x2))
def zO(fu:Nat)(x1:Int):Option Bool:=
  some (decide (x1<0))
def zQ(fu:Nat)(x1:Int):Option Bool:=
  some (decide (4096<x1))
def slices_Index_int.L1(fu:Nat)(x1:List Int)(x2:Int)(nx1:Int→Option Int)(x4:Int):Option Int:=
  if x4<(x1.length:Int)then((at? x1 x4).bind λx6=>if x2=x6 then(some x4)else nx1 (wk .i64 (x4+1)))else some (-1)
def slices_Index_int.W1(fu:Nat)(x1:List Int)(x2:Int)(x4:Int):Option Int:=
  aT (λnext s=>slices_Index_int.L1 fu x1 x2 next s) fu x4
def slices_Index_int(fu:Nat)(x1:List Int)(x2:Int):Option Int:=
  slices_Index_int.W1 fu x1 x2 0
def slices_Contains_int(fu:Nat)(x1:List Int)(x2:Int):Option Bool:=
  (slices_Index_int fu x1 x2).bind λx3=>some (decide (0<=x3))
def eF.L1(fu:Nat)(x1:List Int)(nx1:Int→Int→Option (Int×Int))(x5:Int)(x6:Int):Option (Int×Int):=
  if x6<(x1.length:Int)then((at? x1 x6).bind λx8=>chk (x5≠0)<|if(wk .i64 (Int.tdiv 4096 x5))<x8 then(some (0,4))else nx1 (wk .i64 (x5*x8)) (wk .i64 (x6+1)))else some (x5,0)
def eF.W1(fu:Nat)(x1:List Int)(x5:Int)(x6:Int):Option (Int×Int):=
  aT (λnext s=>eF.L1 fu x1 (λx5 x6=>next (x5,x6)) s.1 s.2) fu (x5,x6)
def eF.k1(fu:Nat)(x1:List Int):Option (Int×Int):=
  (slices_Contains_int fu x1 0).bind λx3=>if x3=true then(some (0,0))else eF.W1 fu x1 1 0
def eF(fu:Nat)(x1:List Int):Option (Int×Int):=
  (kY fu x1 (λy0=>zO fu y0)).bind λx2=>if x2=true then(some (0,1))else jn 1 () (λ(t:Unit)=>eF.k1 fu x1)<|if 8<(x1.length:Int)then(some (0,4))else(kY fu x1 (λy0=>zQ fu y0)).bind λx9=>if x9=true then(some (0,4))else eF.k1 fu x1
def jY.k1(fu:Nat)(x1:aj)(x3:Int×Int)(x4:Int):Option Int:=
  if x4=x3.1 then(if(wk .i64 ((wk .i64 ((x1.fF.length:Int)+(x1.fI.length:Int)))+(x1.fB.length:Int)))=x3.1 then(some 0)else some 3)else some 3
def jY(fu:Nat)(x1:aj):Option Int:=
  (Dh fu x1.fType).bind λx2=>if x2=true then((eF fu x1.fDims).bind λx3=>if x3.2=0 then(jn 1 () (λ(t:Int)=>jY.k1 fu x1 x3 t)<|if x1.fType=7 then(jY.k1 fu x1 x3 (x1.fI.length:Int))else if x1.fType=9 then(jY.k1 fu x1 x3 (x1.fB.length:Int))else jY.k1 fu x1 x3 (x1.fF.length:Int))else some x3.2)else some 5
def Nz(fu:Nat)(x1:List Int):Option (List Int):=
  chk ((x1.length:Int)*8<=140737488355328)<|some x1
def ND(fu:Nat)(x1:List Int):Option (List Int):=
  chk ((x1.length:Int)*4<=140737488355328)<|some x1
def NC(fu:Nat)(x1:List Int):Option (List Int):=
  chk ((x1.length:Int)*8<=140737488355328)<|some x1
def Ny(fu:Nat)(x1:List Bool):Option (List Bool):=
  chk ((x1.length:Int)*1<=140737488355328)<|some x1
def Dc(fu:Nat)(x1:aj):Option aj:=
  (Nz fu x1.fDims).bind λx2=>(ND fu x1.fF).bind λx3=>(NC fu x1.fI).bind λx4=>(Ny fu x1.fB).bind λx5=>some (aj.mk x1.fType x2 x3 x4 x5)
def Nr(fu:Nat)(x1:Int):Option Int:=
  some (DN .u32 x1 2147483648)
def Ns(fu:Nat)(x1:Int):Option Bool:=
  (Nr fu x1).bind λx2=>some (decide (2139095040<x2))
def Fj(fu:Nat)(x1:Int):Option Int:=
  (Ns fu x1).bind λx2=>if x2=true then(some 2143289344)else some x1
def jI.L1(fu:Nat)(x2:aj)(nx1:(List Int)→Int→Option aj)(x5:List Int)(x6:Int):Option aj:=
  if x6<((x2.fF.length:Nat):Int)then((at? x5 x6).bind λx9=>(Fj fu x9).bind λx10=>chk (0<=x6/\x6<(x5.length:Int))<|nx1 (x5.set x6.toNat x10) (wk .i64 (x6+1)))else some (aj.mk x2.fType x2.fDims x5 x2.fI x2.fB)
def jI.W1(fu:Nat)(x2:aj)(x5:List Int)(x6:Int):Option aj:=
  aT (λnext s=>jI.L1 fu x2 (λx5 x6=>next (x5,x6)) s.1 s.2) fu (x5,x6)
def jI(fu:Nat)(x1:aj):Option aj:=
  (Dc fu x1).bind λx2=>jI.W1 fu x2 x2.fF 0
def slices_Clone_int(fu:Nat)(x1:List Int):Option (List Int):=
  chk ((x1.length:Int)*8<=140737488355328)<|some x1
def lX.L1(fu:Nat)(x1:List aj)(nx1:(List aP)→Int→Option (List aP))(x5:List aP)(x6:Int):Option (List aP):=
  if x6<(x1.length:Int)then((at? x1 x6).bind λx10=>if x10.fType=0 then(chk ((x5.length+1:Int)*144<=140737488355328)<|nx1 (x5++([aP.mk 0 ([]) false (aj.mk 0 ([]) ([]) ([]) ([]))])) (wk .i64 (x6+1)))else(slices_Clone_int fu x10.fDims).bind λx11=>(Dc fu x10).bind λx12=>chk ((x5.length+1:Int)*144<=140737488355328)<|nx1 (x5++([aP.mk x10.fType x11 true x12])) (wk .i64 (x6+1)))else some x5
def lX.W1(fu:Nat)(x1:List aj)(x5:List aP)(x6:Int):Option (List aP):=
  aT (λnext s=>lX.L1 fu x1 (λx5 x6=>next (x5,x6)) s.1 s.2) fu (x5,x6)
def lX(fu:Nat)(x1:List aj):Option (List aP):=
  lX.W1 fu x1 ([]:List aP) 0
def zD(fu:Nat)(x1:Int):Option (Int×Int×Int×Int):=
  kG (x1=45) (some (1,1,1,1))<|kG (x1=46) (some (2,2,1,1))<|kG (x1=47) (some (1,64,1,1))<|kG (x1=48) (some (1,2,1,64))<|kG (x1=49) (some (3,5,1,1))<|kG (x1=50) (some (2,2,1,1))<|kG (x1=51) (some (2,2,1,1))<|kG (x1=52) (some (3,3,1,1))<|kG (x1=53) (some (2,3,1,1))<|kG (x1=54) (some (2,2,1,1))<|kG (x1=55) (some (2,2,1,1))<|kG (x1=56) (some (1,2,1,1))<|kG (x1=57) (some (2,2,1,1))<|kG (x1=58) (some (1,1,1,1))<|kG (x1=59) (some (1,1,1,1))<|kG (x1=60) (some (1,1,1,1))<|kG (x1=62) (some (1,1,1,1))<|kG (x1=63) (some (1,1,1,1))<|chk (x1=64)<|some (1,1,1,1)
def oN(fu:Nat)(x1:bf)(x2:Int):Option aP:=
  if x2<(x1.fin.length:Int)then((at? x1.fin x2).bind λx3=>some x3)else some (aP.mk 0 ([]) false (aj.mk 0 ([]) ([]) ([]) ([])))
def nS(fu:Nat)(x1:bf)(x2:Int):Option Bool:=
  (oN fu x1 x2).bind λx3=>some (!(decide (x3.fType=0)))
def kR.L1(fu:Nat)(x1:bf)(x2:Int×Int×Int×Int)(nx1:Int→Option Bool)(x4:Int):Option Bool:=
  if x4<x2.1 then((nS fu x1 x4).bind λx6=>if x6=true then(nx1 (wk .i64 (x4+1)))else some false)else some true
def kR.W1(fu:Nat)(x1:bf)(x2:Int×Int×Int×Int)(x4:Int):Option Bool:=
  aT (λnext s=>kR.L1 fu x1 x2 next s) fu x4
def kR.k1(fu:Nat)(x1:bf)(x2:Int×Int×Int×Int):Option Bool:=
  kR.W1 fu x1 x2 0
def kR(fu:Nat)(x1:bf):Option Bool:=
  (zD fu x1.fop).bind λx2=>jn 1 () (λ(t:Unit)=>kR.k1 fu x1 x2)<|if x2.2.2.1=0 then(some false)else if x1.fop=61 then(none)else if(x1.fin.length:Int)<x2.1 then(some false)else if x2.2.1<(x1.fin.length:Int)then(some false)else if x1.fouts<x2.2.2.1 then(some false)else if x2.2.2.2<x1.fouts then(some false)else kR.k1 fu x1 x2
def eU.k5(fu:Nat)(x1:Int)(x3:Bool):Option ByteArray:=
  if x3=true then(some (⟨#[97,105]⟩:ByteArray))else if x1=52 then(some (⟨#[97,105,61]⟩:ByteArray))else if x1=53 then(some (⟨#[97,105,61]⟩:ByteArray))else if x1=62 then(some (⟨#[105]⟩:ByteArray))else if x1=65 then(none)else some (⟨#[102]⟩:ByteArray)
def eU.k4(fu:Nat)(x1:Int)(x2:Bool):Option ByteArray:=
  if x2=true then(some (⟨#[97]⟩:ByteArray))else jn 5 () (λ(t:Bool)=>eU.k5 fu x1 t)<|if x1=46 then(eU.k5 fu x1 true)else if x1=48 then(eU.k5 fu x1 true)else if x1=49 then(eU.k5 fu x1 true)else if x1=54 then(eU.k5 fu x1 true)else if x1=55 then(eU.k5 fu x1 true)else if x1=56 then(eU.k5 fu x1 true)else if x1=57 then(eU.k5 fu x1 true)else if x1=50 then(eU.k5 fu x1 true)else eU.k5 fu x1 (decide (x1=51))
def eU.k3(fu:Nat)(x1:Int):Option ByteArray:=
  if x1=43 then(none)else if x1=37 then(none)else if x1=47 then(some (⟨#[97,61]⟩:ByteArray))else if x1=42 then(none)else jn 4 () (λ(t:Bool)=>eU.k4 fu x1 t)<|if x1=21 then(none)else if x1=44 then(none)else if x1=45 then(eU.k4 fu x1 true)else if x1=58 then(eU.k4 fu x1 true)else if x1=59 then(eU.k4 fu x1 true)else if x1=60 then(eU.k4 fu x1 true)else if x1=63 then(eU.k4 fu x1 true)else eU.k4 fu x1 (decide (x1=64))
def eU.k2(fu:Nat)(x1:Int):Option ByteArray:=
  if x1=25 then(none)else jn 3 x1 (λ(t:Unit)=>eU.k3 fu x1)<|if x1=28 then(none)else if x1=29 then(none)else if x1=30 then(none)else if x1=31 then(none)else if x1=32 then(none)else if x1=34 then(none)else if x1=35 then(none)else if x1=38 then(none)else if x1=39 then(none)else if x1=40 then(none)else if x1=41 then(none)else eU.k3 fu x1
def eU.k1(fu:Nat)(x1:Int):Option ByteArray:=
  if x1=71 then(none)else jn 2 x1 (λ(t:Unit)=>eU.k2 fu x1)<|if x1=22 then(none)else if x1=23 then(none)else if x1=24 then(none)else eU.k2 fu x1
def eU(fu:Nat)(x1:Int):Option ByteArray:=
  jn 1 x1 (λ(t:Unit)=>eU.k1 fu x1)<|if x1=1 then(none)else if x1=2 then(none)else if x1=3 then(none)else if x1=67 then(none)else if x1=68 then(none)else if x1=69 then(none)else if x1=70 then(none)else eU.k1 fu x1
def ru.k1(fu:Nat)(x5:Bool):Option Bool:=
  some x5
def ru(fu:Nat)(x1:bf)(x2:Int)(x3:Int):Option Bool:=
  (oN fu x1 x2).bind λx4=>if x3=110 then(jn 1 () (λ(t:Bool)=>ru.k1 fu t)<|if x4.fType=1 then(ru.k1 fu true)else ru.k1 fu (decide (x4.fType=7)))else if x3=102 then(some (decide (x4.fType=1)))else if x3=98 then(some (decide (x4.fType=9)))else if x3=105 then(some (decide (x4.fType=7)))else if x3=61 then((oN fu x1 0).bind λx6=>some (decide (x4.fType=x6.fType)))else if x3=43 then((oN fu x1 (wk .i64 (x2 - 1))).bind λx7=>some (decide (x4.fType=x7.fType)))else(xK fu x4.fType).bind λx8=>some (decide (0<x8))
def kS.k1(fu:Nat)(x1:bf):Option Bool:=
  if x1.fop=52 then(if x1.fs.fMode=0 then(some true)else(oN fu x1 0).bind λx3=>some (!(decide (x3.fType=9))))else some true
def kS.L1(fu:Nat)(x1:bf)(x2:ByteArray)(nx1:Int→Option Bool)(x9:Int):Option Bool:=
  if x9<(x1.fin.length:Int)then((nS fu x1 x9).bind λx15=>if x15=true then((oN fu x1 x9).bind λx16=>(xK fu x16.fType).bind λx17=>if x17=0 then(some false)else(sat? x2 (iH x9 (wk .i64 ((x2.size:Int) - 1)))).bind λx18=>(ru fu x1 x9 x18).bind λx19=>if x19=true then(nx1 (wk .i64 (x9+1)))else some false)else nx1 (wk .i64 (x9+1)))else kS.k1 fu x1
def kS.W1(fu:Nat)(x1:bf)(x2:ByteArray)(x9:Int):Option Bool:=
  aT (λnext s=>kS.L1 fu x1 x2 next s) fu x9
def kS(fu:Nat)(x1:bf):Option Bool:=
  (eU fu x1.fop).bind λx2=>jn 1 () (λ(t:Unit)=>kS.k1 fu x1)<|kS.W1 fu x1 x2 0
def jk(fu:Nat)(x1:bf)(x2:Int):Option (List Int):=
  (oN fu x1 x2).bind λx3=>some x3.fDims
def Bv(fu:Nat)(x1:bf):Option Int:=
  (jk fu x1 0).bind λx2=>some (x2.length:Int)
def og(fu:Nat)(x1:Int)(x2:Int):Option (Int×Int):=
  if x2<0 then(some (0,2))else if 0<=x1 then(if x1<x2 then(some (x1,0))else some (0,2))else if(wk .i64 (0 - x2))<=x1 then(some (wk .i64 (x2+x1),0))else some (0,2)
def jF.k2(fu:Nat)(x3:List Bool)(x4:Bool):Option ((List Bool)×Int):=
  if x4=true then(some ([],1))else some (x3,0)
def jF.L1(fu:Nat)(x1:List Int)(x2:Int)(nx1:(List Bool)→Bool→Int→Option ((List Bool)×Int))(x8:List Bool)(x9:Bool)(x10:Int):Option ((List Bool)×Int):=
  if x10<(x1.length:Int)then((at? x1 x10).bind λx14=>(og fu x14 x2).bind λx15=>if x15.2=0 then(if x9=true then(chk (0<=x15.1/\x15.1<(x8.length:Int))<|nx1 (x8.set x15.1.toNat true) true (wk .i64 (x10+1)))else(at? x8 x15.1).bind λx16=>chk (0<=x15.1/\x15.1<(x8.length:Int))<|nx1 (x8.set x15.1.toNat true) x16 (wk .i64 (x10+1)))else some ([],x15.2))else jF.k2 fu x8 x9
def jF.W1(fu:Nat)(x1:List Int)(x2:Int)(x8:List Bool)(x9:Bool)(x10:Int):Option ((List Bool)×Int):=
  aT (λnext s=>jF.L1 fu x1 x2 (λx8 x9 x10=>next (x8,x9,x10)) s.1 s.2.1 s.2.2) fu (x8,x9,x10)
def jF.k1(fu:Nat)(x1:List Int)(x2:Int):Option ((List Bool)×Int):=
  chk (0<=x2/\x2*1<=140737488355328)<|jn 2 () (λ(t:(List Bool)×Bool)=>jF.k2 fu t.1 t.2)<|jF.W1 fu x1 x2 (List.replicate x2.toNat (false:Bool)) false 0
def jF(fu:Nat)(x1:List Int)(x2:Int):Option ((List Bool)×Int):=
  jn 1 () (λ(t:Unit)=>jF.k1 fu x1 x2)<|if x2<0 then(some ([],1))else if 8<x2 then(some ([],1))else jF.k1 fu x1 x2
def Bq(fu:Nat)(x1:Int):Option Bool:=
  some (decide (x1<0))
def kQ.k2(fu:Nat)(x1:bf):Option Bool:=
  if x1.fop=69 then(none)else if x1.fop=75 then(none)else if x1.fop=76 then(none)else if x1.fop=77 then(none)else some true
def kQ.k1(fu:Nat)(x1:bf)(x2:Int)(x6:Bool):Option Bool:=
  if x6=true then((og fu x1.fs.fAxis x2).bind λx7=>some (decide (x7.2=0)))else if x1.fop=58 then(if(wk .i64 (0 - x2))<=x1.fs.fAxis then(some (decide (x1.fs.fAxis<=x2)))else some false)else jn 2 x1 (λ(t:Unit)=>kQ.k2 fu x1)<|if x1.fop=66 then(none)else if x1.fop=67 then(none)else if x1.fop=68 then(none)else kQ.k2 fu x1
def kQ(fu:Nat)(x1:bf):Option Bool:=
  (Bv fu x1).bind λx2=>if x1.fop=32 then(none)else if x1.fop=44 then(none)else if x1.fop=62 then(if(wk .i64 ((wk .i64 ((x1.fs.fValue.fF.length:Int)+(x1.fs.fValue.fI.length:Int)))+(x1.fs.fValue.fB.length:Int)))=1 then((jY fu x1.fs.fValue).bind λx3=>some (decide (x3=0)))else some false)else if x1.fop=63 then(if 1<=x1.fs.fBlock then(some (decide (x1.fs.fBlock<=4096)))else some false)else if x1.fop=64 then(if 1<=x1.fs.fBlock then(some (decide (x1.fs.fBlock<=4096)))else some false)else if x1.fop=45 then((jF fu x1.fs.fPerm x2).bind λx4=>if x1.fs.fHasPerm=true then(if x4.2=0 then(if(x1.fs.fPerm.length:Int)=((x4.1.length:Nat):Int)then((kY fu x1.fs.fPerm (λy0=>Bq fu y0)).bind λx5=>some (!x5))else some false)else some false)else some true)else jn 1 () (λ(t:Bool)=>kQ.k1 fu x1 x2 t)<|if x1.fop=47 then(kQ.k1 fu x1 x2 true)else if x1.fop=48 then(kQ.k1 fu x1 x2 true)else if x1.fop=50 then(kQ.k1 fu x1 x2 true)else if x1.fop=51 then(kQ.k1 fu x1 x2 true)else if x1.fop=52 then(kQ.k1 fu x1 x2 true)else if x1.fop=70 then(none)else if x1.fop=71 then(none)else if x1.fop=72 then(none)else kQ.k1 fu x1 x2 (decide (x1.fop=80))
def iM.L1(fu:Nat)(x1:bf)(x3:Int)(nx1:(List aP)→Int→Option (List aP))(x6:List aP)(x7:Int):Option (List aP):=
  if x7<x3 then((nS fu x1 x7).bind λx10=>if x10=true then((oN fu x1 x7).bind λx11=>chk ((x6.length+1:Int)*144<=140737488355328)<|nx1 (x6++([x11])) (wk .i64 (x7+1)))else nx1 x6 (wk .i64 (x7+1)))else some x6
def iM.W1(fu:Nat)(x1:bf)(x3:Int)(x6:List aP)(x7:Int):Option (List aP):=
  aT (λnext s=>iM.L1 fu x1 x3 (λx6 x7=>next (x6,x7)) s.1 s.2) fu (x6,x7)
def iM.k1(fu:Nat)(x1:bf)(x2:Int)(x3:Int):Option (List aP):=
  iM.W1 fu x1 x3 ([]:List aP) x2
def iM(fu:Nat)(x1:bf):Option (List aP):=
  jn 1 () (λ(t:Int×Int)=>iM.k1 fu x1 t.1 t.2)<|if x1.fop=62 then(iM.k1 fu x1 0 1)else if x1.fop=49 then(iM.k1 fu x1 1 5)else if x1.fop=46 then(iM.k1 fu x1 1 2)else if x1.fop=48 then(iM.k1 fu x1 1 2)else if x1.fop=53 then(iM.k1 fu x1 1 2)else if x1.fop=54 then(iM.k1 fu x1 1 2)else if x1.fop=55 then(iM.k1 fu x1 1 2)else if x1.fop=56 then(iM.k1 fu x1 1 2)else if x1.fop=57 then(iM.k1 fu x1 1 2)else if x1.fop=65 then(none)else some ([])
def oq.L1(fu:Nat)(p1:aP→Option Bool)(x1:List aP)(nx1:Int→Option Int)(x4:Int):Option Int:=
  if x4<(x1.length:Int)then((at? x1 x4).bind λx7=>(p1 x7).bind λx8=>if x8=true then(some x4)else nx1 (wk .i64 (x4+1)))else some (-1)
def oq.W1(fu:Nat)(p1:aP→Option Bool)(x1:List aP)(x4:Int):Option Int:=
  aT (λnext s=>oq.L1 fu p1 x1 next s) fu x4
def oq(fu:Nat)(x1:List aP)(p1:aP→Option Bool):Option Int:=
  oq.W1 fu p1 x1 0
def qi(fu:Nat)(x1:List aP)(p1:aP→Option Bool):Option Bool:=
  (oq fu x1 p1).bind λx2=>some (decide (0<=x2))
def slices_Equal_int.L1(fu:Nat)(x1:List Int)(x2:List Int)(nx1:Int→Option Bool)(x5:Int):Option Bool:=
  if x5<(x1.length:Int)then((at? x1 x5).bind λx8=>(at? x2 x5).bind λx9=>if x8=x9 then(nx1 (wk .i64 (x5+1)))else some false)else some true
def slices_Equal_int.W1(fu:Nat)(x1:List Int)(x2:List Int)(x5:Int):Option Bool:=
  aT (λnext s=>slices_Equal_int.L1 fu x1 x2 next s) fu x5
def slices_Equal_int(fu:Nat)(x1:List Int)(x2:List Int):Option Bool:=
  if(x1.length:Int)=(x2.length:Int)then(slices_Equal_int.W1 fu x1 x2 0)else some false
def Eu(fu:Nat)(x1:aP):Option Bool:=
  if x1.fConst=true then((jY fu x1.fT).bind λx2=>if x2=0 then(if x1.fT.fType=x1.fType then((slices_Equal_int fu x1.fT.fDims x1.fDims).bind λx3=>some x3)else some false)else some false)else some false
def y7(fu:Nat)(x1:aP):Option Bool:=
  (Eu fu x1).bind λx2=>some (!x2)
def y8(fu:Nat)(x1:aP):Option Bool:=
  some (!(decide ((x1.fDims.length:Int)=1)))
def ou.L1(fu:Nat)(p1:Int→Option Bool)(x1:List Int)(nx1:Int→Option Int)(x4:Int):Option Int:=
  if x4<(x1.length:Int)then((at? x1 x4).bind λx7=>(p1 x7).bind λx8=>if x8=true then(some x4)else nx1 (wk .i64 (x4+1)))else some (-1)
def ou.W1(fu:Nat)(p1:Int→Option Bool)(x1:List Int)(x4:Int):Option Int:=
  aT (λnext s=>ou.L1 fu p1 x1 next s) fu x4
def ou(fu:Nat)(x1:List Int)(p1:Int→Option Bool):Option Int:=
  ou.W1 fu p1 x1 0
def zT(fu:Nat)(x1:List Int)(p1:Int→Option Bool):Option Bool:=
  (ou fu x1 p1).bind λx2=>some (decide (0<=x2))
def Bz(fu:Nat)(x1:Int):Option Bool:=
  some (decide (4096<x1))
def y9(fu:Nat)(x1:aP):Option Bool:=
  (zT fu x1.fT.fI (λy0=>Bz fu y0)).bind λx2=>some x2
def y5(fu:Nat)(x1:bf):Option Int:=
  (iM fu x1).bind λx2=>(qi fu x2 (λy0=>y7 fu y0)).bind λx3=>if x3=true then(some 15)else(qi fu x2 (λy0=>y8 fu y0)).bind λx4=>if x4=true then(some 3)else if x1.fop=49 then(some 0)else(qi fu x2 (λy0=>y9 fu y0)).bind λx5=>if x5=true then(some 4)else some 0
def kT.k1(fu:Nat)(x1:bf):Option Int:=
  (kS fu x1).bind λx2=>if x2=true then((kQ fu x1).bind λx3=>if x3=true then((y5 fu x1).bind λx4=>some x4)else some 14)else some 5
def kT.L1(fu:Nat)(x1:bf)(nx1:Int→Option Int)(x8:Int):Option Int:=
  if x8<(x1.fin.length:Int)then((at? x1.fin x8).bind λx12=>(eF fu x12.fDims).bind λx13=>(nS fu x1 x8).bind λx14=>if x14=true then(if x13.2=0 then(nx1 (wk .i64 (x8+1)))else some 4)else nx1 (wk .i64 (x8+1)))else kT.k1 fu x1
def kT.W1(fu:Nat)(x1:bf)(x8:Int):Option Int:=
  aT (λnext s=>kT.L1 fu x1 next s) fu x8
def kT(fu:Nat)(x1:bf):Option Int:=
  jn 1 () (λ(t:Unit)=>kT.k1 fu x1)<|kT.W1 fu x1 0
def lZ(fu:Nat)(x1:List Int):Option ((List (List Int))×Int):=
  some ([x1],0)
def jl.L1(fu:Nat)(x4:aP)(nx1:(List Int)→Int→Option (List Int))(x6:List Int)(x7:Int):Option (List Int):=
  if x7<(x4.fT.fI.length:Int)then((at? x4.fT.fI x7).bind λx9=>chk ((x6.length+1:Int)*8<=140737488355328)<|nx1 (x6++([x9])) (wk .i64 (x7+1)))else some x6
def jl.W1(fu:Nat)(x4:aP)(x6:List Int)(x7:Int):Option (List Int):=
  aT (λnext s=>jl.L1 fu x4 (λx6 x7=>next (x6,x7)) s.1 s.2) fu (x6,x7)
def jl(fu:Nat)(x1:bf)(x2:Int):Option (List Int):=
  (nS fu x1 x2).bind λx3=>if x3=true then((oN fu x1 x2).bind λx4=>jl.W1 fu x4 ([]:List Int) 0)else some ([])
def fM(fu:Nat):Option ((List (List Int))×Int):=
  some ([],3)
def dM.k4(fu:Nat)(x10:List Int):Option ((List (List Int))×Int):=
  (lZ fu x10).bind λx11=>some (x11.1,x11.2)
def dM.k3(fu:Nat)(x4:Int×Int)(x6:List Int)(x7:Int)(x9:Int):Option ((List (List Int))×Int):=
  jn 4 () (λ(t:List Int)=>dM.k4 fu t)<|if 0<=x7 then(if x9=0 then((fM fu).bind λx12=>some (x12.1,x12.2))else chk (x9≠0)<|if(Int.tmod x4.1 x9)=0 then(chk (0<=x7/\x7<(x6.length:Int))<|dM.k4 fu (x6.set x7.toNat (wk .i64 (Int.tdiv x4.1 x9))))else(fM fu).bind λx13=>some (x13.1,x13.2))else if x9=x4.1 then(dM.k4 fu x6)else(fM fu).bind λx14=>some (x14.1,x14.2)
def dM.L1(fu:Nat)(x4:Int×Int)(x6:List Int)(x7:Int)(nx1:Int→Int→Option ((List (List Int))×Int))(x19:Int)(x20:Int):Option ((List (List Int))×Int):=
  if x20<(x6.length:Int)then((at? x6 x20).bind λx25=>if 0<x19 then(if x20=x7 then(nx1 x19 (wk .i64 (x20+1)))else if x4.1<(wk .i64 (x19*x25))then(if 0<x4.1 then((fM fu).bind λx26=>some (x26.1,x26.2))else if 4096<(wk .i64 (x19*x25))then((fM fu).bind λx27=>some (x27.1,x27.2))else nx1 (wk .i64 (x19*x25)) (wk .i64 (x20+1)))else if 4096<(wk .i64 (x19*x25))then((fM fu).bind λx28=>some (x28.1,x28.2))else nx1 (wk .i64 (x19*x25)) (wk .i64 (x20+1)))else nx1 x19 (wk .i64 (x20+1)))else dM.k3 fu x4 x6 x7 x19
def dM.W1(fu:Nat)(x4:Int×Int)(x6:List Int)(x7:Int)(x19:Int)(x20:Int):Option ((List (List Int))×Int):=
  aT (λnext s=>dM.L1 fu x4 x6 x7 (λx19 x20=>next (x19,x20)) s.1 s.2) fu (x19,x20)
def dM.k2(fu:Nat)(x4:Int×Int)(x6:List Int)(x7:Int)(x8:Int):Option ((List (List Int))×Int):=
  jn 3 () (λ(t:Int)=>dM.k3 fu x4 x6 x7 t)<|dM.W1 fu x4 x6 x7 x8 0
def dM.L2(fu:Nat)(x4:Int×Int)(x6:List Int)(x7:Int)(nx2:Int→Int→Option ((List (List Int))×Int))(x30:Int)(x31:Int):Option ((List (List Int))×Int):=
  if x31<(x6.length:Int)then((at? x6 x31).bind λx33=>if x31=x7 then(nx2 x30 (wk .i64 (x31+1)))else if x33=0 then(nx2 0 (wk .i64 (x31+1)))else nx2 x30 (wk .i64 (x31+1)))else dM.k2 fu x4 x6 x7 x30
def dM.W2(fu:Nat)(x4:Int×Int)(x6:List Int)(x7:Int)(x30:Int)(x31:Int):Option ((List (List Int))×Int):=
  aT (λnext s=>dM.L2 fu x4 x6 x7 (λx30 x31=>next (x30,x31)) s.1 s.2) fu (x30,x31)
def dM.k1(fu:Nat)(x4:Int×Int)(x5:Bool)(x6:List Int)(x7:Int):Option ((List (List Int))×Int):=
  jn 2 () (λ(t:Int)=>dM.k2 fu x4 x6 x7 t)<|dM.W2 fu x4 x6 x7 1 0
def dM.L3(fu:Nat)(x2:List Int)(x3:List Int)(x4:Int×Int)(nx3:Bool→(List Int)→Int→Int→Option ((List (List Int))×Int))(x38:Bool)(x39:List Int)(x40:Int)(x41:Int):Option ((List (List Int))×Int):=
  if x41<(x3.length:Int)then((at? x39 x41).bind λx47=>if x47<(-1)then((fM fu).bind λx48=>some (x48.1,x48.2))else if x47=(-1)then(if 0<=x40 then((fM fu).bind λx49=>some (x49.1,x49.2))else if x47=0 then(none)else nx3 x38 x39 x41 (wk .i64 (x41+1)))else if x47=0 then(if x38=true then(nx3 true x39 x40 (wk .i64 (x41+1)))else if(x2.length:Int)<=x41 then((fM fu).bind λx50=>some (x50.1,x50.2))else(at? x2 x41).bind λx51=>chk (0<=x41/\x41<(x39.length:Int))<|nx3 false (x39.set x41.toNat x51) x40 (wk .i64 (x41+1)))else nx3 x38 x39 x40 (wk .i64 (x41+1)))else dM.k1 fu x4 x38 x39 x40
def dM.W3(fu:Nat)(x2:List Int)(x3:List Int)(x4:Int×Int)(x38:Bool)(x39:List Int)(x40:Int)(x41:Int):Option ((List (List Int))×Int):=
  aT (λnext s=>dM.L3 fu x2 x3 x4 (λx38 x39 x40 x41=>next (x38,x39,x40,x41)) s.1 s.2.1 s.2.2.1 s.2.2.2) fu (x38,x39,x40,x41)
def dM(fu:Nat)(x1:bf):Option ((List (List Int))×Int):=
  (jk fu x1 0).bind λx2=>(jl fu x1 1).bind λx3=>(eF fu x2).bind λx4=>jn 1 () (λ(t:Bool×(List Int)×Int)=>dM.k1 fu x4 t.1 t.2.1 t.2.2)<|dM.W3 fu x2 x3 x4 x1.fs.fZero x3 (-1) 0
def vw(fu:Nat)(x1:bf):Option Int:=
  (Bv fu x1).bind λx2=>(og fu x1.fs.fAxis x2).bind λx3=>some x3.1
def lF.k1(fu:Nat)(x5:List Int):Option ((List (List Int))×Int):=
  (lZ fu x5).bind λx6=>some (x6.1,x6.2)
def lF.L1(fu:Nat)(x1:bf)(x4:Int)(nx1:(List Int)→Int→Option ((List (List Int))×Int))(x14:List Int)(x15:Int):Option ((List (List Int))×Int):=
  if x15<(x1.fin.length:Int)then((jk fu x1 x15).bind λx23=>(slices_Clone_int fu x23).bind λx24=>if(x24.length:Int)=(x14.length:Int)then((at? x24 x4).bind λx25=>(at? x14 x4).bind λx26=>chk (0<=x4/\x4<(x24.length:Int))<|(slices_Equal_int fu (x24.set x4.toNat x26) x14).bind λx27=>if x27=true then(chk (0<=x4/\x4<(x14.length:Int))<|nx1 (x14.set x4.toNat (wk .i64 (x26+x25))) (wk .i64 (x15+1)))else(fM fu).bind λx28=>some (x28.1,x28.2))else(fM fu).bind λx29=>some (x29.1,x29.2))else lF.k1 fu x14
def lF.W1(fu:Nat)(x1:bf)(x4:Int)(x14:List Int)(x15:Int):Option ((List (List Int))×Int):=
  aT (λnext s=>lF.L1 fu x1 x4 (λx14 x15=>next (x14,x15)) s.1 s.2) fu (x14,x15)
def lF(fu:Nat)(x1:bf):Option ((List (List Int))×Int):=
  (jk fu x1 0).bind λx2=>(slices_Clone_int fu x2).bind λx3=>(vw fu x1).bind λx4=>jn 1 () (λ(t:List Int)=>lF.k1 fu t)<|lF.W1 fu x1 x4 x3 1
def Fh(fu:Nat)(x1:List Int)(x2:Int):Option (List Int):=
  chk (x1.length=1/\x2=1)<|some x1
def BA(fu:Nat)(x1:Int)(x2:Int):Option Bool:=
  some (decide (x1<x2))
def vz(fu:Nat)(x1:List Int)(x2:Int):Option Bool:=
  (kY fu x1 (λy0=>BA fu y0 x2)).bind λx3=>some x3
def eQ.k2(fu:Nat)(x2:List Int)(x3:Int)(x6:List (List Int))(x7:Int):Option ((List (List Int))×Int):=
  (at? x2 x3).bind λx8=>if x7=x8 then(some (x6,0))else(fM fu).bind λx9=>some (x9.1,x9.2)
def eQ.L1(fu:Nat)(x2:List Int)(x3:Int)(x4:List Int)(nx1:(List (List Int))→Int→Int→Option ((List (List Int))×Int))(x12:List (List Int))(x13:Int)(x14:Int):Option ((List (List Int))×Int):=
  if x14<(x4.length:Int)then((at? x4 x14).bind λx17=>(slices_Clone_int fu x2).bind λx18=>chk (0<=x3/\x3<(x18.length:Int))<|chk ((x12.length+1:Int)*24<=140737488355328)<|nx1 (x12++([x18.set x3.toNat x17])) (wk .i64 (x13+x17)) (wk .i64 (x14+1)))else eQ.k2 fu x2 x3 x12 x13
def eQ.W1(fu:Nat)(x2:List Int)(x3:Int)(x4:List Int)(x12:List (List Int))(x13:Int)(x14:Int):Option ((List (List Int))×Int):=
  aT (λnext s=>eQ.L1 fu x2 x3 x4 (λx12 x13 x14=>next (x12,x13,x14)) s.1 s.2.1 s.2.2) fu (x12,x13,x14)
def eQ.k1(fu:Nat)(x2:List Int)(x3:Int)(x4:List Int):Option ((List (List Int))×Int):=
  jn 2 () (λ(t:(List (List Int))×Int)=>eQ.k2 fu x2 x3 t.1 t.2)<|eQ.W1 fu x2 x3 x4 ([]:List (List Int)) 0 0
def eQ.k4(fu:Nat)(x22:Int)(x24:List (List Int))(x25:Int):Option ((List (List Int))×Int):=
  if x25=x22 then(some (x24,0))else(fM fu).bind λx26=>some (x26.1,x26.2)
def eQ.L2(fu:Nat)(x2:List Int)(x3:Int)(x22:Int)(x23:List Int)(nx2:(List (List Int))→Int→Int→Option ((List (List Int))×Int))(x29:List (List Int))(x30:Int)(x31:Int):Option ((List (List Int))×Int):=
  if x31<(x23.length:Int)then((at? x23 x31).bind λx34=>(slices_Clone_int fu x2).bind λx35=>chk (0<=x3/\x3<(x35.length:Int))<|chk ((x29.length+1:Int)*24<=140737488355328)<|nx2 (x29++([x35.set x3.toNat x34])) (wk .i64 (x30+x34)) (wk .i64 (x31+1)))else eQ.k4 fu x22 x29 x30
def eQ.W2(fu:Nat)(x2:List Int)(x3:Int)(x22:Int)(x23:List Int)(x29:List (List Int))(x30:Int)(x31:Int):Option ((List (List Int))×Int):=
  aT (λnext s=>eQ.L2 fu x2 x3 x22 x23 (λx29 x30 x31=>next (x29,x30,x31)) s.1 s.2.1 s.2.2) fu (x29,x30,x31)
def eQ.k3(fu:Nat)(x2:List Int)(x3:Int)(x22:Int)(x23:List Int):Option ((List (List Int))×Int):=
  jn 4 () (λ(t:(List (List Int))×Int)=>eQ.k4 fu x22 t.1 t.2)<|eQ.W2 fu x2 x3 x22 x23 ([]:List (List Int)) 0 0
def eQ(fu:Nat)(x1:bf):Option ((List (List Int))×Int):=
  (jk fu x1 0).bind λx2=>(vw fu x1).bind λx3=>(jl fu x1 1).bind λx4=>(nS fu x1 1).bind λx5=>if x5=true then(jn 1 () (λ(t:Unit)=>eQ.k1 fu x2 x3 x4)<|if(x4.length:Int)=x1.fouts then((vz fu x4 0).bind λx19=>if x19=true then((fM fu).bind λx20=>some (x20.1,x20.2))else eQ.k1 fu x2 x3 x4)else(fM fu).bind λx21=>some (x21.1,x21.2))else(at? x2 x3).bind λx22=>chk (x1.fouts≠0)<|if(Int.tmod x22 x1.fouts)=0 then((Fh fu ([wk .i64 (Int.tdiv x22 x1.fouts)]) x1.fouts).bind λx23=>jn 3 () (λ(t:Unit)=>eQ.k3 fu x2 x3 x22 x23)<|if(x23.length:Int)=x1.fouts then((vz fu x23 0).bind λx36=>if x36=true then((fM fu).bind λx37=>some (x37.1,x37.2))else eQ.k3 fu x2 x3 x22 x23)else(fM fu).bind λx38=>some (x38.1,x38.2))else(fM fu).bind λx39=>some (x39.1,x39.2)
def jy.k3(fu:Nat)(x7:Int)(x8:Int)(x9:Int):Option Int:=
  chk (x9≠0)<|some (bV 0 (wk .i64 (Int.tdiv (wk .i64 ((wk .i64 ((wk .i64 (x8 - x7))+x9)) - 1)) x9)))
def jy.k2(fu:Nat)(x1:Int)(x4:Int)(x5:Int)(x6:Int):Option Int:=
  jn 3 () (λ(t:Int×Int×Int)=>jy.k3 fu t.1 t.2.1 t.2.2)<|if(bV (iH x4 4097) (-4097))<0 then(jy.k3 fu (wk .i64 (0 - (bV (iH x5 (wk .i64 (x1 - 1))) (-1)))) (wk .i64 (0 - (bV (iH x6 (wk .i64 (x1 - 1))) (-1)))) (wk .i64 (0 - (bV (iH x4 4097) (-4097)))))else jy.k3 fu (bV (iH x5 x1) 0) (bV (iH x6 x1) 0) (bV (iH x4 4097) (-4097))
def jy.k1(fu:Nat)(x1:Int)(x3:Int)(x4:Int)(x5:Int):Option Int:=
  jn 2 () (λ(t:Int)=>jy.k2 fu x1 x4 x5 t)<|if x3<0 then(jy.k2 fu x1 x4 x5 (wk .i64 (x3+x1)))else jy.k2 fu x1 x4 x5 x3
def jy(fu:Nat)(x1:Int)(x2:Int)(x3:Int)(x4:Int):Option Int:=
  jn 1 () (λ(t:Int)=>jy.k1 fu x1 x3 x4 t)<|if x2<0 then(jy.k1 fu x1 x3 x4 (wk .i64 (x2+x1)))else jy.k1 fu x1 x3 x4 x2
def eu.k3(fu:Nat)(x11:List Int):Option ((List (List Int))×Int):=
  (lZ fu x11).bind λx12=>some (x12.1,x12.2)
def eu.L1(fu:Nat)(x4:List Int)(x5:List Int)(x8:List Int)(x9:List Int)(nx1:(List Int)→Int→Option ((List (List Int))×Int))(x20:List Int)(x21:Int):Option ((List (List Int))×Int):=
  if x21<(x8.length:Int)then((at? x8 x21).bind λx29=>(og fu x29 (x20.length:Int)).bind λx30=>(at? x20 x30.1).bind λx31=>(at? x4 x21).bind λx32=>(at? x5 x21).bind λx33=>(at? x9 x21).bind λx34=>(jy fu x31 x32 x33 x34).bind λx35=>chk (0<=x30.1/\x30.1<(x20.length:Int))<|nx1 (x20.set x30.1.toNat x35) (wk .i64 (x21+1)))else eu.k3 fu x20
def eu.W1(fu:Nat)(x4:List Int)(x5:List Int)(x8:List Int)(x9:List Int)(x20:List Int)(x21:Int):Option ((List (List Int))×Int):=
  aT (λnext s=>eu.L1 fu x4 x5 x8 x9 (λx20 x21=>next (x20,x21)) s.1 s.2) fu (x20,x21)
def eu.k2(fu:Nat)(x3:List Int)(x4:List Int)(x5:List Int)(x8:List Int)(x9:List Int):Option ((List (List Int))×Int):=
  jn 3 () (λ(t:List Int)=>eu.k3 fu t)<|eu.W1 fu x4 x5 x8 x9 x3 0
def eu.k1(fu:Nat)(x3:List Int)(x4:List Int)(x5:List Int)(x8:List Int)(x9:List Int):Option ((List (List Int))×Int):=
  (jF fu x8 (x3.length:Int)).bind λx10=>jn 2 () (λ(t:Unit)=>eu.k2 fu x3 x4 x5 x8 x9)<|if(x5.length:Int)=(x4.length:Int)then(if(x8.length:Int)=(x4.length:Int)then(if(x9.length:Int)=(x4.length:Int)then(if x10.2=0 then((slices_Contains_int fu x9 0).bind λx36=>if x36=true then((fM fu).bind λx37=>some (x37.1,x37.2))else eu.k2 fu x3 x4 x5 x8 x9)else(fM fu).bind λx38=>some (x38.1,x38.2))else(fM fu).bind λx39=>some (x39.1,x39.2))else(fM fu).bind λx40=>some (x40.1,x40.2))else(fM fu).bind λx41=>some (x41.1,x41.2)
def eu.k4(fu:Nat)(nx2:(List Int)→(List Int)→Int→Option ((List (List Int))×Int))(x1:bf)(x46:List Int)(x47:Int)(x51:List Int):Option ((List (List Int))×Int):=
  (nS fu x1 4).bind λx52=>if x52=true then(nx2 x51 x46 (wk .i64 (x47+1)))else chk ((x46.length+1:Int)*8<=140737488355328)<|nx2 x51 (x46++([1])) (wk .i64 (x47+1))
def eu.L2(fu:Nat)(x1:bf)(x3:List Int)(x4:List Int)(x5:List Int)(nx2:(List Int)→(List Int)→Int→Option ((List (List Int))×Int))(x45:List Int)(x46:List Int)(x47:Int):Option ((List (List Int))×Int):=
  if x47<(x4.length:Int)then(jn 4 () (λ(t:List Int)=>eu.k4 fu nx2 x1 x46 x47 t)<|(nS fu x1 3).bind λx53=>if x53=true then(eu.k4 fu nx2 x1 x46 x47 x45)else chk ((x45.length+1:Int)*8<=140737488355328)<|eu.k4 fu nx2 x1 x46 x47 (x45++([x47])))else eu.k1 fu x3 x4 x5 x45 x46
def eu.W2(fu:Nat)(x1:bf)(x3:List Int)(x4:List Int)(x5:List Int)(x45:List Int)(x46:List Int)(x47:Int):Option ((List (List Int))×Int):=
  aT (λnext s=>eu.L2 fu x1 x3 x4 x5 (λx45 x46 x47=>next (x45,x46,x47)) s.1 s.2.1 s.2.2) fu (x45,x46,x47)
def eu(fu:Nat)(x1:bf):Option ((List (List Int))×Int):=
  (jk fu x1 0).bind λx2=>(slices_Clone_int fu x2).bind λx3=>(jl fu x1 1).bind λx4=>(jl fu x1 2).bind λx5=>(jl fu x1 3).bind λx6=>(jl fu x1 4).bind λx7=>jn 1 () (λ(t:(List Int)×(List Int))=>eu.k1 fu x3 x4 x5 t.1 t.2)<|eu.W2 fu x1 x3 x4 x5 x6 x7 0
def dn.L1(fu:Nat)(x1:List (List Int))(nx1:(List Int)→Int→Option (List Int))(x4:List Int)(x5:Int):Option (List Int):=
  if x5<(x1.length:Int)then((at? x1 x5).bind λx7=>chk ((x4.length+x7.length:Int)*8<=140737488355328)<|nx1 (x4++x7) (wk .i64 (x5+1)))else some x4
def dn.W1(fu:Nat)(x1:List (List Int))(x4:List Int)(x5:Int):Option (List Int):=
  aT (λnext s=>dn.L1 fu x1 (λx4 x5=>next (x4,x5)) s.1 s.2) fu (x4,x5)
def dn.L2(fu:Nat)(x1:List (List Int))(nx2:(List Int)→Int→Option (List Int))(x9:List Int)(x10:Int):Option (List Int):=
  if x10<(x1.length:Int)then((at? x1 x10).bind λx12=>chk ((x9.length+x12.length:Int)*8<=140737488355328)<|nx2 (x9++x12) (wk .i64 (x10+1)))else some x9
def dn.W2(fu:Nat)(x1:List (List Int))(x9:List Int)(x10:Int):Option (List Int):=
  aT (λnext s=>dn.L2 fu x1 (λx9 x10=>next (x9,x10)) s.1 s.2) fu (x9,x10)
def dn.k2(fu:Nat)(x1:List (List Int))(x2:Int):Option (List Int):=
  if 0<(wk .i64 (x2 - (wk .i64 0)))then(chk (0<=wk .i64 (x2 - (wk .i64 0))/\wk .i64 (x2 - (wk .i64 0))<=140737488355328/\(wk .i64 (x2 - (wk .i64 0)))*8<=140737488355328)<|chk (0<=0/\0<=(((wk .i64 (x2 - (wk .i64 0))).toNat:Nat):Int))<|dn.W1 fu x1 ([]:List Int) 0)else dn.W2 fu x1 ([]:List Int) 0
def dn.k1(fu:Nat)(x1:List (List Int))(x2:Int):Option (List Int):=
  jn 2 () (λ(t:Unit)=>dn.k2 fu x1 x2)<|if x2<0 then(none)else dn.k2 fu x1 x2
def dn.L3(fu:Nat)(x1:List (List Int))(nx3:Int→Int→Option (List Int))(x14:Int)(x15:Int):Option (List Int):=
  if x15<(x1.length:Int)then((at? x1 x15).bind λx17=>if(wk .i64 (x14+(x17.length:Int)))<0 then(none)else nx3 (wk .i64 (x14+(x17.length:Int))) (wk .i64 (x15+1)))else dn.k1 fu x1 x14
def dn.W3(fu:Nat)(x1:List (List Int))(x14:Int)(x15:Int):Option (List Int):=
  aT (λnext s=>dn.L3 fu x1 (λx14 x15=>next (x14,x15)) s.1 s.2) fu (x14,x15)
def dn(fu:Nat)(x1:List (List Int)):Option (List Int):=
  jn 1 () (λ(t:Int)=>dn.k1 fu x1 t)<|dn.W3 fu x1 0 0
def lG.k1(fu:Nat)(x2:List Int):Option ((List (List Int))×Int):=
  (lZ fu x2).bind λx5=>some (x5.1,x5.2)
def lG.L1(fu:Nat)(x1:bf)(x2:List Int)(x3:List Int)(x4:List Int)(nx1:Int→Option ((List (List Int))×Int))(x10:Int):Option ((List (List Int))×Int):=
  if x10<(x3.length:Int)then((vw fu x1).bind λx15=>if x10=x15 then(nx1 (wk .i64 (x10+1)))else(at? x4 x10).bind λx16=>(at? x3 x10).bind λx17=>if x17<x16 then((fM fu).bind λx18=>some (x18.1,x18.2))else nx1 (wk .i64 (x10+1)))else lG.k1 fu x2
def lG.W1(fu:Nat)(x1:bf)(x2:List Int)(x3:List Int)(x4:List Int)(x10:Int):Option ((List (List Int))×Int):=
  aT (λnext s=>lG.L1 fu x1 x2 x3 x4 next s) fu x10
def lG(fu:Nat)(x1:bf)(x2:List Int):Option ((List (List Int))×Int):=
  (jk fu x1 0).bind λx3=>(jk fu x1 1).bind λx4=>if(x3.length:Int)=(x4.length:Int)then(jn 1 () (λ(t:Unit)=>lG.k1 fu x2)<|lG.W1 fu x1 x2 x3 x4 0)else(fM fu).bind λx19=>some (x19.1,x19.2)
def fU.k2(fu:Nat)(x5:List Int):Option ((List (List Int))×Int):=
  (lZ fu x5).bind λx6=>some (x6.1,x6.2)
def fU.k3(fu:Nat)(nx1:(List Int)→Int→Option ((List (List Int))×Int))(x3:List Int)(x12:List Int)(x13:Int)(x19:Int):Option ((List (List Int))×Int):=
  (at? x12 (Int.tmod x13 (x3.length:Int))).bind λx21=>chk (0<=Int.tmod x13 (x3.length:Int)/\Int.tmod x13 (x3.length:Int)<(x12.length:Int))<|nx1 (x12.set (Int.tmod x13 (x3.length:Int)).toNat (wk .i64 (x21+x19))) (wk .i64 (x13+1))
def fU.k4(fu:Nat)(nx1:(List Int)→Int→Option ((List (List Int))×Int))(x3:List Int)(x12:List Int)(x13:Int)(x19:Int)(x22:Bool):Option ((List (List Int))×Int):=
  if x22=true then((fM fu).bind λx23=>some (x23.1,x23.2))else fU.k3 fu nx1 x3 x12 x13 x19
def fU.L1(fu:Nat)(x1:bf)(x2:List Int)(x3:List Int)(x4:List Int)(nx1:(List Int)→Int→Option ((List (List Int))×Int))(x12:List Int)(x13:Int):Option ((List (List Int))×Int):=
  if x13<(x4.length:Int)then((at? x4 x13).bind λx19=>chk ((x3.length:Int)≠0)<|(at? x2 (Int.tmod x13 (x3.length:Int))).bind λx20=>jn 3 () (λ(t:Unit)=>fU.k3 fu nx1 x3 x12 x13 x19)<|if x19=0 then(nx1 x12 (wk .i64 (x13+1)))else jn 4 () (λ(t:Bool)=>fU.k4 fu nx1 x3 x12 x13 x19 t)<|if x1.fs.fMode=2 then(if x20<=x19 then(fU.k4 fu nx1 x3 x12 x13 x19 true)else if x1.fs.fMode=3 then(none)else fU.k4 fu nx1 x3 x12 x13 x19 false)else if x1.fs.fMode=3 then(fU.k4 fu nx1 x3 x12 x13 x19 (decide (x20=0)))else fU.k4 fu nx1 x3 x12 x13 x19 false)else fU.k2 fu x12
def fU.W1(fu:Nat)(x1:bf)(x2:List Int)(x3:List Int)(x4:List Int)(x12:List Int)(x13:Int):Option ((List (List Int))×Int):=
  aT (λnext s=>fU.L1 fu x1 x2 x3 x4 (λx12 x13=>next (x12,x13)) s.1 s.2) fu (x12,x13)
def fU.k1(fu:Nat)(x1:bf)(x2:List Int)(x3:List Int)(x4:List Int):Option ((List (List Int))×Int):=
  jn 2 () (λ(t:List Int)=>fU.k2 fu t)<|fU.W1 fu x1 x2 x3 x4 x3 0
def fU(fu:Nat)(x1:bf):Option ((List (List Int))×Int):=
  (jk fu x1 0).bind λx2=>(slices_Clone_int fu x2).bind λx3=>(jl fu x1 1).bind λx4=>jn 1 () (λ(t:Unit)=>fU.k1 fu x1 x2 x3 x4)<|if(x4.length:Int)=(wk .i64 (2*(x3.length:Int)))then((vz fu x4 0).bind λx24=>if x24=true then((fM fu).bind λx25=>some (x25.1,x25.2))else(jk fu x1 2).bind λx26=>if 0<(x26.length:Int)then((fM fu).bind λx27=>some (x27.1,x27.2))else fU.k1 fu x1 x2 x3 x4)else(fM fu).bind λx28=>some (x28.1,x28.2)
def gz.k3(fu:Nat)(x7:List Int):Option ((List Int)×Int):=
  (eF fu x7).bind λx8=>if x8.2=0 then(some (x7,0))else some ([],x8.2)
def gz.L1(fu:Nat)(x4:List Int)(x5:List Int)(nx1:(List Int)→Int→Option ((List Int)×Int))(x11:List Int)(x12:Int):Option ((List Int)×Int):=
  if x12<(x5.length:Int)then((at? x5 x12).bind λx15=>(at? x11 (wk .i64 ((wk .i64 ((x4.length:Int) - (x5.length:Int)))+x12))).bind λx16=>if x16=1 then(chk (0<=wk .i64 ((wk .i64 ((x4.length:Int) - (x5.length:Int)))+x12)/\wk .i64 ((wk .i64 ((x4.length:Int) - (x5.length:Int)))+x12)<(x11.length:Int))<|nx1 (x11.set (wk .i64 ((wk .i64 ((x4.length:Int) - (x5.length:Int)))+x12)).toNat x15) (wk .i64 (x12+1)))else if x15=1 then(nx1 x11 (wk .i64 (x12+1)))else if x15=x16 then(nx1 x11 (wk .i64 (x12+1)))else some ([],3))else gz.k3 fu x11
def gz.W1(fu:Nat)(x4:List Int)(x5:List Int)(x11:List Int)(x12:Int):Option ((List Int)×Int):=
  aT (λnext s=>gz.L1 fu x4 x5 (λx11 x12=>next (x11,x12)) s.1 s.2) fu (x11,x12)
def gz.k2(fu:Nat)(x4:List Int)(x5:List Int):Option ((List Int)×Int):=
  (slices_Clone_int fu x4).bind λx6=>jn 3 () (λ(t:List Int)=>gz.k3 fu t)<|gz.W1 fu x4 x5 x6 0
def gz.k1(fu:Nat)(x1:List Int)(x2:List Int)(x3:List (List Int)):Option ((List Int)×Int):=
  jn 2 () (λ(t:(List Int)×(List Int))=>gz.k2 fu t.1 t.2)<|if(x1.length:Int)<(x2.length:Int)then(gz.k2 fu x2 x1)else gz.k2 fu x1 x2
def gz.L2(fu:Nat)(x1:List Int)(x2:List Int)(nx2:(List (List Int))→Int→Option ((List Int)×Int))(x19:List (List Int))(x20:Int):Option ((List Int)×Int):=
  if x20<2 then((at? x19 x20).bind λx23=>(eF fu x23).bind λx24=>if x24.2=0 then(nx2 x19 (wk .i64 (x20+1)))else some ([],x24.2))else gz.k1 fu x1 x2 x19
def gz.W2(fu:Nat)(x1:List Int)(x2:List Int)(x19:List (List Int))(x20:Int):Option ((List Int)×Int):=
  aT (λnext s=>gz.L2 fu x1 x2 (λx19 x20=>next (x19,x20)) s.1 s.2) fu (x19,x20)
def gz(fu:Nat)(x1:List Int)(x2:List Int):Option ((List Int)×Int):=
  jn 1 () (λ(t:List (List Int))=>gz.k1 fu x1 x2 t)<|gz.W2 fu x1 x2 ([x1,x2]) 0
def iT.k2(fu:Nat)(x5:List Int):Option ((List (List Int))×Int):=
  (lZ fu x5).bind λx6=>some (x6.1,x6.2)
def iT.L1(fu:Nat)(x2:List Int)(x3:List Int)(nx1:(List Int)→Int→Option ((List (List Int))×Int))(x9:List Int)(x10:Int):Option ((List (List Int))×Int):=
  if x10<(x3.length:Int)then((at? x9 x10).bind λx13=>(at? x2 x10).bind λx14=>chk (0<=x10/\x10<(x9.length:Int))<|nx1 (x9.set x10.toNat (wk .i64 (x13*x14))) (wk .i64 (x10+1)))else iT.k2 fu x9
def iT.W1(fu:Nat)(x2:List Int)(x3:List Int)(x9:List Int)(x10:Int):Option ((List (List Int))×Int):=
  aT (λnext s=>iT.L1 fu x2 x3 (λx9 x10=>next (x9,x10)) s.1 s.2) fu (x9,x10)
def iT.k1(fu:Nat)(x1:bf)(x2:List Int)(x3:List Int):Option ((List (List Int))×Int):=
  if x1.fop=55 then((gz fu x2 x3).bind λx4=>some ([x4.1],x4.2))else jn 2 () (λ(t:List Int)=>iT.k2 fu t)<|iT.W1 fu x2 x3 x3 0
def iT(fu:Nat)(x1:bf):Option ((List (List Int))×Int):=
  (jk fu x1 0).bind λx2=>(jl fu x1 1).bind λx3=>jn 1 () (λ(t:Unit)=>iT.k1 fu x1 x2 x3)<|(vz fu x3 0).bind λx15=>if x15=true then((fM fu).bind λx16=>some (x16.1,x16.2))else if x1.fop=54 then(if(x3.length:Int)=(x2.length:Int)then(iT.k1 fu x1 x2 x3)else(fM fu).bind λx17=>some (x17.1,x17.2))else iT.k1 fu x1 x2 x3
def jf.k2(fu:Nat)(x6:List Int):Option ((List (List Int))×Int):=
  (lZ fu x6).bind λx7=>some (x7.1,x7.2)
def jf.L1(fu:Nat)(x1:bf)(x5:(List Bool)×Int)(nx1:(List Int)→(List Int)→Int→Option ((List (List Int))×Int))(x16:List Int)(x17:List Int)(x18:Int):Option ((List (List Int))×Int):=
  if x18<((x5.1.length:Nat):Int)then((at? x5.1 x18).bind λx27=>if x1.fop=57 then(if x27=true then(chk ((x16.length+1:Int)*8<=140737488355328)<|nx1 (x16++([1])) x17 (wk .i64 (x18+1)))else(at? x17 0).bind λx28=>chk ((x16.length+1:Int)*8<=140737488355328)<|chk (0<=1/\1<=(x17.length:Int))<|nx1 (x16++([x28])) (iW x17 1 x17.length) (wk .i64 (x18+1)))else(nS fu x1 1).bind λx29=>if x29=true then(if x27=true then((at? x17 x18).bind λx30=>if x30=1 then(nx1 x16 x17 (wk .i64 (x18+1)))else(fM fu).bind λx31=>some (x31.1,x31.2))else(at? x17 x18).bind λx32=>chk ((x16.length+1:Int)*8<=140737488355328)<|nx1 (x16++([x32])) x17 (wk .i64 (x18+1)))else(at? x17 x18).bind λx33=>if x33=1 then(nx1 x16 x17 (wk .i64 (x18+1)))else if x27=true then((fM fu).bind λx34=>some (x34.1,x34.2))else chk ((x16.length+1:Int)*8<=140737488355328)<|nx1 (x16++([x33])) x17 (wk .i64 (x18+1)))else jf.k2 fu x16
def jf.W1(fu:Nat)(x1:bf)(x5:(List Bool)×Int)(x16:List Int)(x17:List Int)(x18:Int):Option ((List (List Int))×Int):=
  aT (λnext s=>jf.L1 fu x1 x5 (λx16 x17 x18=>next (x16,x17,x18)) s.1 s.2.1 s.2.2) fu (x16,x17,x18)
def jf.k1(fu:Nat)(x1:bf)(x2:List Int)(x3:List Int)(x4:Int):Option ((List (List Int))×Int):=
  (jF fu x3 x4).bind λx5=>if x5.2=0 then(jn 2 () (λ(t:List Int)=>jf.k2 fu t)<|jf.W1 fu x1 x5 ([]:List Int) x2 0)else(fM fu).bind λx35=>some (x35.1,x35.2)
def jf(fu:Nat)(x1:bf):Option ((List (List Int))×Int):=
  (jk fu x1 0).bind λx2=>(jl fu x1 1).bind λx3=>jn 1 () (λ(t:Int)=>jf.k1 fu x1 x2 x3 t)<|if x1.fop=57 then(if 8<(wk .i64 ((x2.length:Int)+(x3.length:Int)))then(some ([],4))else jf.k1 fu x1 x2 x3 (wk .i64 ((x2.length:Int)+(x3.length:Int))))else jf.k1 fu x1 x2 x3 (x2.length:Int)
def zf(fu:Nat)(x1:Int)(x2:Int):Option Int:=
  if x1<0 then(some (bV 0 (iH (wk .i64 (x1+x2)) x2)))else some (bV 0 (iH x1 x2))
def BB(fu:Nat)(x1:dh)(x2:Int):Option (Int×Int):=
  if x1.fHasEnd=true then((zf fu x1.fStart x2).bind λx3=>(zf fu x1.fEnd x2).bind λx4=>some (x3,x4))else(zf fu x1.fStart x2).bind λx5=>some (x5,x2)
def iw.k2(fu:Nat)(x4:Int×Int)(x5:Int×Int):Option ((List (List Int))×Int):=
  (lZ fu ([x4.1,x5.1])).bind λx6=>some (x6.1,x6.2)
def iw.k1(fu:Nat)(x2:List Int)(x3:Int):Option ((List (List Int))×Int):=
  chk (0<=x3/\x3<=(x2.length:Int))<|(eF fu (iW x2 0 x3.toNat)).bind λx4=>(eF fu (iW x2 x3.toNat x2.length)).bind λx5=>jn 2 () (λ(t:Unit)=>iw.k2 fu x4 x5)<|if x4.2=0 then(if x5.2=0 then(iw.k2 fu x4 x5)else some ([],4))else some ([],4)
def iw.k3(fu:Nat):Option ((List (List Int))×Int):=
  (fM fu).bind λx14=>some (x14.1,x14.2)
def iw(fu:Nat)(x1:bf):Option ((List (List Int))×Int):=
  (jk fu x1 0).bind λx2=>if x1.fop=58 then(jn 1 () (λ(t:Int)=>iw.k1 fu x2 t)<|if x1.fs.fAxis<0 then(iw.k1 fu x2 (wk .i64 (x1.fs.fAxis+(x2.length:Int))))else iw.k1 fu x2 x1.fs.fAxis)else if x1.fop=59 then((BB fu x1.fs (x2.length:Int)).bind λx7=>(lZ fu ([bV 0 (wk .i64 (x7.2 - x7.1))])).bind λx8=>some (x8.1,x8.2))else if x1.fop=60 then((lZ fu ([])).bind λx9=>some (x9.1,x9.2))else if x1.fop=62 then((jl fu x1 0).bind λx10=>(vz fu x10 0).bind λx11=>if x11=true then((fM fu).bind λx12=>some (x12.1,x12.2))else(lZ fu x10).bind λx13=>some (x13.1,x13.2))else jn 3 () (λ(t:Unit)=>iw.k3 fu)<|if(x2.length:Int)=4 then(if x1.fop=63 then((at? x2 1).bind λx15=>chk ((wk .i64 (x1.fs.fBlock*x1.fs.fBlock))≠0)<|if(Int.tmod x15 (wk .i64 (x1.fs.fBlock*x1.fs.fBlock)))=0 then((at? x2 0).bind λx16=>(at? x2 2).bind λx17=>(at? x2 3).bind λx18=>(lZ fu ([x16,wk .i64 (Int.tdiv x15 (wk .i64 (x1.fs.fBlock*x1.fs.fBlock))),wk .i64 (x17*x1.fs.fBlock),wk .i64 (x18*x1.fs.fBlock)])).bind λx19=>some (x19.1,x19.2))else if x1.fop=64 then(none)else iw.k3 fu)else if x1.fop=64 then((at? x2 2).bind λx20=>chk (x1.fs.fBlock≠0)<|if(Int.tmod x20 x1.fs.fBlock)=0 then((at? x2 3).bind λx21=>if(Int.tmod x21 x1.fs.fBlock)=0 then((at? x2 0).bind λx22=>(at? x2 1).bind λx23=>(lZ fu ([x22,wk .i64 ((wk .i64 (x23*x1.fs.fBlock))*x1.fs.fBlock),wk .i64 (Int.tdiv x20 x1.fs.fBlock),wk .i64 (Int.tdiv x21 x1.fs.fBlock)])).bind λx24=>some (x24.1,x24.2))else iw.k3 fu)else iw.k3 fu)else iw.k3 fu)else(fM fu).bind λx25=>some (x25.1,x25.2)
def dA.k1(fu:Nat)(x1:bf):Option ((List (List Int))×Int):=
  (iw fu x1).bind λx3=>some (x3.1,x3.2)
def dA.k2(fu:Nat)(x14:Bool)(x15:List Int):Option ((List (List Int))×Int):=
  (lZ fu x15).bind λx16=>some (x16.1,x16.2)
def dA.L2(fu:Nat)(x1:bf)(x2:List Int)(nx2:Bool→(List Int)→Int→Option ((List (List Int))×Int))(x19:Bool)(x20:List Int)(x21:Int):Option ((List (List Int))×Int):=
  if x21<(x1.fs.fPerm.length:Int)then((at? x1.fs.fPerm x21).bind λx24=>if x19=true then((at? x2 x24).bind λx25=>chk (0<=x21/\x21<(x20.length:Int))<|nx2 true (x20.set x21.toNat x25) (wk .i64 (x21+1)))else nx2 false x20 (wk .i64 (x21+1)))else dA.k2 fu x19 x20
def dA.W2(fu:Nat)(x1:bf)(x2:List Int)(x19:Bool)(x20:List Int)(x21:Int):Option ((List (List Int))×Int):=
  aT (λnext s=>dA.L2 fu x1 x2 (λx19 x20 x21=>next (x19,x20,x21)) s.1 s.2.1 s.2.2) fu (x19,x20,x21)
def dA.L1(fu:Nat)(x1:bf)(x2:List Int)(x4:List Int)(nx1:(List Int)→Int→Int→Option ((List (List Int))×Int))(x7:List Int)(x8:Int)(x9:Int):Option ((List (List Int))×Int):=
  if x8<x9 then(chk (0<=x9/\x9<((x4.length:Nat):Int))<|(at? x7 x9).bind λx12=>chk (0<=x8/\x8<((x4.length:Nat):Int))<|(at? x7 x8).bind λx13=>chk (0<=x8/\x8<(x7.length:Int))<|chk (0<=x9/\x9<((x7.set x8.toNat x12).length:Int))<|nx1 ((x7.set x8.toNat x12).set x9.toNat x13) (wk .i64 (x8+1)) (wk .i64 (x9 - 1)))else chk (x4.length=x7.length)<|jn 2 () (λ(t:Bool×(List Int))=>dA.k2 fu t.1 t.2)<|dA.W2 fu x1 x2 x1.fs.fHasPerm x7 0
def dA.W1(fu:Nat)(x1:bf)(x2:List Int)(x4:List Int)(x7:List Int)(x8:Int)(x9:Int):Option ((List (List Int))×Int):=
  aT (λnext s=>dA.L1 fu x1 x2 x4 (λx7 x8 x9=>next (x7,x8,x9)) s.1 s.2.1 s.2.2) fu (x7,x8,x9)
def dA(fu:Nat)(x1:bf):Option ((List (List Int))×Int):=
  (jk fu x1 0).bind λx2=>jn 1 () (λ(t:Unit)=>dA.k1 fu x1)<|if x1.fop=45 then((slices_Clone_int fu x2).bind λx4=>dA.W1 fu x1 x2 x4 x4 0 (wk .i64 ((x4.length:Int) - 1)))else if x1.fop=46 then((dM fu x1).bind λx26=>some (x26.1,x26.2))else if x1.fop=47 then((lF fu x1).bind λx27=>some (x27.1,x27.2))else if x1.fop=48 then((eQ fu x1).bind λx28=>some (x28.1,x28.2))else if x1.fop=49 then((eu fu x1).bind λx29=>some (x29.1,x29.2))else if x1.fop=50 then((vw fu x1).bind λx30=>chk (0<=x30/\x30<=(x2.length:Int))<|(jk fu x1 1).bind λx31=>chk (0<=wk .i64 (x30+1)/\wk .i64 (x30+1)<=(x2.length:Int))<|(dn fu ([iW x2 0 x30.toNat,x31,iW x2 (wk .i64 (x30+1)).toNat x2.length])).bind λx32=>(lZ fu x32).bind λx33=>some (x33.1,x33.2))else if x1.fop=51 then((jk fu x1 1).bind λx34=>(lG fu x1 x34).bind λx35=>some (x35.1,x35.2))else if x1.fop=52 then((jk fu x1 1).bind λx36=>(jk fu x1 2).bind λx37=>(slices_Equal_int fu x36 x37).bind λx38=>if x38=true then((lG fu x1 x2).bind λx39=>some (x39.1,x39.2))else(fM fu).bind λx40=>some (x40.1,x40.2))else if x1.fop=53 then((fU fu x1).bind λx41=>some (x41.1,x41.2))else if x1.fop=54 then((iT fu x1).bind λx42=>some (x42.1,x42.2))else if x1.fop=55 then((iT fu x1).bind λx43=>some (x43.1,x43.2))else if x1.fop=56 then((jf fu x1).bind λx44=>some (x44.1,x44.2))else if x1.fop=57 then((jf fu x1).bind λx45=>some (x45.1,x45.2))else dA.k1 fu x1
def fV.k1(fu:Nat)(x2:List Int):Option ((List (List Int))×Int):=
  (lZ fu x2).bind λx3=>some (x3.1,x3.2)
def fV.k4(fu:Nat)(x1:bf)(x2:List Int):Option ((List (List Int))×Int):=
  if x1.fop=71 then(none)else if x1.fop=73 then(none)else if x1.fop=74 then(none)else if x1.fop=75 then(none)else if x1.fop=76 then(none)else if x1.fop=77 then(none)else if x1.fop=78 then(none)else if x1.fop=79 then(none)else if x1.fop=80 then(none)else fV.k1 fu x2
def fV.k3(fu:Nat)(x1:bf)(x2:List Int)(x4:Bool):Option ((List (List Int))×Int):=
  if x4=true then((dA fu x1).bind λx5=>some (x5.1,x5.2))else jn 4 x1 (λ(t:Unit)=>fV.k4 fu x1 x2)<|if x1.fop=65 then(none)else if x1.fop=66 then(none)else if x1.fop=67 then(none)else if x1.fop=68 then(none)else if x1.fop=69 then(none)else if x1.fop=70 then(none)else fV.k4 fu x1 x2
def fV.k2(fu:Nat)(x1:bf)(x2:List Int):Option ((List (List Int))×Int):=
  if x1.fop=42 then(none)else if x1.fop=36 then(none)else if x1.fop=43 then(none)else jn 3 () (λ(t:Bool)=>fV.k3 fu x1 x2 t)<|if x1.fop=45 then(fV.k3 fu x1 x2 true)else if x1.fop=46 then(fV.k3 fu x1 x2 true)else if x1.fop=47 then(fV.k3 fu x1 x2 true)else if x1.fop=48 then(fV.k3 fu x1 x2 true)else if x1.fop=49 then(fV.k3 fu x1 x2 true)else if x1.fop=50 then(fV.k3 fu x1 x2 true)else if x1.fop=51 then(fV.k3 fu x1 x2 true)else if x1.fop=52 then(fV.k3 fu x1 x2 true)else if x1.fop=53 then(fV.k3 fu x1 x2 true)else if x1.fop=54 then(fV.k3 fu x1 x2 true)else if x1.fop=55 then(fV.k3 fu x1 x2 true)else if x1.fop=56 then(fV.k3 fu x1 x2 true)else if x1.fop=57 then(fV.k3 fu x1 x2 true)else if x1.fop=58 then(fV.k3 fu x1 x2 true)else if x1.fop=59 then(fV.k3 fu x1 x2 true)else if x1.fop=60 then(fV.k3 fu x1 x2 true)else if x1.fop=62 then(fV.k3 fu x1 x2 true)else if x1.fop=63 then(fV.k3 fu x1 x2 true)else fV.k3 fu x1 x2 (decide (x1.fop=64))
def fV(fu:Nat)(x1:bf):Option ((List (List Int))×Int):=
  (jk fu x1 0).bind λx2=>jn 1 () (λ(t:Unit)=>fV.k1 fu x2)<|jn 2 x1 (λ(t:Unit)=>fV.k2 fu x1 x2)<|if x1.fop=23 then(none)else if x1.fop=24 then(none)else if x1.fop=25 then(none)else if x1.fop=28 then(none)else if x1.fop=29 then(none)else if x1.fop=30 then(none)else if x1.fop=31 then(none)else if x1.fop=32 then(none)else if x1.fop=33 then(none)else if x1.fop=34 then(none)else if x1.fop=35 then(none)else if x1.fop=37 then(none)else if x1.fop=38 then(none)else if x1.fop=39 then(none)else if x1.fop=40 then(none)else if x1.fop=41 then(none)else fV.k2 fu x1 x2
def jV.k1(fu:Nat)(x1:bf):Option Int:=
  (oN fu x1 0).bind λx2=>some x2.fType
def jV.k3(fu:Nat)(x1:bf)(x3:Bool):Option Int:=
  if x3=true then(some 7)else if x1.fop=44 then(none)else if x1.fop=62 then(some x1.fs.fValue.fType)else if x1.fop=42 then(none)else jV.k1 fu x1
def jV.k2(fu:Nat)(x1:bf):Option Int:=
  if x1.fop=41 then(none)else jn 3 () (λ(t:Bool)=>jV.k3 fu x1 t)<|if x1.fop=59 then(jV.k3 fu x1 true)else if x1.fop=60 then(jV.k3 fu x1 true)else if x1.fop=70 then(none)else jV.k3 fu x1 (decide (x1.fop=71))
def jV(fu:Nat)(x1:bf):Option Int:=
  jn 1 () (λ(t:Unit)=>jV.k1 fu x1)<|jn 2 x1 (λ(t:Unit)=>jV.k2 fu x1)<|if x1.fop=22 then(none)else if x1.fop=23 then(none)else if x1.fop=24 then(none)else if x1.fop=25 then(none)else if x1.fop=26 then(none)else if x1.fop=27 then(none)else if x1.fop=37 then(none)else if x1.fop=38 then(none)else if x1.fop=39 then(none)else if x1.fop=40 then(none)else jV.k2 fu x1
def kP.L1(fu:Nat)(x1:Int)(x2:dh)(x3:List aP)(x4:Int)(x7:(List (List Int))×Int)(nx1:(List aP)→Int→Option ((List aP)×Int))(x12:List aP)(x13:Int):Option ((List aP)×Int):=
  if x13<(x7.1.length:Int)then((at? x7.1 x13).bind λx18=>(eF fu x18).bind λx19=>if x19.2=0 then((jV fu (bf.mk x1 x2 x3 x4)).bind λx20=>(slices_Clone_int fu x18).bind λx21=>chk ((x12.length+1:Int)*144<=140737488355328)<|nx1 (x12++([aP.mk x20 x21 false (aj.mk 0 ([]) ([]) ([]) ([]))])) (wk .i64 (x13+1)))else some ([],4))else some (x12,0)
def kP.W1(fu:Nat)(x1:Int)(x2:dh)(x3:List aP)(x4:Int)(x7:(List (List Int))×Int)(x12:List aP)(x13:Int):Option ((List aP)×Int):=
  aT (λnext s=>kP.L1 fu x1 x2 x3 x4 x7 (λx12 x13=>next (x12,x13)) s.1 s.2) fu (x12,x13)
def kP(fu:Nat)(x1:Int)(x2:dh)(x3:List aP)(x4:Int):Option ((List aP)×Int):=
  (kR fu (bf.mk x1 x2 x3 x4)).bind λx5=>if x5=true then((kT fu (bf.mk x1 x2 x3 x4)).bind λx6=>if x6=0 then((fV fu (bf.mk x1 x2 x3 x4)).bind λx7=>if x7.2=0 then(kP.W1 fu x1 x2 x3 x4 x7 ([]:List aP) 0)else some ([],x7.2))else some ([],x6))else some ([],1)
def oP.k1(fu:Nat)(x2:Int)(x3:Int):Option Int:=
  if x3<0 then(some (-1))else if x2<=x3 then(some (-1))else some x3
def oP(fu:Nat)(x1:Int)(x2:Int):Option Int:=
  jn 1 () (λ(t:Int)=>oP.k1 fu x2 t)<|if x1<0 then(oP.k1 fu x2 (wk .i64 (x1+x2)))else oP.k1 fu x2 x1
def jX.L1(fu:Nat)(x1:aV)(x2:aj)(nx1:(List Int)→Int→Option ((List Int)×Bool))(x6:List Int)(x7:Int):Option ((List Int)×Bool):=
  if x7<(x2.fI.length:Int)then((at? x2.fI x7).bind λx11=>(at? x1.fx.fDims x1.faxis).bind λx12=>(oP fu x11 x12).bind λx13=>if x13<0 then(some ([],false))else chk ((x6.length+1:Int)*8<=140737488355328)<|nx1 (x6++([x13])) (wk .i64 (x7+1)))else some (x6,true)
def jX.W1(fu:Nat)(x1:aV)(x2:aj)(x6:List Int)(x7:Int):Option ((List Int)×Bool):=
  aT (λnext s=>jX.L1 fu x1 x2 (λx6 x7=>next (x6,x7)) s.1 s.2) fu (x6,x7)
def jX(fu:Nat)(x1:aV):Option ((List Int)×Bool):=
  (at? x1.fin 1).bind λx2=>jX.W1 fu x1 x2 ([]:List Int) 0
def qH.L1(fu:Nat)(x1:List Int)(nx1:(List Int)→Int→Int→Option (List Int))(x3:List Int)(x4:Int)(x5:Int):Option (List Int):=
  if 0<=x5 then(chk (0<=x5/\x5<(x3.length:Int))<|(at? x1 x5).bind λx7=>nx1 (x3.set x5.toNat x4) (wk .i64 (x4*x7)) (wk .i64 (x5 - 1)))else some x3
def qH.W1(fu:Nat)(x1:List Int)(x3:List Int)(x4:Int)(x5:Int):Option (List Int):=
  aT (λnext s=>qH.L1 fu x1 (λx3 x4 x5=>next (x3,x4,x5)) s.1 s.2.1 s.2.2) fu (x3,x4,x5)
def qH(fu:Nat)(x1:List Int):Option (List Int):=
  chk (0<=(x1.length:Int)/\(x1.length:Int)*8<=140737488355328)<|qH.W1 fu x1 (List.replicate (x1.length:Int).toNat (0:Int)) 1 (wk .i64 ((x1.length:Int) - 1))
def Nl(fu:Nat)(x1:List Int):Option ((List Int)×Int):=
  (eF fu x1).bind λx2=>if x2.2=0 then((qH fu x1).bind λx3=>some (x3,0))else some ([],x2.2)
def jA(fu:Nat)(x1:List Int):Option (List Int):=
  (Nl fu x1).bind λx2=>some x2.1
def Df(fu:Nat)(x1:Int)(x2:List Int):Option (aj×Int):=
  (Dh fu x1).bind λx3=>if x3=true then((eF fu x2).bind λx4=>if x4.2=0 then((slices_Clone_int fu x2).bind λx5=>if x1=1 then(chk (0<=x4.1/\x4.1*4<=140737488355328)<|some (aj.mk x1 x5 (List.replicate x4.1.toNat (0:Int)) ([]) ([]),0))else if x1=7 then(chk (0<=x4.1/\x4.1*8<=140737488355328)<|some (aj.mk x1 x5 ([]) (List.replicate x4.1.toNat (0:Int)) ([]),0))else chk (0<=x4.1/\x4.1*1<=140737488355328)<|some (aj.mk x1 x5 ([]) ([]) (List.replicate x4.1.toNat (false:Bool)),0))else some (aj.mk 0 ([]) ([]) ([]) ([]),x4.2))else some (aj.mk 0 ([]) ([]) ([]) ([]),5)
def vT(fu:Nat)(x1:Int)(x2:Int):Option Bool:=
  if x1<(-1)then(some true)else some (decide (x2<=x1))
def df.c3(fu:Nat)(x5:aj×Int)(x7:List Int)(x8:List Int)(x9:List Bool):Option (aj×Int):=
  chk (x5.1.fB.length=x9.length)<|some (aj.mk x5.1.fType x5.1.fDims x7 x8 x9,0)
def df.L1(fu:Nat)(x1:aj)(x3:List Int)(x5:aj×Int)(x7:List Int)(x8:List Int)(nx1:(List Bool)→Int→Option (aj×Int))(x12:List Bool)(x13:Int):Option (aj×Int):=
  if x13<(x3.length:Int)then((at? x3 x13).bind λx16=>if 0<=x16 then((at? x1.fB x16).bind λx17=>chk (0<=x13/\x13<((x5.1.fB.length:Nat):Int))<|chk (0<=x13/\x13<(x12.length:Int))<|nx1 (x12.set x13.toNat x17) (wk .i64 (x13+1)))else nx1 x12 (wk .i64 (x13+1)))else df.c3 fu x5 x7 x8 x12
def df.W1(fu:Nat)(x1:aj)(x3:List Int)(x5:aj×Int)(x7:List Int)(x8:List Int)(x12:List Bool)(x13:Int):Option (aj×Int):=
  aT (λnext s=>df.L1 fu x1 x3 x5 x7 x8 (λx12 x13=>next (x12,x13)) s.1 s.2) fu (x12,x13)
def df.c2(fu:Nat)(x1:aj)(x3:List Int)(x5:aj×Int)(x7:List Int)(x8:List Int):Option (aj×Int):=
  chk (x5.1.fI.length=x8.length)<|jc 3 () (λ(t:List Bool)=>df.c3 fu x5 x7 x8 t)<|if((x5.1.fB.length:Nat):Int)=0 then(df.c3 fu x5 x7 x8 x5.1.fB)else df.W1 fu x1 x3 x5 x7 x8 x5.1.fB 0
def df.L2(fu:Nat)(x1:aj)(x3:List Int)(x5:aj×Int)(x7:List Int)(nx2:(List Int)→Int→Option (aj×Int))(x20:List Int)(x21:Int):Option (aj×Int):=
  if x21<(x3.length:Int)then((at? x3 x21).bind λx24=>if 0<=x24 then((at? x1.fI x24).bind λx25=>chk (0<=x21/\x21<((x5.1.fI.length:Nat):Int))<|chk (0<=x21/\x21<(x20.length:Int))<|nx2 (x20.set x21.toNat x25) (wk .i64 (x21+1)))else nx2 x20 (wk .i64 (x21+1)))else df.c2 fu x1 x3 x5 x7 x20
def df.W2(fu:Nat)(x1:aj)(x3:List Int)(x5:aj×Int)(x7:List Int)(x20:List Int)(x21:Int):Option (aj×Int):=
  aT (λnext s=>df.L2 fu x1 x3 x5 x7 (λx20 x21=>next (x20,x21)) s.1 s.2) fu (x20,x21)
def df.c1(fu:Nat)(x1:aj)(x3:List Int)(x5:aj×Int)(x7:List Int):Option (aj×Int):=
  chk (x5.1.fF.length=x7.length)<|jc 2 () (λ(t:List Int)=>df.c2 fu x1 x3 x5 x7 t)<|if((x5.1.fI.length:Nat):Int)=0 then(df.c2 fu x1 x3 x5 x7 x5.1.fI)else df.W2 fu x1 x3 x5 x7 x5.1.fI 0
def df.L3(fu:Nat)(x1:aj)(x3:List Int)(x5:aj×Int)(nx3:(List Int)→Int→Option (aj×Int))(x28:List Int)(x29:Int):Option (aj×Int):=
  if x29<(x3.length:Int)then((at? x3 x29).bind λx32=>if 0<=x32 then((at? x1.fF x32).bind λx33=>chk (0<=x29/\x29<((x5.1.fF.length:Nat):Int))<|chk (0<=x29/\x29<(x28.length:Int))<|nx3 (x28.set x29.toNat x33) (wk .i64 (x29+1)))else nx3 x28 (wk .i64 (x29+1)))else df.c1 fu x1 x3 x5 x28
def df.W3(fu:Nat)(x1:aj)(x3:List Int)(x5:aj×Int)(x28:List Int)(x29:Int):Option (aj×Int):=
  aT (λnext s=>df.L3 fu x1 x3 x5 (λx28 x29=>next (x28,x29)) s.1 s.2) fu (x28,x29)
def df(fu:Nat)(x1:aj)(x2:List Int)(x3:List Int):Option (aj×Int):=
  (jY fu x1).bind λx4=>if x4=0 then((Df fu x1.fType x2).bind λx5=>if x5.2=0 then(if(x3.length:Int)=(wk .i64 ((wk .i64 (((x5.1.fF.length:Nat):Int)+((x5.1.fI.length:Nat):Int)))+((x5.1.fB.length:Nat):Int)))then((kY fu x3 (λy0=>vT fu y0 (wk .i64 ((wk .i64 ((x1.fF.length:Int)+(x1.fI.length:Int)))+(x1.fB.length:Int))))).bind λx6=>if x6=true then(some (aj.mk 0 ([]) ([]) ([]) ([]),2))else jc 1 () (λ(t:List Int)=>df.c1 fu x1 x3 x5 t)<|if((x5.1.fF.length:Nat):Int)=0 then(df.c1 fu x1 x3 x5 x5.1.fF)else df.W3 fu x1 x3 x5 x5.1.fF 0)else some (aj.mk 0 ([]) ([]) ([]) ([]),3))else some (aj.mk 0 ([]) ([]) ([]) ([]),x5.2))else some (aj.mk 0 ([]) ([]) ([]) ([]),x4)
def cO.L2(fu:Nat)(nx1:(List Int)→(List Int)→Option aj)(x1:aj)(x2:List Int)(x17:List Int)(x31:Int)(nx2:(List Int)→Int→Option aj)(x35:List Int)(x36:Int):Option aj:=
  if 0<=x36 then((at? x35 x36).bind λx40=>chk (0<=x36/\x36<(x35.length:Int))<|(at? (x35.set x36.toNat (wk .i64 (x40+1))) x36).bind λx41=>(at? x2 x36).bind λx42=>if x41<x42 then(nx1 (x17++([x31])) (x35.set x36.toNat (wk .i64 (x40+1))))else chk (0<=x36/\x36<((x35.set x36.toNat (wk .i64 (x40+1))).length:Int))<|nx2 ((x35.set x36.toNat (wk .i64 (x40+1))).set x36.toNat 0) (wk .i64 (x36 - 1)))else(df fu x1 x2 (x17++([x31]))).bind λx43=>some x43.1
def cO.W2(fu:Nat)(nx1:(List Int)→(List Int)→Option aj)(x1:aj)(x2:List Int)(x17:List Int)(x31:Int)(x35:List Int)(x36:Int):Option aj:=
  aT (λnext s=>cO.L2 fu nx1 x1 x2 x17 x31 (λx35 x36=>next (x35,x36)) s.1 s.2) fu (x35,x36)
def cO.L1(fu:Nat)(p2:(List Int)→Option Int)(x1:aj)(x2:List Int)(nx1:(List Int)→(List Int)→Option aj)(x17:List Int)(x18:List Int):Option aj:=
  (p2 x18).bind λx31=>chk ((x17.length+1:Int)*8<=140737488355328)<|cO.W2 fu nx1 x1 x2 x17 x31 x18 (wk .i64 ((x2.length:Int) - 1))
def cO.W1(fu:Nat)(p2:(List Int)→Option Int)(x1:aj)(x2:List Int)(x17:List Int)(x18:List Int):Option aj:=
  aT (λnext s=>cO.L1 fu p2 x1 x2 (λx17 x18=>next (x17,x18)) s.1 s.2) fu (x17,x18)
def cO(fu:Nat)(x1:aj)(x2:List Int)(p2:(List Int)→Option Int):Option aj:=
  (slices_Contains_int fu x2 0).bind λx3=>if x3=true then((df fu x1 x2 ([]:List Int)).bind λx4=>some x4.1)else chk (0<=(x2.length:Int)/\(x2.length:Int)*8<=140737488355328)<|cO.W1 fu p2 x1 x2 ([]:List Int) (List.replicate (x2.length:Int).toNat (0:Int))
def dY.L1(fu:Nat)(x1:List Int)(x2:List Int)(nx1:Int→Int→Option Int)(x5:Int)(x6:Int):Option Int:=
  if x6<(x2.length:Int)then((at? x2 x6).bind λx9=>(at? x1 x6).bind λx10=>nx1 (wk .i64 (x5+(wk .i64 (x10*x9)))) (wk .i64 (x6+1)))else some x5
def dY.W1(fu:Nat)(x1:List Int)(x2:List Int)(x5:Int)(x6:Int):Option Int:=
  aT (λnext s=>dY.L1 fu x1 x2 (λx5 x6=>next (x5,x6)) s.1 s.2) fu (x5,x6)
def dY(fu:Nat)(x1:List Int)(x2:List Int):Option Int:=
  dY.W1 fu x1 x2 0 0
def xu(fu:Nat)(x1:List Int)(x2:List Int):Option Int:=
  (dY fu x1 x2).bind λx3=>some x3
def gZ.k1(fu:Nat)(x1:aV)(x2:List Int)(x14:List Int)(x15:Bool):Option aj:=
  (cO fu x1.fx x2 (λy0=>xu fu y0 x14)).bind λx16=>some x16
def gZ.L2(fu:Nat)(x1:aV)(x2:List Int)(x3:List Int)(nx2:(List Int)→Bool→Int→Option aj)(x19:List Int)(x20:Bool)(x21:Int):Option aj:=
  if x21<(x1.fs.fPerm.length:Int)then((at? x1.fs.fPerm x21).bind λx24=>if x20=true then((at? x3 x24).bind λx25=>chk (0<=x21/\x21<(x19.length:Int))<|nx2 (x19.set x21.toNat x25) true (wk .i64 (x21+1)))else nx2 x19 false (wk .i64 (x21+1)))else gZ.k1 fu x1 x2 x19 x20
def gZ.W2(fu:Nat)(x1:aV)(x2:List Int)(x3:List Int)(x19:List Int)(x20:Bool)(x21:Int):Option aj:=
  aT (λnext s=>gZ.L2 fu x1 x2 x3 (λx19 x20 x21=>next (x19,x20,x21)) s.1 s.2.1 s.2.2) fu (x19,x20,x21)
def gZ.L1(fu:Nat)(x1:aV)(x2:List Int)(x3:List Int)(x4:List Int)(nx1:(List Int)→Int→Int→Option aj)(x7:List Int)(x8:Int)(x9:Int):Option aj:=
  if x8<x9 then(chk (0<=x9/\x9<((x4.length:Nat):Int))<|(at? x7 x9).bind λx12=>chk (0<=x8/\x8<((x4.length:Nat):Int))<|(at? x7 x8).bind λx13=>chk (0<=x8/\x8<(x7.length:Int))<|chk (0<=x9/\x9<((x7.set x8.toNat x12).length:Int))<|nx1 ((x7.set x8.toNat x12).set x9.toNat x13) (wk .i64 (x8+1)) (wk .i64 (x9 - 1)))else chk (x4.length=x7.length)<|jn 1 x1 (λ(t:(List Int)×Bool)=>gZ.k1 fu x1 x2 t.1 t.2)<|gZ.W2 fu x1 x2 x3 x7 x1.fs.fHasPerm 0
def gZ.W1(fu:Nat)(x1:aV)(x2:List Int)(x3:List Int)(x4:List Int)(x7:List Int)(x8:Int)(x9:Int):Option aj:=
  aT (λnext s=>gZ.L1 fu x1 x2 x3 x4 (λx7 x8 x9=>next (x7,x8,x9)) s.1 s.2.1 s.2.2) fu (x7,x8,x9)
def gZ(fu:Nat)(x1:aV)(x2:List Int):Option aj:=
  (jA fu x1.fx.fDims).bind λx3=>(slices_Clone_int fu x3).bind λx4=>gZ.W1 fu x1 x2 x3 x4 x4 0 (wk .i64 ((x4.length:Int) - 1))
def dI.L1(fu:Nat)(x1:List (List Int))(nx1:(List Int)→Int→Option (List Int))(x4:List Int)(x5:Int):Option (List Int):=
  if x5<(x1.length:Int)then((at? x1 x5).bind λx7=>chk ((x4.length+x7.length:Int)*4<=140737488355328)<|nx1 (x4++x7) (wk .i64 (x5+1)))else some x4
def dI.W1(fu:Nat)(x1:List (List Int))(x4:List Int)(x5:Int):Option (List Int):=
  aT (λnext s=>dI.L1 fu x1 (λx4 x5=>next (x4,x5)) s.1 s.2) fu (x4,x5)
def dI.L2(fu:Nat)(x1:List (List Int))(nx2:(List Int)→Int→Option (List Int))(x9:List Int)(x10:Int):Option (List Int):=
  if x10<(x1.length:Int)then((at? x1 x10).bind λx12=>chk ((x9.length+x12.length:Int)*4<=140737488355328)<|nx2 (x9++x12) (wk .i64 (x10+1)))else some x9
def dI.W2(fu:Nat)(x1:List (List Int))(x9:List Int)(x10:Int):Option (List Int):=
  aT (λnext s=>dI.L2 fu x1 (λx9 x10=>next (x9,x10)) s.1 s.2) fu (x9,x10)
def dI.k2(fu:Nat)(x1:List (List Int))(x2:Int):Option (List Int):=
  if 0<(wk .i64 (x2 - (wk .i64 0)))then(chk (0<=wk .i64 (x2 - (wk .i64 0))/\wk .i64 (x2 - (wk .i64 0))<=140737488355328/\(wk .i64 (x2 - (wk .i64 0)))*4<=140737488355328)<|chk (0<=0/\0<=(((wk .i64 (x2 - (wk .i64 0))).toNat:Nat):Int))<|dI.W1 fu x1 ([]:List Int) 0)else dI.W2 fu x1 ([]:List Int) 0
def dI.k1(fu:Nat)(x1:List (List Int))(x2:Int):Option (List Int):=
  jn 2 () (λ(t:Unit)=>dI.k2 fu x1 x2)<|if x2<0 then(none)else dI.k2 fu x1 x2
def dI.L3(fu:Nat)(x1:List (List Int))(nx3:Int→Int→Option (List Int))(x14:Int)(x15:Int):Option (List Int):=
  if x15<(x1.length:Int)then((at? x1 x15).bind λx17=>if(wk .i64 (x14+(x17.length:Int)))<0 then(none)else nx3 (wk .i64 (x14+(x17.length:Int))) (wk .i64 (x15+1)))else dI.k1 fu x1 x14
def dI.W3(fu:Nat)(x1:List (List Int))(x14:Int)(x15:Int):Option (List Int):=
  aT (λnext s=>dI.L3 fu x1 (λx14 x15=>next (x14,x15)) s.1 s.2) fu (x14,x15)
def dI(fu:Nat)(x1:List (List Int)):Option (List Int):=
  jn 1 () (λ(t:Int)=>dI.k1 fu x1 t)<|dI.W3 fu x1 0 0
def EJ(fu:Nat)(x1:List (List Int)):Option (List Int):=
  (dI fu x1).bind λx2=>some x2
def dH.L1(fu:Nat)(x1:List (List Int))(nx1:(List Int)→Int→Option (List Int))(x4:List Int)(x5:Int):Option (List Int):=
  if x5<(x1.length:Int)then((at? x1 x5).bind λx7=>chk ((x4.length+x7.length:Int)*8<=140737488355328)<|nx1 (x4++x7) (wk .i64 (x5+1)))else some x4
def dH.W1(fu:Nat)(x1:List (List Int))(x4:List Int)(x5:Int):Option (List Int):=
  aT (λnext s=>dH.L1 fu x1 (λx4 x5=>next (x4,x5)) s.1 s.2) fu (x4,x5)
def dH.L2(fu:Nat)(x1:List (List Int))(nx2:(List Int)→Int→Option (List Int))(x9:List Int)(x10:Int):Option (List Int):=
  if x10<(x1.length:Int)then((at? x1 x10).bind λx12=>chk ((x9.length+x12.length:Int)*8<=140737488355328)<|nx2 (x9++x12) (wk .i64 (x10+1)))else some x9
def dH.W2(fu:Nat)(x1:List (List Int))(x9:List Int)(x10:Int):Option (List Int):=
  aT (λnext s=>dH.L2 fu x1 (λx9 x10=>next (x9,x10)) s.1 s.2) fu (x9,x10)
def dH.k2(fu:Nat)(x1:List (List Int))(x2:Int):Option (List Int):=
  if 0<(wk .i64 (x2 - (wk .i64 0)))then(chk (0<=wk .i64 (x2 - (wk .i64 0))/\wk .i64 (x2 - (wk .i64 0))<=140737488355328/\(wk .i64 (x2 - (wk .i64 0)))*8<=140737488355328)<|chk (0<=0/\0<=(((wk .i64 (x2 - (wk .i64 0))).toNat:Nat):Int))<|dH.W1 fu x1 ([]:List Int) 0)else dH.W2 fu x1 ([]:List Int) 0
def dH.k1(fu:Nat)(x1:List (List Int))(x2:Int):Option (List Int):=
  jn 2 () (λ(t:Unit)=>dH.k2 fu x1 x2)<|if x2<0 then(none)else dH.k2 fu x1 x2
def dH.L3(fu:Nat)(x1:List (List Int))(nx3:Int→Int→Option (List Int))(x14:Int)(x15:Int):Option (List Int):=
  if x15<(x1.length:Int)then((at? x1 x15).bind λx17=>if(wk .i64 (x14+(x17.length:Int)))<0 then(none)else nx3 (wk .i64 (x14+(x17.length:Int))) (wk .i64 (x15+1)))else dH.k1 fu x1 x14
def dH.W3(fu:Nat)(x1:List (List Int))(x14:Int)(x15:Int):Option (List Int):=
  aT (λnext s=>dH.L3 fu x1 (λx14 x15=>next (x14,x15)) s.1 s.2) fu (x14,x15)
def dH(fu:Nat)(x1:List (List Int)):Option (List Int):=
  jn 1 () (λ(t:Int)=>dH.k1 fu x1 t)<|dH.W3 fu x1 0 0
def EI(fu:Nat)(x1:List (List Int)):Option (List Int):=
  (dH fu x1).bind λx2=>some x2
def dF.L1(fu:Nat)(x1:List (List Bool))(nx1:(List Bool)→Int→Option (List Bool))(x4:List Bool)(x5:Int):Option (List Bool):=
  if x5<(x1.length:Int)then((at? x1 x5).bind λx7=>chk ((x4.length+x7.length:Int)*1<=140737488355328)<|nx1 (x4++x7) (wk .i64 (x5+1)))else some x4
def dF.W1(fu:Nat)(x1:List (List Bool))(x4:List Bool)(x5:Int):Option (List Bool):=
  aT (λnext s=>dF.L1 fu x1 (λx4 x5=>next (x4,x5)) s.1 s.2) fu (x4,x5)
def dF.L2(fu:Nat)(x1:List (List Bool))(nx2:(List Bool)→Int→Option (List Bool))(x9:List Bool)(x10:Int):Option (List Bool):=
  if x10<(x1.length:Int)then((at? x1 x10).bind λx12=>chk ((x9.length+x12.length:Int)*1<=140737488355328)<|nx2 (x9++x12) (wk .i64 (x10+1)))else some x9
def dF.W2(fu:Nat)(x1:List (List Bool))(x9:List Bool)(x10:Int):Option (List Bool):=
  aT (λnext s=>dF.L2 fu x1 (λx9 x10=>next (x9,x10)) s.1 s.2) fu (x9,x10)
def dF.k2(fu:Nat)(x1:List (List Bool))(x2:Int):Option (List Bool):=
  if 0<(wk .i64 (x2 - (wk .i64 0)))then(chk (0<=wk .i64 (x2 - (wk .i64 0))/\wk .i64 (x2 - (wk .i64 0))<=140737488355328/\(wk .i64 (x2 - (wk .i64 0)))*1<=140737488355328)<|chk (0<=0/\0<=(((wk .i64 (x2 - (wk .i64 0))).toNat:Nat):Int))<|dF.W1 fu x1 ([]:List Bool) 0)else dF.W2 fu x1 ([]:List Bool) 0
def dF.k1(fu:Nat)(x1:List (List Bool))(x2:Int):Option (List Bool):=
  jn 2 () (λ(t:Unit)=>dF.k2 fu x1 x2)<|if x2<0 then(none)else dF.k2 fu x1 x2
def dF.L3(fu:Nat)(x1:List (List Bool))(nx3:Int→Int→Option (List Bool))(x14:Int)(x15:Int):Option (List Bool):=
  if x15<(x1.length:Int)then((at? x1 x15).bind λx17=>if(wk .i64 (x14+(x17.length:Int)))<0 then(none)else nx3 (wk .i64 (x14+(x17.length:Int))) (wk .i64 (x15+1)))else dF.k1 fu x1 x14
def dF.W3(fu:Nat)(x1:List (List Bool))(x14:Int)(x15:Int):Option (List Bool):=
  aT (λnext s=>dF.L3 fu x1 (λx14 x15=>next (x14,x15)) s.1 s.2) fu (x14,x15)
def dF(fu:Nat)(x1:List (List Bool)):Option (List Bool):=
  jn 1 () (λ(t:Int)=>dF.k1 fu x1 t)<|dF.W3 fu x1 0 0
def EH(fu:Nat)(x1:List (List Bool)):Option (List Bool):=
  (dF fu x1).bind λx2=>some x2
def jE.k1(fu:Nat)(x2:aj)(x3:List Int)(x4:List Int)(x5:List Bool):Option aj:=
  some (aj.mk x2.fType ([wk .i64 ((wk .i64 ((x3.length:Int)+(x4.length:Int)))+(x5.length:Int))]) x3 x4 x5)
def jE.L1(fu:Nat)(x1:List aj)(x2:aj)(nx1:(List Int)→(List Int)→(List Bool)→Int→Option aj)(x9:List Int)(x10:List Int)(x11:List Bool)(x12:Int):Option aj:=
  if x12<(x1.length:Int)then((at? x1 x12).bind λx17=>(EJ fu ([x9,x17.fF])).bind λx18=>(EI fu ([x10,x17.fI])).bind λx19=>(EH fu ([x11,x17.fB])).bind λx20=>nx1 x18 x19 x20 (wk .i64 (x12+1)))else jE.k1 fu x2 x9 x10 x11
def jE.W1(fu:Nat)(x1:List aj)(x2:aj)(x9:List Int)(x10:List Int)(x11:List Bool)(x12:Int):Option aj:=
  aT (λnext s=>jE.L1 fu x1 x2 (λx9 x10 x11 x12=>next (x9,x10,x11,x12)) s.1 s.2.1 s.2.2.1 s.2.2.2) fu (x9,x10,x11,x12)
def jE(fu:Nat)(x1:List aj):Option aj:=
  (at? x1 0).bind λx2=>jn 1 () (λ(t:(List Int)×(List Int)×(List Bool))=>jE.k1 fu x2 t.1 t.2.1 t.2.2)<|jE.W1 fu x1 x2 ([]) ([]) ([]) 0
def jW.k1(fu:Nat)(x1:List Int)(x2:List Int)(x3:aV)(x4:List Int)(x5:Int):Option Int:=
  (at? x3.fin x5).bind λx6=>(jA fu x6.fDims).bind λx7=>(at? x4 x5).bind λx8=>(dY fu x1 x7).bind λx9=>(at? x2 x5).bind λx10=>(at? x7 x3.faxis).bind λx11=>some (wk .i64 ((wk .i64 (x8+x9)) - (wk .i64 (x10*x11))))
def jW.L1(fu:Nat)(x1:List Int)(x2:List Int)(x3:aV)(x4:List Int)(nx1:Int→Option Int)(x16:Int):Option Int:=
  (at? x2 x16).bind λx21=>(at? x1 x3.faxis).bind λx22=>if x22<x21 then(nx1 (wk .i64 (x16 - 1)))else(at? x3.fin x16).bind λx23=>(at? x23.fDims x3.faxis).bind λx24=>if x24=0 then(nx1 (wk .i64 (x16 - 1)))else jW.k1 fu x1 x2 x3 x4 x16
def jW.W1(fu:Nat)(x1:List Int)(x2:List Int)(x3:aV)(x4:List Int)(x16:Int):Option Int:=
  aT (λnext s=>jW.L1 fu x1 x2 x3 x4 next s) fu x16
def jW(fu:Nat)(x1:List Int)(x2:List Int)(x3:aV)(x4:List Int):Option Int:=
  jn 1 () (λ(t:Int)=>jW.k1 fu x1 x2 x3 x4 t)<|jW.W1 fu x1 x2 x3 x4 (wk .i64 ((x2.length:Int) - 1))
def kV.k1(fu:Nat)(x1:aV)(x2:List Int)(x3:List Int)(x4:List Int):Option aj:=
  (jE fu x1.fin).bind λx5=>(cO fu x5 x2 (λy0=>jW fu y0 x4 x1 x3)).bind λx6=>some x6
def kV.L1(fu:Nat)(x1:aV)(x2:List Int)(nx1:(List Int)→(List Int)→Int→Int→Int→Option aj)(x10:List Int)(x11:List Int)(x12:Int)(x13:Int)(x14:Int):Option aj:=
  if x14<(x1.fin.length:Int)then((at? x1.fin x14).bind λx18=>chk ((x10.length+1:Int)*8<=140737488355328)<|chk ((x11.length+1:Int)*8<=140737488355328)<|(eF fu x18.fDims).bind λx19=>(at? x18.fDims x1.faxis).bind λx20=>nx1 (x10++([x12])) (x11++([x13])) (wk .i64 (x12+x19.1)) (wk .i64 (x13+x20)) (wk .i64 (x14+1)))else kV.k1 fu x1 x2 x10 x11
def kV.W1(fu:Nat)(x1:aV)(x2:List Int)(x10:List Int)(x11:List Int)(x12:Int)(x13:Int)(x14:Int):Option aj:=
  aT (λnext s=>kV.L1 fu x1 x2 (λx10 x11 x12 x13 x14=>next (x10,x11,x12,x13,x14)) s.1 s.2.1 s.2.2.1 s.2.2.2.1 s.2.2.2.2) fu (x10,x11,x12,x13,x14)
def kV(fu:Nat)(x1:aV)(x2:List Int):Option aj:=
  jn 1 () (λ(t:(List Int)×(List Int))=>kV.k1 fu x1 x2 t.1 t.2)<|kV.W1 fu x1 x2 ([]:List Int) ([]:List Int) 0 0 0
def EL(fu:Nat)(x1:Int):Option Int:=
  some x1
def EM(fu:Nat)(x1:Int):Option Int:=
  some 1
def pW.k1(fu:Nat)(x1:Int)(x3:Int)(x4:Int):Option Int:=
  if x3<0 then(some (bV (iH x4 (wk .i64 (x1 - 1))) (-1)))else some (bV (iH x4 x1) 0)
def pW(fu:Nat)(x1:Int)(x2:Int)(x3:Int):Option Int:=
  jn 1 () (λ(t:Int)=>pW.k1 fu x1 x3 t)<|if x2<0 then(pW.k1 fu x1 x3 (wk .i64 (x2+x1)))else pW.k1 fu x1 x3 x2
def xm(fu:Nat)(x1:List Int)(x2:Int)(x3:List Int):Option Int:=
  (dY fu x1 x3).bind λx4=>some (wk .i64 (x2+x4))
def aY.k4(fu:Nat)(x1:aV)(x2:List Int)(x8:List Int)(x9:Int):Option aj:=
  (cO fu x1.fx x2 (λy0=>xm fu y0 x9 x8)).bind λx10=>some x10
def aY.L1(fu:Nat)(x1:aV)(x2:List Int)(x3:List Int)(x4:List Int)(x5:List Int)(x6:List Int)(nx1:(List Int)→Int→Int→Option aj)(x18:List Int)(x19:Int)(x20:Int):Option aj:=
  if x20<(x4.length:Int)then((at? x4 x20).bind λx28=>(og fu x28 (x2.length:Int)).bind λx29=>(at? x5 x20).bind λx30=>(at? x1.fx.fDims x29.1).bind λx31=>(at? x3 x20).bind λx32=>(pW fu x31 x32 (bV (iH x30 4097) (-4097))).bind λx33=>(at? x6 x29.1).bind λx34=>chk (0<=x29.1/\x29.1<(x18.length:Int))<|nx1 (x18.set x29.1.toNat (wk .i64 (x34*(bV (iH x30 4097) (-4097))))) (wk .i64 (x19+(wk .i64 (x33*x34)))) (wk .i64 (x20+1)))else aY.k4 fu x1 x2 x18 x19
def aY.W1(fu:Nat)(x1:aV)(x2:List Int)(x3:List Int)(x4:List Int)(x5:List Int)(x6:List Int)(x18:List Int)(x19:Int)(x20:Int):Option aj:=
  aT (λnext s=>aY.L1 fu x1 x2 x3 x4 x5 x6 (λx18 x19 x20=>next (x18,x19,x20)) s.1 s.2.1 s.2.2) fu (x18,x19,x20)
def aY.c3(fu:Nat)(x1:aV)(x2:List Int)(x3:List Int)(x4:List Int)(x5:List Int):Option aj:=
  (jA fu x1.fx.fDims).bind λx6=>(slices_Clone_int fu x6).bind λx7=>jn 4 () (λ(t:(List Int)×Int)=>aY.k4 fu x1 x2 t.1 t.2)<|aY.W1 fu x1 x2 x3 x4 x5 x6 x7 0 0
def aY.L2(fu:Nat)(x1:aV)(x2:List Int)(x3:List Int)(x4:List Int)(x35:aj)(nx2:(List Int)→Int→Option aj)(x37:List Int)(x38:Int):Option aj:=
  if x38<(x35.fI.length:Int)then((EM fu x38).bind λx40=>chk ((x37.length+1:Int)*8<=140737488355328)<|nx2 (x37++([x40])) (wk .i64 (x38+1)))else aY.c3 fu x1 x2 x3 x4 x37
def aY.W2(fu:Nat)(x1:aV)(x2:List Int)(x3:List Int)(x4:List Int)(x35:aj)(x37:List Int)(x38:Int):Option aj:=
  aT (λnext s=>aY.L2 fu x1 x2 x3 x4 x35 (λx37 x38=>next (x37,x38)) s.1 s.2) fu (x37,x38)
def aY.k5(fu:Nat)(x1:aV)(x2:List Int)(x3:List Int)(x4:List Int):Option aj:=
  (at? x1.fin 1).bind λx35=>aY.W2 fu x1 x2 x3 x4 x35 ([]:List Int) 0
def aY.L3(fu:Nat)(x1:aV)(x2:List Int)(x3:List Int)(x4:List Int)(x41:aj)(nx3:(List Int)→Int→Option aj)(x43:List Int)(x44:Int):Option aj:=
  if x44<(x41.fI.length:Int)then((at? x41.fI x44).bind λx46=>chk ((x43.length+1:Int)*8<=140737488355328)<|nx3 (x43++([x46])) (wk .i64 (x44+1)))else aY.c3 fu x1 x2 x3 x4 x43
def aY.W3(fu:Nat)(x1:aV)(x2:List Int)(x3:List Int)(x4:List Int)(x41:aj)(x43:List Int)(x44:Int):Option aj:=
  aT (λnext s=>aY.L3 fu x1 x2 x3 x4 x41 (λx43 x44=>next (x43,x44)) s.1 s.2) fu (x43,x44)
def aY.c2(fu:Nat)(x1:aV)(x2:List Int)(x3:List Int)(x4:List Int):Option aj:=
  jc 3 () (λ(t:List Int)=>aY.c3 fu x1 x2 x3 x4 t)<|jn 5 () (λ(t:Unit)=>aY.k5 fu x1 x2 x3 x4)<|if 4<(x1.fin.length:Int)then((at? x1.fin 4).bind λx41=>if x41.fType=0 then(aY.k5 fu x1 x2 x3 x4)else aY.W3 fu x1 x2 x3 x4 x41 ([]:List Int) 0)else aY.k5 fu x1 x2 x3 x4
def aY.L4(fu:Nat)(x1:aV)(x2:List Int)(x3:List Int)(x47:aj)(nx4:(List Int)→Int→Option aj)(x49:List Int)(x50:Int):Option aj:=
  if x50<(x47.fI.length:Int)then((EL fu x50).bind λx52=>chk ((x49.length+1:Int)*8<=140737488355328)<|nx4 (x49++([x52])) (wk .i64 (x50+1)))else aY.c2 fu x1 x2 x3 x49
def aY.W4(fu:Nat)(x1:aV)(x2:List Int)(x3:List Int)(x47:aj)(x49:List Int)(x50:Int):Option aj:=
  aT (λnext s=>aY.L4 fu x1 x2 x3 x47 (λx49 x50=>next (x49,x50)) s.1 s.2) fu (x49,x50)
def aY.k6(fu:Nat)(x1:aV)(x2:List Int)(x3:List Int):Option aj:=
  (at? x1.fin 1).bind λx47=>aY.W4 fu x1 x2 x3 x47 ([]:List Int) 0
def aY.L5(fu:Nat)(x1:aV)(x2:List Int)(x3:List Int)(x53:aj)(nx5:(List Int)→Int→Option aj)(x55:List Int)(x56:Int):Option aj:=
  if x56<(x53.fI.length:Int)then((at? x53.fI x56).bind λx58=>chk ((x55.length+1:Int)*8<=140737488355328)<|nx5 (x55++([x58])) (wk .i64 (x56+1)))else aY.c2 fu x1 x2 x3 x55
def aY.W5(fu:Nat)(x1:aV)(x2:List Int)(x3:List Int)(x53:aj)(x55:List Int)(x56:Int):Option aj:=
  aT (λnext s=>aY.L5 fu x1 x2 x3 x53 (λx55 x56=>next (x55,x56)) s.1 s.2) fu (x55,x56)
def aY.c1(fu:Nat)(x1:aV)(x2:List Int)(x3:List Int):Option aj:=
  jc 2 () (λ(t:List Int)=>aY.c2 fu x1 x2 x3 t)<|jn 6 () (λ(t:Unit)=>aY.k6 fu x1 x2 x3)<|if 3<(x1.fin.length:Int)then((at? x1.fin 3).bind λx53=>if x53.fType=0 then(aY.k6 fu x1 x2 x3)else aY.W5 fu x1 x2 x3 x53 ([]:List Int) 0)else aY.k6 fu x1 x2 x3
def aY.L6(fu:Nat)(x1:aV)(x2:List Int)(x59:aj)(nx6:Unit→Option aj):Option aj:=
  if 0<(x59.fI.length:Int)then(none)else aY.c1 fu x1 x2 ([]:List Int)
def aY.W6(fu:Nat)(x1:aV)(x2:List Int)(x59:aj):Option aj:=
  aT (λnext s=>aY.L6 fu x1 x2 x59 next) fu ()
def aY.k7(fu:Nat)(x1:aV)(x2:List Int):Option aj:=
  (at? x1.fin 1).bind λx59=>aY.W6 fu x1 x2 x59
def aY.L7(fu:Nat)(x1:aV)(x2:List Int)(x60:aj)(nx7:(List Int)→Int→Option aj)(x62:List Int)(x63:Int):Option aj:=
  if x63<(x60.fI.length:Int)then((at? x60.fI x63).bind λx65=>chk ((x62.length+1:Int)*8<=140737488355328)<|nx7 (x62++([x65])) (wk .i64 (x63+1)))else aY.c1 fu x1 x2 x62
def aY.W7(fu:Nat)(x1:aV)(x2:List Int)(x60:aj)(x62:List Int)(x63:Int):Option aj:=
  aT (λnext s=>aY.L7 fu x1 x2 x60 (λx62 x63=>next (x62,x63)) s.1 s.2) fu (x62,x63)
def aY(fu:Nat)(x1:aV)(x2:List Int):Option aj:=
  jc 1 () (λ(t:List Int)=>aY.c1 fu x1 x2 t)<|jn 7 () (λ(t:Unit)=>aY.k7 fu x1 x2)<|if 1<(x1.fin.length:Int)then((at? x1.fin 1).bind λx60=>if x60.fType=0 then(aY.k7 fu x1 x2)else aY.W7 fu x1 x2 x60 ([]:List Int) 0)else aY.k7 fu x1 x2
def vI(fu:Nat)(x1:List Int)(x2:aV)(x3:List Int)(x4:List Int)(x5:List Int)(x6:Int):Option Int:=
  chk (0<=x2.faxis/\x2.faxis<=(x3.length:Int))<|(dY fu x1 (iW x3 0 x2.faxis.toNat)).bind λx7=>chk (0<=x2.faxis/\x2.faxis<=(x1.length:Int))<|(dY fu (iW x1 x2.faxis.toNat x1.length) x5).bind λx8=>(at? x4 x8).bind λx9=>(at? x3 x2.faxis).bind λx10=>chk (0<=wk .i64 (x2.faxis+x6)/\wk .i64 (x2.faxis+x6)<=(x1.length:Int))<|chk (0<=wk .i64 (x2.faxis+1)/\wk .i64 (x2.faxis+1)<=(x3.length:Int))<|(dY fu (iW x1 (wk .i64 (x2.faxis+x6)).toNat x1.length) (iW x3 (wk .i64 (x2.faxis+1)).toNat x3.length)).bind λx11=>some (wk .i64 ((wk .i64 (x7+(wk .i64 (x9*x10))))+x11))
def BK(fu:Nat)(x1:aV)(x2:List Int)(x3:List Int):Option aj:=
  (at? x1.fin 1).bind λx4=>(jA fu x1.fx.fDims).bind λx5=>(jA fu x4.fDims).bind λx6=>(cO fu x1.fx x2 (λy0=>vI fu y0 x1 x5 x3 x6 (x4.fDims.length:Int))).bind λx7=>some x7
def iO.L2(fu:Nat)(nx1:(List Int)→(List Int)→Option (List Int))(x4:aj)(x21:List Int)(x38:Int)(x39:Int)(x40:Int)(x41:Int)(nx2:(List Int)→Int→Option (List Int))(x45:List Int)(x46:Int):Option (List Int):=
  if 0<=x46 then((at? x45 x46).bind λx50=>chk (0<=x46/\x46<(x45.length:Int))<|(at? (x45.set x46.toNat (wk .i64 (x50+1))) x46).bind λx51=>(at? x4.fDims x46).bind λx52=>if x51<x52 then(nx1 (x21++([wk .i64 (x38+(wk .i64 ((wk .i64 (x39 - x40))*x41)))])) (x45.set x46.toNat (wk .i64 (x50+1))))else chk (0<=x46/\x46<((x45.set x46.toNat (wk .i64 (x50+1))).length:Int))<|nx2 ((x45.set x46.toNat (wk .i64 (x50+1))).set x46.toNat 0) (wk .i64 (x46 - 1)))else some (x21++([wk .i64 (x38+(wk .i64 ((wk .i64 (x39 - x40))*x41)))]))
def iO.W2(fu:Nat)(nx1:(List Int)→(List Int)→Option (List Int))(x4:aj)(x21:List Int)(x38:Int)(x39:Int)(x40:Int)(x41:Int)(x45:List Int)(x46:Int):Option (List Int):=
  aT (λnext s=>iO.L2 fu nx1 x4 x21 x38 x39 x40 x41 (λx45 x46=>next (x45,x46)) s.1 s.2) fu (x45,x46)
def iO.L1(fu:Nat)(x1:aV)(x2:List Int)(x3:List Int)(x4:aj)(nx1:(List Int)→(List Int)→Option (List Int))(x21:List Int)(x22:List Int):Option (List Int):=
  (dY fu x22 x3).bind λx38=>(at? x2 (x21.length:Int)).bind λx39=>(at? x22 x1.faxis).bind λx40=>(at? x3 x1.faxis).bind λx41=>chk ((x21.length+1:Int)*8<=140737488355328)<|iO.W2 fu nx1 x4 x21 x38 x39 x40 x41 x22 (wk .i64 ((x4.fDims.length:Int) - 1))
def iO.W1(fu:Nat)(x1:aV)(x2:List Int)(x3:List Int)(x4:aj)(x21:List Int)(x22:List Int):Option (List Int):=
  aT (λnext s=>iO.L1 fu x1 x2 x3 x4 (λx21 x22=>next (x21,x22)) s.1 s.2) fu (x21,x22)
def iO(fu:Nat)(x1:aV)(x2:List Int):Option (List Int):=
  (jA fu x1.fx.fDims).bind λx3=>(at? x1.fin 1).bind λx4=>(slices_Contains_int fu x4.fDims 0).bind λx5=>if x5=true then(some ([]:List Int))else chk (0<=(x4.fDims.length:Int)/\(x4.fDims.length:Int)*8<=140737488355328)<|iO.W1 fu x1 x2 x3 x4 ([]:List Int) (List.replicate (x4.fDims.length:Int).toNat (0:Int))
def BL(fu:Nat)(x1:aV)(x2:Int)(x3:Int):Option Int:=
  if 0<=x2 then(if x2<x3 then(some x2)else if x1.fs.fMode=3 then(some (bV 0 (iH x2 (wk .i64 (x3 - 1)))))else if x1.fs.fMode=2 then(some (wk .i64 ((wk .i64 ((wk .i64 (2*x3)) - 2)) - x2)))else some (-1))else if x1.fs.fMode=3 then(some (bV 0 (iH x2 (wk .i64 (x3 - 1)))))else if x1.fs.fMode=2 then(some (wk .i64 (0 - x2)))else some (-1)
def kX.L1(fu:Nat)(x1:List Int)(x2:aV)(x3:Int)(x4:List Int)(nx1:Int→Int→Option Int)(x11:Int)(x12:Int):Option Int:=
  if x12<(x2.fx.fDims.length:Int)then((at? x2.fx.fDims x12).bind λx19=>(at? x1 x12).bind λx20=>(at? x2.fin 1).bind λx21=>(at? x21.fI x12).bind λx22=>(BL fu x2 (wk .i64 (x20 - x22)) x19).bind λx23=>if x23<0 then(some x3)else(at? x4 x12).bind λx24=>nx1 (wk .i64 (x11+(wk .i64 (x23*x24)))) (wk .i64 (x12+1)))else some x11
def kX.W1(fu:Nat)(x1:List Int)(x2:aV)(x3:Int)(x4:List Int)(x11:Int)(x12:Int):Option Int:=
  aT (λnext s=>kX.L1 fu x1 x2 x3 x4 (λx11 x12=>next (x11,x12)) s.1 s.2) fu (x11,x12)
def kX(fu:Nat)(x1:List Int)(x2:aV)(x3:Int)(x4:List Int):Option Int:=
  kX.W1 fu x1 x2 x3 x4 0 0
def zx(fu:Nat)(x1:aV)(x2:List Int):Option aj:=
  if 2<(x1.fin.length:Int)then((at? x1.fin 2).bind λx3=>if x3.fType=0 then((jA fu x1.fx.fDims).bind λx4=>(cO fu x1.fx x2 (λy0=>kX fu y0 x1 (-1) x4)).bind λx5=>some x5)else(eF fu x1.fx.fDims).bind λx6=>(jE fu ([x1.fx,x3])).bind λx7=>(jA fu x1.fx.fDims).bind λx8=>(cO fu x7 x2 (λy0=>kX fu y0 x1 x6.1 x8)).bind λx9=>some x9)else(jA fu x1.fx.fDims).bind λx10=>(cO fu x1.fx x2 (λy0=>kX fu y0 x1 (-1) x10)).bind λx11=>some x11
def nV.L1(fu:Nat)(x1:List Int)(x2:List Int)(x3:List Int)(nx1:Int→Int→Option Int)(x7:Int)(x8:Int):Option Int:=
  if x8<(x2.length:Int)then((at? x1 (wk .i64 ((wk .i64 ((x1.length:Int) - (x2.length:Int)))+x8))).bind λx12=>(at? x2 x8).bind λx13=>chk (x13≠0)<|(at? x3 x8).bind λx14=>nx1 (wk .i64 (x7+(wk .i64 ((Int.tmod x12 x13)*x14)))) (wk .i64 (x8+1)))else some x7
def nV.W1(fu:Nat)(x1:List Int)(x2:List Int)(x3:List Int)(x7:Int)(x8:Int):Option Int:=
  aT (λnext s=>nV.L1 fu x1 x2 x3 (λx7 x8=>next (x7,x8)) s.1 s.2) fu (x7,x8)
def nV(fu:Nat)(x1:List Int)(x2:List Int)(x3:List Int):Option Int:=
  nV.W1 fu x1 x2 x3 0 0
def vJ(fu:Nat)(x1:aV)(x2:List Int):Option aj:=
  (jA fu x1.fx.fDims).bind λx3=>(cO fu x1.fx x2 (λy0=>nV fu y0 x1.fx.fDims x3)).bind λx4=>some x4
def xq(fu:Nat)(x1:List Int):Option Int:=
  some 0
def jm.k1(fu:Nat)(x1:aV)(x2:List Int):Option aj:=
  (jI fu x1.fs.fValue).bind λx4=>(jE fu ([x4])).bind λx5=>(cO fu x5 x2 (λy0=>xq fu y0)).bind λx6=>some x6
def jm.L1(fu:Nat)(x1:aV)(x2:List Int)(x7:Int)(x8:Int)(nx1:(List Int)→Int→Option aj)(x10:List Int)(x11:Int):Option aj:=
  if x11<x8 then((at? x1.fx.fDims (wk .i64 ((bV x7 0)+x11))).bind λx13=>chk ((x10.length+1:Int)*8<=140737488355328)<|nx1 (x10++([x13])) (wk .i64 (x11+1)))else some (aj.mk 7 x2 ([]) x10 ([]))
def jm.W1(fu:Nat)(x1:aV)(x2:List Int)(x7:Int)(x8:Int)(x10:List Int)(x11:Int):Option aj:=
  aT (λnext s=>jm.L1 fu x1 x2 x7 x8 (λx10 x11=>next (x10,x11)) s.1 s.2) fu (x10,x11)
def jm.k2(fu:Nat)(x1:aV)(x2:List Int)(x7:Int):Option aj:=
  (at? x2 0).bind λx8=>jm.W1 fu x1 x2 x7 x8 ([]:List Int) 0
def jm(fu:Nat)(x1:aV)(x2:List Int):Option aj:=
  (eF fu x1.fx.fDims).bind λx3=>jn 1 () (λ(t:Unit)=>jm.k1 fu x1 x2)<|if x1.fop=60 then(some (aj.mk 7 ([]) ([]) ([x3.1]) ([])))else if x1.fop=59 then(jn 2 () (λ(t:Int)=>jm.k2 fu x1 x2 t)<|if x1.fs.fStart<0 then(jm.k2 fu x1 x2 (wk .i64 (x1.fs.fStart+(x1.fx.fDims.length:Int))))else jm.k2 fu x1 x2 x1.fs.fStart)else jm.k1 fu x1 x2
def nU(fu:Nat)(x1:List Int)(x2:aV)(x3:Int)(x4:List Int)(x5:List Int):Option Int:=
  (at? x2.fx.fDims 1).bind λx6=>(at? x1 0).bind λx7=>(at? x1 1).bind λx8=>chk (x6≠0)<|(at? x1 2).bind λx9=>chk (x3≠0)<|(at? x1 3).bind λx10=>if x2.fop=63 then((at? x4 1).bind λx11=>if x2.fs.fMode=7 then((dY fu ([x7,wk .i64 ((wk .i64 ((wk .i64 ((wk .i64 (x8*x3))+(Int.tmod x9 x3)))*x3))+(Int.tmod x10 x3)),wk .i64 (Int.tdiv x9 x3),wk .i64 (Int.tdiv x10 x3)]) x5).bind λx12=>some x12)else(dY fu ([x7,wk .i64 ((wk .i64 ((wk .i64 ((wk .i64 ((Int.tmod x9 x3)*x3))+(Int.tmod x10 x3)))*x11))+x8),wk .i64 (Int.tdiv x9 x3),wk .i64 (Int.tdiv x10 x3)]) x5).bind λx13=>some x13)else(dY fu ([x7,Int.tmod x8 x6,wk .i64 ((wk .i64 (x9*x3))+(wk .i64 (Int.tdiv (wk .i64 (Int.tdiv x8 x6)) x3))),wk .i64 ((wk .i64 (x10*x3))+(Int.tmod (wk .i64 (Int.tdiv x8 x6)) x3))]) x5).bind λx14=>some x14
def EK(fu:Nat)(x1:aV)(x2:List Int):Option aj:=
  (jA fu x1.fx.fDims).bind λx3=>(cO fu x1.fx x2 (λy0=>nU fu y0 x1 x1.fs.fBlock x2 x3)).bind λx4=>some x4
def eX.k1(fu:Nat)(x1:aV)(x2:List Int):Option aj:=
  some (aj.mk x1.fx.fType x2 x1.fx.fF x1.fx.fI x1.fx.fB)
def eX(fu:Nat)(x1:aV)(x2:List Int)(x3:List Int):Option aj:=
  jn 1 () (λ(t:Unit)=>eX.k1 fu x1 x2)<|if x1.fop=45 then((gZ fu x1 x2).bind λx4=>some x4)else if x1.fop=47 then((kV fu x1 x2).bind λx5=>some x5)else if x1.fop=49 then((aY fu x1 x2).bind λx6=>some x6)else if x1.fop=50 then((BK fu x1 x2 x3).bind λx7=>some x7)else if x1.fop=51 then((iO fu x1 x3).bind λx8=>(df fu x1.fx x2 x8).bind λx9=>some x9.1)else if x1.fop=52 then(none)else if x1.fop=53 then((zx fu x1 x2).bind λx10=>some x10)else if x1.fop=54 then((vJ fu x1 x2).bind λx11=>some x11)else if x1.fop=55 then((vJ fu x1 x2).bind λx12=>some x12)else if x1.fop=59 then((jm fu x1 x2).bind λx13=>some x13)else if x1.fop=60 then((jm fu x1 x2).bind λx14=>some x14)else if x1.fop=62 then((jm fu x1 x2).bind λx15=>some x15)else if x1.fop=63 then((EK fu x1 x2).bind λx16=>some x16)else if x1.fop=64 then((EK fu x1 x2).bind λx17=>some x17)else eX.k1 fu x1 x2
def xn(fu:Nat)(x1:List Int)(x2:Int)(x3:List Int):Option Int:=
  (dY fu x1 x3).bind λx4=>some (wk .i64 (x2+x4))
def pX.L1(fu:Nat)(x1:aV)(x2:List aP)(x3:List Int)(nx1:(List aj)→Int→Int→Option (List aj))(x8:List aj)(x9:Int)(x10:Int):Option (List aj):=
  if x10<(x2.length:Int)then((at? x2 x10).bind λx15=>(cO fu x1.fx x15.fDims (λy0=>xn fu y0 x9 x3)).bind λx16=>chk ((x8.length+1:Int)*104<=140737488355328)<|(at? x15.fDims x1.faxis).bind λx17=>(at? x3 x1.faxis).bind λx18=>nx1 (x8++([x16])) (wk .i64 (x9+(wk .i64 (x17*x18)))) (wk .i64 (x10+1)))else some x8
def pX.W1(fu:Nat)(x1:aV)(x2:List aP)(x3:List Int)(x8:List aj)(x9:Int)(x10:Int):Option (List aj):=
  aT (λnext s=>pX.L1 fu x1 x2 x3 (λx8 x9 x10=>next (x8,x9,x10)) s.1 s.2.1 s.2.2) fu (x8,x9,x10)
def pX(fu:Nat)(x1:aV)(x2:List aP):Option (List aj):=
  (jA fu x1.fx.fDims).bind λx3=>pX.W1 fu x1 x2 x3 ([]:List aj) 0 0
def dW.k1(fu:Nat)(x1:Int)(x2:dh)(x3:List aj)(x4:Int)(x6:List aj):Option ((List aj)×Int):=
  (lX fu x3).bind λx7=>(kP fu x1 x2 x7 x4).bind λx8=>if x8.2=0 then((at? x6 0).bind λx9=>(og fu x2.fAxis (x9.fDims.length:Int)).bind λx10=>if x1=50 then((jX fu (aV.mk x1 x2 x6 x9 x10.1)).bind λx11=>if x11.2=true then(if x1=48 then(none)else(at? x8.1 0).bind λx12=>(eX fu (aV.mk x1 x2 x6 x9 x10.1) x12.fDims x11.1).bind λx13=>some ([x13],0))else some ([],11))else if x1=51 then((jX fu (aV.mk x1 x2 x6 x9 x10.1)).bind λx14=>if x14.2=true then(if x1=48 then(none)else(at? x8.1 0).bind λx15=>(eX fu (aV.mk x1 x2 x6 x9 x10.1) x15.fDims x14.1).bind λx16=>some ([x16],0))else some ([],11))else if x1=52 then((jX fu (aV.mk x1 x2 x6 x9 x10.1)).bind λx17=>if x17.2=true then(if x1=48 then(none)else(at? x8.1 0).bind λx18=>(eX fu (aV.mk x1 x2 x6 x9 x10.1) x18.fDims x17.1).bind λx19=>some ([x19],0))else some ([],11))else if x1=48 then((pX fu (aV.mk x1 x2 x6 x9 x10.1) x8.1).bind λx20=>some (x20,0))else(at? x8.1 0).bind λx21=>(eX fu (aV.mk x1 x2 x6 x9 x10.1) x21.fDims ([]:List Int)).bind λx22=>some ([x22],0))else some ([],x8.2)
def dW.L1(fu:Nat)(x1:Int)(x2:dh)(x3:List aj)(x4:Int)(nx1:(List aj)→Int→Option ((List aj)×Int))(x27:List aj)(x28:Int):Option ((List aj)×Int):=
  if x28<(x3.length:Int)then((at? x3 x28).bind λx33=>if x33.fType=0 then((jI fu x33).bind λx34=>chk ((x27.length+1:Int)*104<=140737488355328)<|nx1 (x27++([x34])) (wk .i64 (x28+1)))else(jY fu x33).bind λx35=>if x35=0 then((jI fu x33).bind λx36=>chk ((x27.length+1:Int)*104<=140737488355328)<|nx1 (x27++([x36])) (wk .i64 (x28+1)))else some ([],x35))else dW.k1 fu x1 x2 x3 x4 x27
def dW.W1(fu:Nat)(x1:Int)(x2:dh)(x3:List aj)(x4:Int)(x27:List aj)(x28:Int):Option ((List aj)×Int):=
  aT (λnext s=>dW.L1 fu x1 x2 x3 x4 (λx27 x28=>next (x27,x28)) s.1 s.2) fu (x27,x28)
def dW(fu:Nat)(x1:Int)(x2:dh)(x3:List aj)(x4:Int):Option ((List aj)×Int):=
  (ut fu x1).bind λx5=>if x5=true then(jn 1 () (λ(t:List aj)=>dW.k1 fu x1 x2 x3 x4 t)<|dW.W1 fu x1 x2 x3 x4 ([]:List aj) 0)else some ([],1)
def Ce(fu:Nat)(x1:aj):Option aj:=
  chk ((x1.fDims.length:Int)*8<=140737488355328)<|chk ((x1.fF.length:Int)*4<=140737488355328)<|chk ((x1.fI.length:Int)*8<=140737488355328)<|chk ((x1.fB.length:Int)*1<=140737488355328)<|some x1
def MO(fu:Nat)(x1:Int):Option Int:=
  some (Int.tmod x1 2147483648)
def MP(fu:Nat)(x1:Int):Option Bool:=
  (MO fu x1).bind λx2=>some (decide (2139095040<x2))
def E5(fu:Nat)(x1:Int):Option Int:=
  (MP fu x1).bind λx2=>if x2=true then(some 2143289344)else some x1
def qh.L1(fu:Nat)(x2:aj)(nx1:(List Int)→Int→Option aj)(x5:List Int)(x6:Int):Option aj:=
  if x6<(x5.length:Int)then((at? x5 x6).bind λx9=>(E5 fu x9).bind λx10=>chk (0<=x6/\x6<(x5.length:Int))<|nx1 (x5.set x6.toNat x10) (wk .i64 (x6+1)))else some (aj.mk x2.fType x2.fDims x5 x2.fI x2.fB)
def qh.W1(fu:Nat)(x2:aj)(x5:List Int)(x6:Int):Option aj:=
  aT (λnext s=>qh.L1 fu x2 (λx5 x6=>next (x5,x6)) s.1 s.2) fu (x5,x6)
def qh(fu:Nat)(x1:aj):Option aj:=
  (Ce fu x1).bind λx2=>qh.W1 fu x2 x2.fF 0
def qG.L1(fu:Nat)(x1:List Int)(x2:List Int)(nx1:Int→Option Bool)(x5:Int):Option Bool:=
  if x5<(x1.length:Int)then((at? x1 x5).bind λx8=>(at? x2 x5).bind λx9=>if x8=x9 then(nx1 (wk .i64 (x5+1)))else some false)else some true
def qG.W1(fu:Nat)(x1:List Int)(x2:List Int)(x5:Int):Option Bool:=
  aT (λnext s=>qG.L1 fu x1 x2 next s) fu x5
def qG(fu:Nat)(x1:List Int)(x2:List Int):Option Bool:=
  if(x1.length:Int)=(x2.length:Int)then(qG.W1 fu x1 x2 0)else some false
def dZ.L1(fu:Nat)(x1:aj)(x2:aj)(nx1:Int→Option Bool)(x5:Int):Option Bool:=
  if x5<(x1.fB.length:Int)then((at? x1.fB x5).bind λx8=>(at? x2.fB x5).bind λx9=>if(x8==x9)=true then(nx1 (wk .i64 (x5+1)))else some false)else some true
def dZ.W1(fu:Nat)(x1:aj)(x2:aj)(x5:Int):Option Bool:=
  aT (λnext s=>dZ.L1 fu x1 x2 next s) fu x5
def dZ.k3(fu:Nat)(x1:aj)(x2:aj):Option Bool:=
  dZ.W1 fu x1 x2 0
def dZ.L2(fu:Nat)(x1:aj)(x2:aj)(nx2:Int→Option Bool)(x12:Int):Option Bool:=
  if x12<(x1.fI.length:Int)then((at? x1.fI x12).bind λx15=>(at? x2.fI x12).bind λx16=>if x15=x16 then(nx2 (wk .i64 (x12+1)))else some false)else dZ.k3 fu x1 x2
def dZ.W2(fu:Nat)(x1:aj)(x2:aj)(x12:Int):Option Bool:=
  aT (λnext s=>dZ.L2 fu x1 x2 next s) fu x12
def dZ.k2(fu:Nat)(x1:aj)(x2:aj):Option Bool:=
  jn 3 () (λ(t:Unit)=>dZ.k3 fu x1 x2)<|dZ.W2 fu x1 x2 0
def dZ.L3(fu:Nat)(x1:aj)(x2:aj)(nx3:Int→Option Bool)(x19:Int):Option Bool:=
  if x19<(x1.fF.length:Int)then((at? x1.fF x19).bind λx22=>(at? x2.fF x19).bind λx23=>if x22=x23 then(nx3 (wk .i64 (x19+1)))else some false)else dZ.k2 fu x1 x2
def dZ.W3(fu:Nat)(x1:aj)(x2:aj)(x19:Int):Option Bool:=
  aT (λnext s=>dZ.L3 fu x1 x2 next s) fu x19
def dZ.k1(fu:Nat)(x1:aj)(x2:aj):Option Bool:=
  jn 2 () (λ(t:Unit)=>dZ.k2 fu x1 x2)<|dZ.W3 fu x1 x2 0
def dZ(fu:Nat)(x1:aj)(x2:aj):Option Bool:=
  jn 1 () (λ(t:Unit)=>dZ.k1 fu x1 x2)<|if x1.fType=x2.fType then((qG fu x1.fDims x2.fDims).bind λx24=>if x24=true then(if(x1.fF.length:Int)=(x2.fF.length:Int)then(if(x1.fI.length:Int)=(x2.fI.length:Int)then(if(x1.fB.length:Int)=(x2.fB.length:Int)then(dZ.k1 fu x1 x2)else some false)else some false)else some false)else some false)else some false
def gp.k2(fu:Nat)(nx1:Int→Int→Option (Int×Int))(x1:List Int)(x6:Int)(x7:Int):Option (Int×Int):=
  (at? x1 x7).bind λx10=>nx1 (wk .i64 (x6*x10)) (wk .i64 (x7+1))
def gp.L1(fu:Nat)(x1:List Int)(nx1:Int→Int→Option (Int×Int))(x6:Int)(x7:Int):Option (Int×Int):=
  if x7<(x1.length:Int)then(jn 2 () (λ(t:Unit)=>gp.k2 fu nx1 x1 x6 x7)<|(at? x1 x7).bind λx11=>if 4096<x11 then(some (0,4))else if 4096<(wk .i64 (x6*x11))then(some (0,4))else gp.k2 fu nx1 x1 x6 x7)else some (x6,0)
def gp.W1(fu:Nat)(x1:List Int)(x6:Int)(x7:Int):Option (Int×Int):=
  aT (λnext s=>gp.L1 fu x1 (λx6 x7=>next (x6,x7)) s.1 s.2) fu (x6,x7)
def gp.k1(fu:Nat)(x1:List Int)(x2:Bool)(x3:Bool):Option (Int×Int):=
  if x3=true then(some (0,4))else if x2=true then(some (0,0))else gp.W1 fu x1 1 0
def gp.k3(fu:Nat)(nx2:Bool→Bool→Int→Option (Int×Int))(x14:Bool)(x15:Int)(x18:Int)(x19:Bool):Option (Int×Int):=
  if x14=true then(nx2 x19 true (wk .i64 (x15+1)))else nx2 x19 (decide (4096<x18)) (wk .i64 (x15+1))
def gp.L2(fu:Nat)(x1:List Int)(nx2:Bool→Bool→Int→Option (Int×Int))(x13:Bool)(x14:Bool)(x15:Int):Option (Int×Int):=
  if x15<(x1.length:Int)then((at? x1 x15).bind λx18=>if x18<0 then(some (0,1))else jn 3 () (λ(t:Bool)=>gp.k3 fu nx2 x14 x15 x18 t)<|if x13=true then(gp.k3 fu nx2 x14 x15 x18 true)else gp.k3 fu nx2 x14 x15 x18 (decide (x18=0)))else gp.k1 fu x1 x13 x14
def gp.W2(fu:Nat)(x1:List Int)(x13:Bool)(x14:Bool)(x15:Int):Option (Int×Int):=
  aT (λnext s=>gp.L2 fu x1 (λx13 x14 x15=>next (x13,x14,x15)) s.1 s.2.1 s.2.2) fu (x13,x14,x15)
def gp(fu:Nat)(x1:List Int):Option (Int×Int):=
  jn 1 () (λ(t:Bool×Bool)=>gp.k1 fu x1 t.1 t.2)<|gp.W2 fu x1 false (decide (8<(x1.length:Int))) 0
def xJ(fu:Nat)(x1:Int):Option qL:=
  if(wk .i64 (band .u32 (jG .u32 x1 23) 255))=255 then(some (qL.mk (decide ((jG .u32 x1 31)=1)) (!(decide ((wk .u64 (band .u32 x1 8388607))=0))) (decide ((wk .u64 (band .u32 x1 8388607))=0)) 0 0))else if(wk .i64 (band .u32 (jG .u32 x1 23) 255))=0 then(some (qL.mk (decide ((jG .u32 x1 31)=1)) false false (-149) (wk .u64 (band .u32 x1 8388607))))else some (qL.mk (decide ((jG .u32 x1 31)=1)) false false (wk .i64 ((wk .i64 (band .u32 (jG .u32 x1 23) 255)) - 150)) (uQ .u64 (wk .u64 (band .u32 x1 8388607)) 8388608))
def oD(fu:Nat)(x1:Bool):Option Int:=
  if x1=true then(some 2147483648)else some 0
def CP(fu:Nat)(x1:Int):Option Int:=
  chk (x1=0)<|(oD fu (decide ((0:Int)=2))).bind λx2=>some x2
def lI.k2(fu:Nat)(x4:Int)(x5:Int):Option Int:=
  if 256<=x4 then((sat? (⟨((([0,1,2,2,3,3,3,3,4,4,4,4,4,4,4,4,5,5,5,5,5,5,5,5,5,5,5,5,5,5,5,5,6,6,6,6,6,6,6,6,6,6,6,6,6,6,6,6,6,6,6,6,6,6,6,6,6,6,6,6,6,6,6,6]).append ([7,7,7,7,7,7,7,7,7,7,7,7,7,7,7,7,7,7,7,7,7,7,7,7,7,7,7,7,7,7,7,7,7,7,7,7,7,7,7,7,7,7,7,7,7,7,7,7,7,7,7,7,7,7,7,7,7,7,7,7,7,7,7,7])).append (([8,8,8,8,8,8,8,8,8,8,8,8,8,8,8,8,8,8,8,8,8,8,8,8,8,8,8,8,8,8,8,8,8,8,8,8,8,8,8,8,8,8,8,8,8,8,8,8,8,8,8,8,8,8,8,8,8,8,8,8,8,8,8,8]).append ([8,8,8,8,8,8,8,8,8,8,8,8,8,8,8,8,8,8,8,8,8,8,8,8,8,8,8,8,8,8,8,8,8,8,8,8,8,8,8,8,8,8,8,8,8,8,8,8,8,8,8,8,8,8,8,8,8,8,8,8,8,8,8,8]))).toArray⟩:ByteArray) (wk .u8 (jG .u64 x4 8))).bind λx6=>some (wk .i64 ((wk .i64 (x5+8))+(wk .i64 x6))))else(sat? (⟨((([0,1,2,2,3,3,3,3,4,4,4,4,4,4,4,4,5,5,5,5,5,5,5,5,5,5,5,5,5,5,5,5,6,6,6,6,6,6,6,6,6,6,6,6,6,6,6,6,6,6,6,6,6,6,6,6,6,6,6,6,6,6,6,6]).append ([7,7,7,7,7,7,7,7,7,7,7,7,7,7,7,7,7,7,7,7,7,7,7,7,7,7,7,7,7,7,7,7,7,7,7,7,7,7,7,7,7,7,7,7,7,7,7,7,7,7,7,7,7,7,7,7,7,7,7,7,7,7,7,7])).append (([8,8,8,8,8,8,8,8,8,8,8,8,8,8,8,8,8,8,8,8,8,8,8,8,8,8,8,8,8,8,8,8,8,8,8,8,8,8,8,8,8,8,8,8,8,8,8,8,8,8,8,8,8,8,8,8,8,8,8,8,8,8,8,8]).append ([8,8,8,8,8,8,8,8,8,8,8,8,8,8,8,8,8,8,8,8,8,8,8,8,8,8,8,8,8,8,8,8,8,8,8,8,8,8,8,8,8,8,8,8,8,8,8,8,8,8,8,8,8,8,8,8,8,8,8,8,8,8,8,8]))).toArray⟩:ByteArray) (wk .u8 x4)).bind λx7=>some (wk .i64 (x5+(wk .i64 x7)))
def lI.k1(fu:Nat)(x2:Int)(x3:Int):Option Int:=
  jn 2 () (λ(t:Int×Int)=>lI.k2 fu t.1 t.2)<|if 65536<=x2 then(lI.k2 fu (jG .u64 x2 16) (wk .i64 (x3+16)))else lI.k2 fu x2 x3
def lI(fu:Nat)(x1:Int):Option Int:=
  jn 1 () (λ(t:Int×Int)=>lI.k1 fu t.1 t.2)<|if 4294967296<=x1 then(lI.k1 fu (jG .u64 x1 32) 32)else lI.k1 fu x1 0
def Nu(fu:Nat)(x1:Int)(x2:Bool):Option Bool:=
  chk (x1=0)<|some false
def CQ(fu:Nat)(x1:Int)(x2:Bool):Option Int:=
  chk (x1=0)<|(Nu fu 0 x2).bind λx3=>if x3=true then((oD fu x2).bind λx4=>some (uQ .u32 x4 1))else(oD fu x2).bind λx5=>some x5
def oC.k1(fu:Nat)(x2:Bool):Option Int:=
  (oD fu x2).bind λx3=>some (uQ .u32 x3 2139095040)
def oC(fu:Nat)(x1:Int)(x2:Bool):Option Int:=
  chk (x1=0)<|jn 1 () (λ(t:Unit)=>oC.k1 fu x2)<|oC.k1 fu x2
def eG.k3(fu:Nat)(x2:Bool)(x3:Int)(x6:Int)(x11:Int):Option Int:=
  if x11=0 then((oD fu x2).bind λx12=>some x12)else if 104<(wk .i64 (x3+(bV (wk .i64 (x6 - 24)) (wk .i64 ((-149) - x3)))))then((oC fu 0 x2).bind λx13=>some x13)else if 2139095040<=(wk .u64 ((oh .u64 (wk .u64 (wk .i64 ((wk .i64 (x3+(bV (wk .i64 (x6 - 24)) (wk .i64 ((-149) - x3)))))+149))) 23)+x11))then((oC fu 0 x2).bind λx14=>some x14)else(oD fu x2).bind λx15=>some (uQ .u32 x15 (wk .u32 (wk .u64 ((oh .u64 (wk .u64 (wk .i64 ((wk .i64 (x3+(bV (wk .i64 (x6 - 24)) (wk .i64 ((-149) - x3)))))+149))) 23)+x11))))
def eG.k2(fu:Nat)(x2:Bool)(x3:Int)(x6:Int)(x7:Int)(x8:Bool)(x9:Bool)(x10:Bool):Option Int:=
  jn 3 () (λ(t:Int)=>eG.k3 fu x2 x3 x6 t)<|if x8=true then(eG.k3 fu x2 x3 x6 (wk .u64 (x7+1)))else if x9=true then(if(band .u64 x7 1)=1 then(eG.k3 fu x2 x3 x6 (wk .u64 (x7+1)))else eG.k3 fu x2 x3 x6 x7)else eG.k3 fu x2 x3 x6 x7
def eG.k4(fu:Nat)(x2:Bool)(x3:Int)(x4:Int)(x5:Bool)(x6:Int)(x16:Bool):Option Int:=
  if(band .u64 x4 (wk .u64 ((oh .u64 1 (bV (wk .i64 (x6 - 24)) (wk .i64 ((-149) - x3)))) - 1)))=(oh .u64 1 (wk .i64 ((bV (wk .i64 (x6 - 24)) (wk .i64 ((-149) - x3))) - 1)))then(if(band .u64 x4 (wk .u64 ((oh .u64 1 (bV (wk .i64 (x6 - 24)) (wk .i64 ((-149) - x3)))) - 1)))=0 then(eG.k2 fu x2 x3 x6 (jG .u64 x4 (bV (wk .i64 (x6 - 24)) (wk .i64 ((-149) - x3)))) x16 (!x5) x5)else eG.k2 fu x2 x3 x6 (jG .u64 x4 (bV (wk .i64 (x6 - 24)) (wk .i64 ((-149) - x3)))) x16 (!x5) true)else if(band .u64 x4 (wk .u64 ((oh .u64 1 (bV (wk .i64 (x6 - 24)) (wk .i64 ((-149) - x3)))) - 1)))=0 then(eG.k2 fu x2 x3 x6 (jG .u64 x4 (bV (wk .i64 (x6 - 24)) (wk .i64 ((-149) - x3)))) x16 false x5)else eG.k2 fu x2 x3 x6 (jG .u64 x4 (bV (wk .i64 (x6 - 24)) (wk .i64 ((-149) - x3)))) x16 false true
def eG.k1(fu:Nat)(x2:Bool)(x3:Int)(x4:Int)(x5:Bool)(x6:Int):Option Int:=
  jn 2 () (λ(t:Int×Bool×Bool×Bool)=>eG.k2 fu x2 x3 x6 t.1 t.2.1 t.2.2.1 t.2.2.2)<|if(bV (wk .i64 (x6 - 24)) (wk .i64 ((-149) - x3)))<=0 then(chk (0<=(wk .i64 (0 - (bV (wk .i64 (x6 - 24)) (wk .i64 ((-149) - x3))))))<|eG.k2 fu x2 x3 x6 (oh .u64 x4 (wk .i64 (0 - (bV (wk .i64 (x6 - 24)) (wk .i64 ((-149) - x3)))))) false false x5)else if x6<(bV (wk .i64 (x6 - 24)) (wk .i64 ((-149) - x3)))then(eG.k2 fu x2 x3 x6 0 false false true)else chk (0<=(bV (wk .i64 (x6 - 24)) (wk .i64 ((-149) - x3))))<|chk (0<=(wk .i64 ((bV (wk .i64 (x6 - 24)) (wk .i64 ((-149) - x3))) - 1)))<|jn 4 () (λ(t:Bool)=>eG.k4 fu x2 x3 x4 x5 x6 t)<|if(oh .u64 1 (wk .i64 ((bV (wk .i64 (x6 - 24)) (wk .i64 ((-149) - x3))) - 1)))<(band .u64 x4 (wk .u64 ((oh .u64 1 (bV (wk .i64 (x6 - 24)) (wk .i64 ((-149) - x3)))) - 1)))then(eG.k4 fu x2 x3 x4 x5 x6 true)else if(band .u64 x4 (wk .u64 ((oh .u64 1 (bV (wk .i64 (x6 - 24)) (wk .i64 ((-149) - x3)))) - 1)))=(oh .u64 1 (wk .i64 ((bV (wk .i64 (x6 - 24)) (wk .i64 ((-149) - x3))) - 1)))then(eG.k4 fu x2 x3 x4 x5 x6 x5)else eG.k4 fu x2 x3 x4 x5 x6 false
def eG(fu:Nat)(x1:Int)(x2:Bool)(x3:Int)(x4:Int)(x5:Bool):Option Int:=
  chk (x1=0)<|(lI fu x4).bind λx6=>jn 1 () (λ(t:Unit)=>eG.k1 fu x2 x3 x4 x5 x6)<|if x6=0 then(if x5=true then((CQ fu 0 x2).bind λx17=>some x17)else(oD fu x2).bind λx18=>some x18)else if x3<(-300)then((CQ fu 0 x2).bind λx19=>some x19)else if 200<x3 then((oC fu 0 x2).bind λx20=>some x20)else eG.k1 fu x2 x3 x4 x5 x6
def jB.k3(fu:Nat)(x6:Bool)(x9:Bool)(x12:Int)(x13:Int)(x14:Int)(x15:Bool):Option Int:=
  if(x6==x9)=true then((eG fu 0 x6 x12 (wk .u64 (x13+x14)) x15).bind λx16=>some x16)else if x15=true then((eG fu 0 x6 x12 (wk .u64 ((wk .u64 (x13 - x14)) - 1)) true).bind λx17=>some x17)else if x13=x14 then((CP fu 0).bind λx18=>some x18)else if x14<x13 then((eG fu 0 x6 x12 (wk .u64 (x13 - x14)) false).bind λx19=>some x19)else(eG fu 0 x9 x12 (wk .u64 (x14 - x13)) false).bind λx20=>some x20
def jB.k2(fu:Nat)(x6:Bool)(x7:Int)(x8:Int)(x9:Bool)(x10:Int)(x11:Int):Option Int:=
  jn 3 () (λ(t:Int×Int×Int×Bool)=>jB.k3 fu x6 x9 t.1 t.2.1 t.2.2.1 t.2.2.2)<|if(wk .i64 (x7 - x10))<=38 then(chk (0<=(wk .i64 (x7 - x10)))<|jB.k3 fu x6 x9 x10 (oh .u64 x8 (wk .i64 (x7 - x10))) x11 false)else chk (0<=(wk .i64 ((wk .i64 (x7 - x10)) - 38)))<|jB.k3 fu x6 x9 (wk .i64 (x7 - 38)) (oh .u64 x8 38) (jG .u64 x11 (wk .i64 ((wk .i64 (x7 - x10)) - 38))) (!(decide ((oh .u64 (jG .u64 x11 (wk .i64 ((wk .i64 (x7 - x10)) - 38))) (wk .i64 ((wk .i64 (x7 - x10)) - 38)))=x11)))
def jB.k1(fu:Nat)(x4:qL)(x5:qL):Option Int:=
  jn 2 () (λ(t:Bool×Int×Int×Bool×Int×Int)=>jB.k2 fu t.1 t.2.1 t.2.2.1 t.2.2.2.1 t.2.2.2.2.1 t.2.2.2.2.2)<|if x4.fexp<x5.fexp then(jB.k2 fu x5.fneg x5.fexp x5.fsig x4.fneg x4.fexp x4.fsig)else jB.k2 fu x4.fneg x4.fexp x4.fsig x5.fneg x5.fexp x5.fsig
def jB(fu:Nat)(x1:Int)(x2:Int)(x3:Int):Option Int:=
  chk (x1=0)<|(xJ fu x2).bind λx4=>(xJ fu x3).bind λx5=>jn 1 () (λ(t:Unit)=>jB.k1 fu x4 x5)<|if x4.fnan=true then(some 2143289344)else if x5.fnan=true then(some 2143289344)else if x4.finf=true then(if x5.finf=true then(if(x4.fneg==x5.fneg)=true then(some x2)else some 2143289344)else some x2)else if x5.finf=true then(some x3)else if x4.fsig=0 then(if x5.fsig=0 then(if x2=x3 then(some x2)else(CP fu 0).bind λx21=>some x21)else jB.k1 fu x4 x5)else jB.k1 fu x4 x5
def CJ(fu:Nat)(x1:Int)(x2:Int):Option Int:=
  (jB fu 0 x1 x2).bind λx3=>some x3
def uF.k1(fu:Nat)(x4:qL)(x5:qL):Option Int:=
  (eG fu 0 (!(x4.fneg==x5.fneg)) (wk .i64 (x4.fexp+x5.fexp)) (wk .u64 (x4.fsig*x5.fsig)) false).bind λx6=>some x6
def uF(fu:Nat)(x1:Int)(x2:Int)(x3:Int):Option Int:=
  chk (x1=0)<|(xJ fu x2).bind λx4=>(xJ fu x3).bind λx5=>jn 1 () (λ(t:Unit)=>uF.k1 fu x4 x5)<|if x4.fnan=true then(some 2143289344)else if x5.fnan=true then(some 2143289344)else if x4.finf=true then(if x5.finf=true then((oD fu (!(x4.fneg==x5.fneg))).bind λx7=>some (uQ .u32 x7 2139095040))else if x5.fsig=0 then(some 2143289344)else(oD fu (!(x4.fneg==x5.fneg))).bind λx8=>some (uQ .u32 x8 2139095040))else if x5.finf=true then(if x4.fsig=0 then(some 2143289344)else(oD fu (!(x4.fneg==x5.fneg))).bind λx9=>some (uQ .u32 x9 2139095040))else uF.k1 fu x4 x5
def CO(fu:Nat)(x1:Int)(x2:Int):Option Int:=
  (uF fu 0 x1 x2).bind λx3=>some x3
def fZ.L1(fu:Nat)(x2:dh)(x9:Int)(x12:List Int)(x13:List Int)(x14:List Int)(x15:List Bool)(x21:List Int)(x22:List Int)(x23:List Bool)(x29:List Int)(nx1:(List Int)→(List Int)→(List Bool)→Int→Option ((List aj)×Int))(x44:List Int)(x45:List Int)(x46:List Bool)(x47:Int):Option ((List aj)×Int):=
  chk (x13.length=x44.length)<|chk (x14.length=x45.length)<|chk (x15.length=x46.length)<|if x47<(x29.length:Int)then((at? x29 x47).bind λx62=>if x9=9 then((at? x23 x47).bind λx63=>chk (0<=x62/\x62<(x46.length:Int))<|nx1 x44 x45 (x46.set x62.toNat x63) (wk .i64 (x47+1)))else if x9=7 then(if x2.fMode=4 then((at? x45 x62).bind λx64=>(at? x22 x47).bind λx65=>chk (0<=x62/\x62<(x45.length:Int))<|nx1 x44 (x45.set x62.toNat (wk .i64 (x64+x65))) x46 (wk .i64 (x47+1)))else if x2.fMode=5 then((at? x45 x62).bind λx66=>(at? x22 x47).bind λx67=>chk (0<=x62/\x62<(x45.length:Int))<|nx1 x44 (x45.set x62.toNat (wk .i64 (x66*x67))) x46 (wk .i64 (x47+1)))else(at? x22 x47).bind λx68=>chk (0<=x62/\x62<(x45.length:Int))<|nx1 x44 (x45.set x62.toNat x68) x46 (wk .i64 (x47+1)))else if x2.fMode=4 then((at? x44 x62).bind λx69=>(at? x21 x47).bind λx70=>(CJ fu x69 x70).bind λx71=>chk (0<=x62/\x62<(x44.length:Int))<|nx1 (x44.set x62.toNat x71) x45 x46 (wk .i64 (x47+1)))else if x2.fMode=5 then((at? x44 x62).bind λx72=>(at? x21 x47).bind λx73=>(CO fu x72 x73).bind λx74=>chk (0<=x62/\x62<(x44.length:Int))<|nx1 (x44.set x62.toNat x74) x45 x46 (wk .i64 (x47+1)))else(at? x21 x47).bind λx75=>chk (0<=x62/\x62<(x44.length:Int))<|nx1 (x44.set x62.toNat x75) x45 x46 (wk .i64 (x47+1)))else some ([aj.mk x9 x12 x44 x45 x46],0)
def fZ.W1(fu:Nat)(x2:dh)(x9:Int)(x12:List Int)(x13:List Int)(x14:List Int)(x15:List Bool)(x21:List Int)(x22:List Int)(x23:List Bool)(x29:List Int)(x44:List Int)(x45:List Int)(x46:List Bool)(x47:Int):Option ((List aj)×Int):=
  aT (λnext s=>fZ.L1 fu x2 x9 x12 x13 x14 x15 x21 x22 x23 x29 (λx44 x45 x46 x47=>next (x44,x45,x46,x47)) s.1 s.2.1 s.2.2.1 s.2.2.2) fu (x44,x45,x46,x47)
def fZ.k2(fu:Nat)(x2:dh)(x9:Int)(x10:Int)(x11:Int)(x12:List Int)(x13:List Int)(x14:List Int)(x15:List Bool)(x16:List Int)(x17:List Int)(x18:List Int)(x19:List Bool)(x20:List Int)(x21:List Int)(x22:List Int)(x23:List Bool)(x25:(List aP)×Int)(x26:Int×Int)(x27:List Int):Option ((List aj)×Int):=
  (at? x25.1 0).bind λx28=>(iO fu (aV.mk 52 x2 ([aj.mk x9 x12 x13 x14 x15,aj.mk x10 x16 x17 x18 x19,aj.mk x11 x20 x21 x22 x23]) (aj.mk x9 x12 x13 x14 x15) x26.1) x27).bind λx29=>fZ.W1 fu x2 x9 x12 x13 x14 x15 x21 x22 x23 x29 x13 x14 x15 0
def fZ.k1(fu:Nat)(x2:dh)(x4:Int)(x5:aj)(x6:aj)(x7:aj)(x9:Int)(x10:Int)(x11:Int)(x12:List Int)(x13:List Int)(x14:List Int)(x15:List Bool)(x16:List Int)(x17:List Int)(x18:List Int)(x19:List Bool)(x20:List Int)(x21:List Int)(x22:List Int)(x23:List Bool):Option ((List aj)×Int):=
  (lX fu ([x5,x6,x7])).bind λx24=>(kP fu 52 x2 x24 x4).bind λx25=>if x25.2=0 then((og fu x2.fAxis (x12.length:Int)).bind λx26=>jn 2 () (λ(t:List Int)=>fZ.k2 fu x2 x9 x10 x11 x12 x13 x14 x15 x16 x17 x18 x19 x20 x21 x22 x23 x25 x26 t)<|(jX fu (aV.mk 52 x2 ([aj.mk x9 x12 x13 x14 x15,aj.mk x10 x16 x17 x18 x19,aj.mk x11 x20 x21 x22 x23]) (aj.mk x9 x12 x13 x14 x15) x26.1)).bind λx76=>if x76.2=true then(fZ.k2 fu x2 x9 x10 x11 x12 x13 x14 x15 x16 x17 x18 x19 x20 x21 x22 x23 x25 x26 x76.1)else some ([],11))else some ([],x25.2)
def fZ.k5(fu:Nat)(x2:dh)(x4:Int)(x5:aj)(x6:aj)(x7:aj)(x79:aj)(x82:aj)(x83:Nat)(x84:Int):Option ((List aj)×Int):=
  (jI fu x7).bind λx85=>un x83 λx86=>fZ.k1 fu x2 x4 x5 x6 x7 x79.fType x82.fType x85.fType x79.fDims x79.fF x79.fI x79.fB x82.fDims x82.fF x82.fI x82.fB x85.fDims x85.fF x85.fI x85.fB
def fZ.k4(fu:Nat)(x2:dh)(x4:Int)(x5:aj)(x6:aj)(x7:aj)(x79:aj)(x80:Nat)(x81:Int):Option ((List aj)×Int):=
  (jI fu x6).bind λx82=>un x80 λx83=>jn 5 () (λ(t:Int)=>fZ.k5 fu x2 x4 x5 x6 x7 x79 x82 x83 t)<|if x7.fType=0 then(none)else(jY fu x7).bind λx87=>if x87=0 then(fZ.k5 fu x2 x4 x5 x6 x7 x79 x82 x83 x87)else some ([],x87)
def fZ.k3(fu:Nat)(x2:dh)(x4:Int)(x5:aj)(x6:aj)(x7:aj)(x77:Nat)(x78:Int):Option ((List aj)×Int):=
  (jI fu x5).bind λx79=>un x77 λx80=>jn 4 () (λ(t:Int)=>fZ.k4 fu x2 x4 x5 x6 x7 x79 x80 t)<|if x6.fType=0 then(none)else(jY fu x6).bind λx88=>if x88=0 then(fZ.k4 fu x2 x4 x5 x6 x7 x79 x80 x88)else some ([],x88)
def fZ(fu:Nat)(x1:Int)(x2:dh)(x3:List aj)(x4:Int):Option ((List aj)×Int):=
  chk (x1=52)<|l3 x3 λx5 x6 x7=>(ut fu 52).bind λx8=>if x8=true then(jn 1 () (λ(t:Int×Int×Int×(List Int)×(List Int)×(List Int)×(List Bool)×(List Int)×(List Int)×(List Int)×(List Bool)×(List Int)×(List Int)×(List Int)×(List Bool))=>fZ.k1 fu x2 x4 x5 x6 x7 t.1 t.2.1 t.2.2.1 t.2.2.2.1 t.2.2.2.2.1 t.2.2.2.2.2.1 t.2.2.2.2.2.2.1 t.2.2.2.2.2.2.2.1 t.2.2.2.2.2.2.2.2.1 t.2.2.2.2.2.2.2.2.2.1 t.2.2.2.2.2.2.2.2.2.2.1 t.2.2.2.2.2.2.2.2.2.2.2.1 t.2.2.2.2.2.2.2.2.2.2.2.2.1 t.2.2.2.2.2.2.2.2.2.2.2.2.2.1 t.2.2.2.2.2.2.2.2.2.2.2.2.2.2)<|un fu λx77=>jn 3 () (λ(t:Int)=>fZ.k3 fu x2 x4 x5 x6 x7 x77 t)<|if x5.fType=0 then(none)else(jY fu x5).bind λx89=>if x89=0 then(fZ.k3 fu x2 x4 x5 x6 x7 x77 x89)else some ([],x89))else some ([],1)
def zu(fu:Nat)(x1:Int)(x2:dh)(x3:List aj)(x4:Int):Option ((List aj)×Int):=(dW fu x1 x2 x3 x4).or (fZ fu x1 x2 x3 x4)
def cZ.k3(fu:Nat)(x4:(List aj)×Int):Option Bool:=
  (at? x4.1 0).bind λx7=>(gp fu x7.fDims).bind λx8=>if x8.2=0 then(some (decide (x8.1=(wk .i64 ((wk .i64 ((x7.fF.length:Int)+(x7.fI.length:Int)))+(x7.fB.length:Int))))))else some false
def cZ.k4(fu:Nat)(nx1:Int→Option Bool)(x19:Int)(x31:Bool):Option Bool:=
  if x31=true then(nx1 (wk .i64 (x19+1)))else some false
def cZ.L2(fu:Nat)(nx1:Int→Option Bool)(x6:aj)(x19:Int)(x30:aj)(nx2:Bool→Int→Option Bool)(x34:Bool)(x35:Int):Option Bool:=
  if x35<((x6.fI.length:Nat):Int)then(if x34=true then(nx2 true (wk .i64 (x35+1)))else(at? x6.fI x35).bind λx38=>(at? x30.fI x19).bind λx39=>nx2 (decide (x38=x39)) (wk .i64 (x35+1)))else cZ.k4 fu nx1 x19 x34
def cZ.W2(fu:Nat)(nx1:Int→Option Bool)(x6:aj)(x19:Int)(x30:aj)(x34:Bool)(x35:Int):Option Bool:=
  aT (λnext s=>cZ.L2 fu nx1 x6 x19 x30 (λx34 x35=>next (x34,x35)) s.1 s.2) fu (x34,x35)
def cZ.L1(fu:Nat)(x4:(List aj)×Int)(x6:aj)(nx1:Int→Option Bool)(x19:Int):Option Bool:=
  (at? x4.1 0).bind λx30=>if x19<(x30.fI.length:Int)then(jn 4 () (λ(t:Bool)=>cZ.k4 fu nx1 x19 t)<|cZ.W2 fu nx1 x6 x19 x30 false 0)else cZ.k3 fu x4
def cZ.W1(fu:Nat)(x4:(List aj)×Int)(x6:aj)(x19:Int):Option Bool:=
  aT (λnext s=>cZ.L1 fu x4 x6 next s) fu x19
def cZ.k2(fu:Nat)(x4:(List aj)×Int)(x6:aj):Option Bool:=
  jn 3 () (λ(t:Unit)=>cZ.k3 fu x4)<|cZ.W1 fu x4 x6 0
def cZ.k5(fu:Nat)(x1:Int)(x4:(List aj)×Int)(x6:aj)(x40:Bool):Option Bool:=
  if x40=true then((at? x4.1 0).bind λx41=>(Ce fu x41).bind λx42=>(dZ fu x6 (aj.mk x42.fType x6.fDims x42.fF x42.fI x42.fB)).bind λx43=>some x43)else if x1=45 then(cZ.k2 fu x4 x6)else if x1=49 then(cZ.k2 fu x4 x6)else if x1=50 then(cZ.k2 fu x4 x6)else if x1=54 then(cZ.k2 fu x4 x6)else if x1=55 then(cZ.k2 fu x4 x6)else if x1=64 then(cZ.k2 fu x4 x6)else if x1=63 then(cZ.k2 fu x4 x6)else some true
def cZ.k1(fu:Nat)(x1:Int)(x3:List aj)(x4:(List aj)×Int):Option Bool:=
  (at? x3 0).bind λx5=>(qh fu x5).bind λx6=>jn 2 () (λ(t:Unit)=>cZ.k2 fu x4 x6)<|jn 5 () (λ(t:Bool)=>cZ.k5 fu x1 x4 x6 t)<|if x1=46 then(cZ.k5 fu x1 x4 x6 true)else if x1=58 then(cZ.k5 fu x1 x4 x6 true)else if x1=56 then(cZ.k5 fu x1 x4 x6 true)else cZ.k5 fu x1 x4 x6 (decide (x1=57))
def cZ(fu:Nat)(x1:Int)(x2:dh)(x3:List aj):Option Bool:=
  (zu fu x1 x2 x3 1).bind λx4=>jn 1 () (λ(t:Unit)=>cZ.k1 fu x1 x3 x4)<|if x4.2=0 then(if(x4.1.length:Int)=1 then(if(x3.length:Int)=0 then(some true)else cZ.k1 fu x1 x3 x4)else some true)else some true
end Go.Av
