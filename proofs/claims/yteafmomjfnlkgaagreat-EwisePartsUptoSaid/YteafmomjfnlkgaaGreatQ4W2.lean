/- The walks of the plain functions, part 2. Made by a program of mine. Conditions: none. -/
import Derived.Test.YteafmomjfnlkgaaGreatQ4W1
set_option linter.unusedVariables false
set_option linter.unusedSimpArgs false
set_option linter.defProp false
set_option maxRecDepth 20000
set_option maxHeartbeats 20000000
open Go Go.Proofs
open Tryz (prog)
namespace Go.Av
variable {fu:Nat} {cp:af}
open Aw (uj uw uH tY tJ ul tV vI uh uX wu tq tu uQ uG tN vz uV uo tK vJ vU uF vF um uN uy uq uO vw uY vK vN uK uf uT ug vO uP uC ui tX tZ vV wo uA ww tH)
def Ee:TD:=[(0,[10]),(0,[]),(0,[21,22]),(0,[3,4,11]),(0,[24,25,26,27,28,29]),(0,[14,15,16,99,111]),(0,[30,31]),(0,[]),(0,[33,34,35,36,37,38]),(0,[]),(0,[39,40,41]),(0,[]),(0,[43,44]),(0,[]),(0,[45,46,47]),(0,[]),(0,[48,49,50,51,52]),(0,[]),(0,[]),(0,[]),(0,[53]),(0,[]),(0,[54,55,56]),(0,[]),(0,[57,58,59,60,61]),(0,[]),(0,[62,63,64]),(0,[]),(0,[65,66,67,68,69,70,71,72,73,74,75]),(0,[]),(0,[18,76,77,78,79,80,81,82]),(0,[]),(0,[17,83,84,85,86,87]),(0,[]),(0,[89,90]),(0,[]),(0,[91,92,93,94]),(0,[]),(0,[96,97,98]),(0,[]),(0,[]),(0,[]),(0,[]),(0,[]),(0,[100,101,102,103,104,105,106,107]),(0,[]),(0,[109,110]),(0,[]),(0,[112]),(0,[]),(0,[113]),(0,[]),(0,[114,115,116,117,118]),(0,[]),(0,[120,121]),(0,[]),(0,[2,12,122,123,124]),(0,[]),(0,[125]),(0,[]),(0,[127,128]),(0,[]),(0,[129]),(0,[]),(0,[131,132,133]),(0,[]),(0,[13,19,134,135,136,137,138,139]),(0,[]),(0,[140]),(0,[]),(0,[142,143,144]),(0,[]),(0,[0,1,20,145,146,147,148,149]),(0,[]),(0,[]),(0,[]),(0,[]),(0,[]),(0,[]),(0,[]),(0,[]),(0,[]),(0,[]),(0,[]),(0,[]),(0,[]),(0,[]),(0,[]),(0,[]),(0,[]),(0,[]),(0,[]),(0,[]),(0,[]),(0,[]),(0,[]),(0,[]),(0,[]),(0,[]),(0,[]),(0,[]),(0,[]),(0,[]),(0,[]),(0,[]),(0,[]),(0,[]),(0,[]),(0,[]),(0,[]),(0,[]),(0,[]),(0,[]),(0,[]),(0,[]),(0,[]),(0,[]),(0,[]),(0,[]),(0,[]),(0,[]),(0,[]),(0,[]),(0,[]),(0,[]),(0,[]),(0,[]),(0,[]),(0,[]),(0,[]),(0,[]),(0,[]),(0,[]),(0,[]),(0,[]),(0,[]),(0,[]),(0,[]),(0,[]),(0,[]),(0,[]),(0,[]),(0,[]),(0,[]),(0,[]),(0,[]),(0,[]),(0,[]),(0,[]),(0,[]),(0,[]),(0,[]),(0,[]),(0,[]),(0,[]),(0,[]),(0,[]),(0,[]),(0,[]),(0,[]),(0,[]),(0,[]),(0,[]),(0,[]),(0,[]),(0,[]),(0,[]),(0,[]),(0,[]),(0,[]),(0,[]),(0,[]),(0,[]),(0,[]),(0,[]),(0,[]),(0,[]),(0,[]),(0,[]),(0,[]),(0,[]),(0,[]),(0,[]),(0,[]),(0,[]),(0,[]),(0,[]),(0,[]),(0,[]),(0,[]),(0,[]),(0,[]),(0,[]),(0,[]),(0,[]),(0,[]),(0,[]),(0,[]),(0,[]),(0,[]),(0,[]),(0,[]),(0,[]),(0,[]),(0,[]),(0,[]),(0,[]),(0,[]),(0,[]),(0,[]),(0,[]),(0,[]),(0,[]),(0,[]),(0,[]),(0,[]),(0,[]),(0,[]),(0,[]),(0,[]),(0,[]),(0,[]),(0,[]),(1,[])]
def amq:=Da (aC Ee.eq_1)
theorem TZ:au prog 313 Ee=some ⟨ae Tryz.f313,[.tmp 10],[23]⟩:=fA Tryz.func313
def e313:Int->AV:=λr=> .v (.int .u32 r)
structure FO (fu:Nat) (cp:af):Prop where
 ap: ∀ {a0:Int} {r},ig fu a0=some r->cp 361 [.v (.int .u64 a0)]=some (.v (.int .i64 r))
noncomputable def Bv(fu:Nat):Cm prog Int Int:=⟨361,λt=>[.v (.int .u64 t)],λt=>ig fu t,Qa,λt b h=>azB fu t b h,Zi⟩
theorem G9(H:aI cp (Bv fu).ct):FO fu cp:=⟨λ {a0 r} h=>(Bv fu).at H a0 r h⟩
structure ajA (fu:Nat) (cp:af):Prop where
 ap: ∀ {a0:Int} {a1:Bool} {r},wV fu a0 a1=some r->cp 368 [.v (.int .i64 a0),.v (.bool a1)]=some (.v (.int .u32 r))
noncomputable def XZ(fu:Nat):Cm prog (Int×Bool) Int:=⟨368,λt=>[.v (.int .i64 t.1),.v (.bool t.2)],λt=>wV fu t.1 t.2,Rt,λt b h=>anm fu t.1 t.2 b h,Zi⟩
theorem apR(H:aI cp (XZ fu).ct):ajA fu cp:=⟨λ {a0 a1 r} h=>(XZ fu).at H (a0,a1) r h⟩
structure alC (fu:Nat) (cp:af):Prop where
 ap: ∀ {a0:Int} {a1:Bool} {r},mZ fu a0 a1=some r->cp 369 [.v (.int .i64 a0),.v (.bool a1)]=some (.v (.int .u32 r))
noncomputable def aao(fu:Nat):Cm prog (Int×Bool) Int:=⟨369,λt=>[.v (.int .i64 t.1),.v (.bool t.2)],λt=>mZ fu t.1 t.2,JS,λt b h=>aBr fu t.1 t.2 b h,Zi⟩
theorem asn(H:aI cp (aao fu).ct):alC fu cp:=⟨λ {a0 a1 r} h=>(aao fu).at H (a0,a1) r h⟩
def bT.j3:LJ 3 56 Unit Int:=⟨λr t e=>[(0,er e 0),(1,er e 1),(2,er e 2),(12,er e 12),(13,.v (.int .u64 t))],λr t h=>[]⟩
def bT.j4:LJ 4 30 Unit Bool:=⟨λr t e=>[(0,er e 0),(1,er e 1),(2,er e 2),(3,er e 3),(4,er e 4),(11,er e 11),(12,er e 12),(13,er e 13),(14,.v (.bool t)),(15,er e 15),(16,er e 16),(17,er e 17),(18,er e 18)],λr t h=>[]⟩
def bT.j2:LJ 2 42 Unit (Int×Bool×Bool×Bool):=⟨λr t e=>[(0,er e 0),(1,er e 1),(2,er e 2),(12,er e 12),(13,.v (.int .u64 t.1)),(14,.v (.bool t.2.1)),(15,.v (.bool t.2.2.1)),(16,.v (.bool t.2.2.2))],λr t h=>[]⟩
def bT.j1:LJ 1 16 Unit Unit:=⟨λr t e=>[(0,er e 0),(1,er e 1),(2,er e 2),(3,er e 3),(4,er e 4),(11,er e 11)],λr t h=>[]⟩
open bT in
theorem aq6(cp:af)(fu:Nat)(x1:Int)(x2:Bool)(x3:Int)(x4:Int)(x5:Bool)(H1:FO fu cp)(H2:ajA fu cp)(H3:zV fu cp)(H4:alC fu cp):J (go prog ak cp aj 0 [] Ee fu (fin prog [.tmp 10] [23]) (ae Tryz.f313) (ay 0 [.v (.int .i64 x1),.v (.bool x2),.v (.int .i64 x3),.v (.int .u64 x4),.v (.bool x5)]) [] []) (bT fu x1 x2 x3 x4 x5) e313:=by
 unfold bT e313
 have da:=amq
 conv=>arg 1;simp only[ae,Tryz.f313]
 have z0:=amq
 exact Wk
theorem aIi(fu:Nat)(x1:Int)(x2:Bool)(x3:Int)(x4:Int)(x5:Bool)(r)(h:bT fu x1 x2 x3 x4 x5=some r):aA prog 313 [.v (.int .i64 x1),.v (.bool x2),.v (.int .i64 x3),.v (.int .u64 x4),.v (.bool x5)] (e313 r):=aH mixed [(Bv fu).ct,(XZ fu).ct,(xX fu).ct,(aao fu).ct] (ids:=[361,368,364,369]) rfl (by decide) TZ (C:=ak) (ci:=λcp=>aj) (λcp ok=>aB) (λcp H=>aq6 cp fu x1 x2 x3 x4 x5 (G9 H.1) (apR H.2.1) (Ej H.2.2.1) (asn H.2.2.2.1)) h
def yN:TD:=[(0,[4]),(0,[9]),(0,[10]),(0,[]),(0,[]),(0,[]),(0,[12,13]),(0,[]),(0,[14,15,16,17,18,19,20,21,22,23,24]),(0,[]),(0,[26]),(0,[]),(0,[27,28,29,30,31,32]),(0,[]),(9,[33,34,35,36,37,38,39,40]),(0,[]),(0,[41]),(0,[]),(0,[43]),(0,[]),(0,[0]),(0,[]),(0,[44,45]),(0,[]),(0,[47,48,49,50,51]),(0,[]),(0,[53,54,55]),(0,[]),(0,[]),(0,[]),(0,[57,58,59]),(0,[]),(0,[]),(0,[]),(0,[1,7,8,60,61,62,63,64,65,66]),(0,[]),(0,[68,69]),(0,[]),(0,[5,6,70,71,72,73])]
def Vp:=Da (aC yN.eq_1)
noncomputable def y7:Code:=ae Tryz.f300
theorem UZ{C:bn}{cp:af}{ci:bg}{lvl:Nat}{prot:List Id}{D:TD}{n:Nat}{K:KK}{e:Env}{h:Heap}{fs:List Fr}:go prog C cp ci lvl prot D n K y7 e h fs=go prog C cp ci lvl prot D n K (ae Tryz.f300) e h fs:=rfl
theorem aah:au prog 300 yN=some ⟨y7,[.tmp 4],[23]⟩:=fA Tryz.func300
def Vy:TD:=zz [[2],[],[0,3,4]]
def acd:=Da (aC Vy.eq_1)
theorem aMC:au prog 199 Vy=some ⟨ae Tryz.f199,[.tmp 2],[23]⟩:=fA Tryz.func199
def e199:Int->AV:=λr=> .v (.int .u32 r)
structure zg (fu:Nat) (cp:af):Prop where
 ap: ∀ {a0:Int} {r},nG fu a0=some r->cp 233 [.v (.int .u32 a0)]=some (.agg [.v (.bool r.fneg),.v (.int .i64 r.fexp),.v (.int .u64 r.fsig)])
noncomputable def wB(fu:Nat):Cm prog Int dQ:=⟨233,λt=>[.v (.int .u32 t)],λt=>nG fu t,e233,λt b h=>apr fu t b h,Zi⟩
theorem BI(H:aI cp (wB fu).ct):zg fu cp:=⟨λ {a0 r} h=>(wB fu).at H a0 r h⟩
structure qL (fu:Nat) (cp:af):Prop where
 ap: ∀ {a0:Int} {r},jb fu a0=some r->cp 126 [.v (.int .u32 a0)]=some (.v (.bool r))
noncomputable def qw(fu:Nat):Cm prog Int Bool:=⟨126,λt=>[.v (.int .u32 t)],λt=>jb fu t,e126,λt b h=>aCk fu t b h,Zi⟩
theorem rW(H:aI cp (qw fu).ct):qL fu cp:=⟨λ {a0 r} h=>(qw fu).at H a0 r h⟩
structure acv (fu:Nat) (cp:af):Prop where
 ap: ∀ {a0:Bool} {a1:Int} {a2:Bool} {r},BR fu a0 a1 a2=some r->cp 301 [.v (.bool a0),.v (.int .i64 a1),.v (.bool a2)]=some (.v (.bool r))
noncomputable def Un(fu:Nat):Cm prog (Bool×Int×Bool) Bool:=⟨301,λt=>[.v (.bool t.1),.v (.int .i64 t.2.1),.v (.bool t.2.2)],λt=>BR fu t.1 t.2.1 t.2.2,e301,λt b h=>aAL fu t.1 t.2.1 t.2.2 b h,Zi⟩
theorem avN(H:aI cp (Un fu).ct):acv fu cp:=⟨λ {a0 a1 a2 r} h=>(Un fu).at H (a0,a1,a2) r h⟩
structure ql (fu:Nat) (cp:af):Prop where
 ap: ∀ {a0:Int} {a1:Bool} {a2:Int} {a3:Int} {a4:Bool} {r},bT fu a0 a1 a2 a3 a4=some r->cp 313 [.v (.int .i64 a0),.v (.bool a1),.v (.int .i64 a2),.v (.int .u64 a3),.v (.bool a4)]=some (.v (.int .u32 r))
noncomputable def pG(fu:Nat):Cm prog (Int×Bool×Int×Int×Bool) Int:=⟨313,λt=>[.v (.int .i64 t.1),.v (.bool t.2.1),.v (.int .i64 t.2.2.1),.v (.int .u64 t.2.2.2.1),.v (.bool t.2.2.2.2)],λt=>bT fu t.1 t.2.1 t.2.2.1 t.2.2.2.1 t.2.2.2.2,e313,λt b h=>aIi fu t.1 t.2.1 t.2.2.1 t.2.2.2.1 t.2.2.2.2 b h,Zi⟩
theorem rC(H:aI cp (pG fu).ct):ql fu cp:=⟨λ {a0 a1 a2 a3 a4 r} h=>(pG fu).at H (a0,a1,a2,a3,a4) r h⟩
def iE.j3:LJ 3 38 Unit Int:=⟨λr t e=>[(5,er e 5),(6,.v (.int .u64 t))],λr t h=>[((1,5,0),hr h (1,5,0))]⟩
def iE.j2:LJ 2 34 Unit Int:=⟨λr t e=>[(1,er e 1),(5,er e 5),(6,er e 6),(7,er e 7),(8,.v (.int .i64 t))],λr t h=>[((1,5,0),hr h (1,5,0))]⟩
def iE.j1:LJ 1 12 Unit Unit:=⟨λr t e=>[(0,er e 0),(1,er e 1),(5,er e 5)],λr t h=>[((1,5,0),hr h (1,5,0))]⟩
open iE in
theorem aHS(cp:af)(fu:Nat)(x1:Int)(H1:jd fu cp)(H2:zg fu cp)(H3:qL fu cp)(H4:acv fu cp)(H5:ql fu cp):J (go prog (bH [300]) cp (dO prog (bH [300]) cp aj fu 300 yN ⟨y7,[.tmp 4],[23]⟩ aj) 0 [] Vy fu (fin prog [.tmp 2] [23]) (ae Tryz.f199) (ay 0 [.v (.int .u32 x1)]) [] []) (iE fu x1) e199:=by
 unfold iE e199
 have da:=acd
 conv=>arg 1;simp only[ae,Tryz.f199]
 have z0:=acd
 have z1:=Vp
 have z2:=Tryz.f300.eq_1
 have z3:= @UZ
 have z4:=RI
 have z5:=iO
 have z6:= @ae.eq_1
 exact Wk
theorem awi(fu:Nat)(x1:Int)(r)(h:iE fu x1=some r):aA prog 199 [.v (.int .u32 x1)] (e199 r):=aH mixed [(iY fu).ct,(wB fu).ct,(qw fu).ct,(Un fu).ct,(pG fu).ct] (ids:=[124,233,126,301,313]) rfl (by decide) aMC (C:=(bH [300])) (ci:=λcp=>(dO prog (bH [300]) cp aj fu 300 yN ⟨y7,[.tmp 4],[23]⟩ aj)) (λcp ok=>(iF mixed ok aB aah aB)) (λcp H=>aHS cp fu x1 (u124 H.1) (BI H.2.1) (rW H.2.2.1) (avN H.2.2.2.1) (rC H.2.2.2.2.1)) h
def Wq:TD:=zz [[1,2,6],[],[0,7,8]]
def acA:=Da (aC Wq.eq_1)
theorem aCp:au prog 302 Wq=some ⟨ae Tryz.f302,[.tmp 6],[4]⟩:=fA Tryz.func302
def e302:Bool->AV:=λr=> .v (.bool r)
theorem at7(cp:af)(fu:Nat)(x1:Bool)(x2:Int)(x3:Bool):J (go prog ak cp aj 0 [] Wq fu (fin prog [.tmp 6] [4]) (ae Tryz.f302) (ay 0 [.v (.bool x1),.v (.int .i64 x2),.v (.bool x3)]) [] []) (Bi fu x1 x2 x3) e302:=by
 unfold Bi e302
 have da:=acA
 conv=>arg 1;simp only[ae,Tryz.f302]
 have z0:=acA
 exact Wk
theorem atn(fu:Nat)(x1:Bool)(x2:Int)(x3:Bool)(r)(h:Bi fu x1 x2 x3=some r):aA prog 302 [.v (.bool x1),.v (.int .i64 x2),.v (.bool x3)] (e302 r):=aH mixed [] (ids:=[]) rfl (by decide) aCp (C:=ak) (ci:=λcp=>aj) (λcp ok=>aB) (λcp H=>at7 cp fu x1 x2 x3) h
def Wu:TD:=zz [[2],[],[0,3,4]]
def ajq:=Da (aC Wu.eq_1)
theorem aGu:au prog 200 Wu=some ⟨ae Tryz.f200,[.tmp 2],[23]⟩:=fA Tryz.func200
def XP:Int->AV:=λr=> .v (.int .u32 r)
structure ahS (fu:Nat) (cp:af):Prop where
 ap: ∀ {a0:Bool} {a1:Int} {a2:Bool} {r},Bi fu a0 a1 a2=some r->cp 302 [.v (.bool a0),.v (.int .i64 a1),.v (.bool a2)]=some (.v (.bool r))
noncomputable def aaw(fu:Nat):Cm prog (Bool×Int×Bool) Bool:=⟨302,λt=>[.v (.bool t.1),.v (.int .i64 t.2.1),.v (.bool t.2.2)],λt=>Bi fu t.1 t.2.1 t.2.2,e302,λt b h=>atn fu t.1 t.2.1 t.2.2 b h,Zi⟩
theorem ay5(H:aI cp (aaw fu).ct):ahS fu cp:=⟨λ {a0 a1 a2 r} h=>(aaw fu).at H (a0,a1,a2) r h⟩
def iC.j3:LJ 3 38 Unit Int:=⟨λr t e=>[(5,er e 5),(6,.v (.int .u64 t))],λr t h=>[((1,5,0),hr h (1,5,0))]⟩
def iC.j2:LJ 2 34 Unit Int:=⟨λr t e=>[(1,er e 1),(5,er e 5),(6,er e 6),(7,er e 7),(8,.v (.int .i64 t))],λr t h=>[((1,5,0),hr h (1,5,0))]⟩
def iC.j1:LJ 1 12 Unit Unit:=⟨λr t e=>[(0,er e 0),(1,er e 1),(5,er e 5)],λr t h=>[((1,5,0),hr h (1,5,0))]⟩
open iC in
theorem aEi(cp:af)(fu:Nat)(x1:Int)(H1:jd fu cp)(H2:zg fu cp)(H3:qL fu cp)(H4:ahS fu cp)(H5:ql fu cp):J (go prog (bH [300]) cp (dO prog (bH [300]) cp aj fu 300 yN ⟨y7,[.tmp 4],[23]⟩ aj) 0 [] Wu fu (fin prog [.tmp 2] [23]) (ae Tryz.f200) (ay 0 [.v (.int .u32 x1)]) [] []) (iC fu x1) XP:=by
 unfold iC XP
 have da:=ajq
 conv=>arg 1;simp only[ae,Tryz.f200]
 have z0:=ajq
 have z1:=Vp
 have z2:=Tryz.f300.eq_1
 have z3:= @UZ
 have z4:=RI
 have z5:=iO
 have z6:= @ae.eq_1
 exact Wk
theorem aJc(fu:Nat)(x1:Int)(r)(h:iC fu x1=some r):aA prog 200 [.v (.int .u32 x1)] (XP r):=aH mixed [(iY fu).ct,(wB fu).ct,(qw fu).ct,(aaw fu).ct,(pG fu).ct] (ids:=[124,233,126,302,313]) rfl (by decide) aGu (C:=(bH [300])) (ci:=λcp=>(dO prog (bH [300]) cp aj fu 300 yN ⟨y7,[.tmp 4],[23]⟩ aj)) (λcp ok=>(iF mixed ok aB aah aB)) (λcp H=>aEi cp fu x1 (u124 H.1) (BI H.2.1) (rW H.2.2.1) (ay5 H.2.2.2.1) (rC H.2.2.2.2.1)) h
def abj:TD:=zz [[0,6],[],[1,2,7,8,9,10,11,12,13,14,15]]
def afa:=Da (aC abj.eq_1)
theorem aC2:au prog 303 abj=some ⟨ae Tryz.f303,[.tmp 6],[4]⟩:=fA Tryz.func303
def e303:Bool->AV:=λr=> .v (.bool r)
theorem aKB(cp:af)(fu:Nat)(x1:Bool)(x2:Int)(x3:Bool):J (go prog ak cp aj 0 [] abj fu (fin prog [.tmp 6] [4]) (ae Tryz.f303) (ay 0 [.v (.bool x1),.v (.int .i64 x2),.v (.bool x3)]) [] []) (yQ fu x1 x2 x3) e303:=by
 unfold yQ e303
 have da:=afa
 conv=>arg 1;simp only[ae,Tryz.f303]
 have z0:=afa
 exact Wk
theorem asD(fu:Nat)(x1:Bool)(x2:Int)(x3:Bool)(r)(h:yQ fu x1 x2 x3=some r):aA prog 303 [.v (.bool x1),.v (.int .i64 x2),.v (.bool x3)] (e303 r):=aH mixed [] (ids:=[]) rfl (by decide) aC2 (C:=ak) (ci:=λcp=>aj) (λcp ok=>aB) (λcp H=>aKB cp fu x1 x2 x3) h
def VO:TD:=zz [[2],[],[0,3,4]]
def ahN:=Da (aC VO.eq_1)
theorem i201:au prog 201 VO=some ⟨ae Tryz.f201,[.tmp 2],[23]⟩:=fA Tryz.func201
def JL:Int->AV:=λr=> .v (.int .u32 r)
structure ajf (fu:Nat) (cp:af):Prop where
 ap: ∀ {a0:Bool} {a1:Int} {a2:Bool} {r},yQ fu a0 a1 a2=some r->cp 303 [.v (.bool a0),.v (.int .i64 a1),.v (.bool a2)]=some (.v (.bool r))
noncomputable def YR(fu:Nat):Cm prog (Bool×Int×Bool) Bool:=⟨303,λt=>[.v (.bool t.1),.v (.int .i64 t.2.1),.v (.bool t.2.2)],λt=>yQ fu t.1 t.2.1 t.2.2,e303,λt b h=>asD fu t.1 t.2.1 t.2.2 b h,Zi⟩
theorem aot(H:aI cp (YR fu).ct):ajf fu cp:=⟨λ {a0 a1 a2 r} h=>(YR fu).at H (a0,a1,a2) r h⟩
def fM.j3:LJ 3 38 Unit Int:=⟨λr t e=>[(5,er e 5),(6,.v (.int .u64 t))],λr t h=>[((1,5,0),hr h (1,5,0))]⟩
def fM.j2:LJ 2 34 Unit Int:=⟨λr t e=>[(1,er e 1),(5,er e 5),(6,er e 6),(7,er e 7),(8,.v (.int .i64 t))],λr t h=>[((1,5,0),hr h (1,5,0))]⟩
def fM.j1:LJ 1 12 Unit Unit:=⟨λr t e=>[(0,er e 0),(1,er e 1),(5,er e 5)],λr t h=>[((1,5,0),hr h (1,5,0))]⟩
open fM in
theorem aq0(cp:af)(fu:Nat)(x1:Int)(H1:jd fu cp)(H2:zg fu cp)(H3:qL fu cp)(H4:ajf fu cp)(H5:ql fu cp):J (go prog (bH [300]) cp (dO prog (bH [300]) cp aj fu 300 yN ⟨y7,[.tmp 4],[23]⟩ aj) 0 [] VO fu (fin prog [.tmp 2] [23]) (ae Tryz.f201) (ay 0 [.v (.int .u32 x1)]) [] []) (fM fu x1) JL:=by
 unfold fM JL
 have da:=ahN
 conv=>arg 1;simp only[ae,Tryz.f201]
 have z0:=ahN
 have z1:=Vp
 have z2:=Tryz.f300.eq_1
 have z3:= @UZ
 have z4:=RI
 have z5:=iO
 have z6:= @ae.eq_1
 exact Wk
theorem akb(fu:Nat)(x1:Int)(r)(h:fM fu x1=some r):aA prog 201 [.v (.int .u32 x1)] (JL r):=aH mixed [(iY fu).ct,(wB fu).ct,(qw fu).ct,(YR fu).ct,(pG fu).ct] (ids:=[124,233,126,303,313]) rfl (by decide) i201 (C:=(bH [300])) (ci:=λcp=>(dO prog (bH [300]) cp aj fu 300 yN ⟨y7,[.tmp 4],[23]⟩ aj)) (λcp ok=>(iF mixed ok aB aah aB)) (λcp H=>aq0 cp fu x1 (u124 H.1) (BI H.2.1) (rW H.2.2.1) (aot H.2.2.2.1) (rC H.2.2.2.2.1)) h
def Xw:TD:=zz [[2],[0,4],[],[5],[],[],[6],[],[8,9],[],[10,11,12],[],[13,14,15,16],[],[18],[],[3,19]]
def agP:=Da (aC Xw.eq_1)
theorem aui:au prog 362 Xw=some ⟨ae Tryz.f362,[.tmp 2],[172]⟩:=fA Tryz.func362
def O6:Int->AV:=λr=> .v (.int .u64 r)
def jR.m1:LJ 1 6 Unit (Int×Int):=⟨λr s e=>[(0,er e 0),(3,.v (.int .u64 s.1)),(4,.v (.int .u64 s.2))],λr s h=>[]⟩
open jR in
theorem am2(cp:af)(fu:Nat)(x1:Int):J (go prog ak cp aj 0 [] Xw fu (fin prog [.tmp 2] [172]) (ae Tryz.f362) (ay 0 [.v (.int .u64 x1)]) [] []) (jR fu x1) O6:=by
 unfold jR O6
 have da:=agP
 conv=>arg 1;simp only[ae,Tryz.f362]
 have z0:=agP
 exact Wk
theorem aDD(fu:Nat)(x1:Int)(r)(h:jR fu x1=some r):aA prog 362 [.v (.int .u64 x1)] (O6 r):=aH mixed [] (ids:=[]) rfl (by decide) aui (C:=ak) (ci:=λcp=>aj) (λcp ok=>aB) (λcp H=>am2 cp fu x1) h
def U6:TD:=zz [[4],[],[10,11],[],[],[],[13,14,15],[],[16],[],[18,19,20],[],[],[],[22,23],[],[24],[],[1,25,26],[],[27,28,29,30],[],[31,32,33,34,35],[],[37,38],[],[39,40,41,42],[],[43,44],[],[0,5,6,7,8,45,46,47,48,49,50,51,52,53,54,55,56,57]]
def aeg:=Da (aC U6.eq_1)
theorem aAR:au prog 304 U6=some ⟨ae Tryz.f304,[.tmp 4],[23]⟩:=fA Tryz.func304
def e304:Int->AV:=λr=> .v (.int .u32 r)
structure alo (fu:Nat) (cp:af):Prop where
 ap: ∀ {a0:Int} {r},jR fu a0=some r->cp 362 [.v (.int .u64 a0)]=some (.v (.int .u64 r))
noncomputable def Ur(fu:Nat):Cm prog Int Int:=⟨362,λt=>[.v (.int .u64 t)],λt=>jR fu t,O6,λt b h=>aDD fu t b h,Zi⟩
theorem aF2(H:aI cp (Ur fu).ct):alo fu cp:=⟨λ {a0 r} h=>(Ur fu).at H a0 r h⟩
def oh.j1:LJ 1 26 Unit Int:=⟨λr t e=>[(0,er e 0),(5,er e 5),(6,.v (.int .i64 t))],λr t h=>[((0,5,0),hr h (0,5,0))]⟩
open oh in
theorem aKn(cp:af)(fu:Nat)(x1:Int)(x2:Int)(H1:jd fu cp)(H2:oV fu cp)(H3:qL fu cp)(H4:zg fu cp)(H5:FO fu cp)(H6:alo fu cp)(H7:ql fu cp):J (go prog ak cp aj 0 [] U6 fu (fin prog [.tmp 4] [23]) (ae Tryz.f304) (ay 0 [.v (.int .i64 x1),.v (.int .u32 x2)]) [] []) (oh fu x1 x2) e304:=by
 unfold oh e304
 have da:=aeg
 conv=>arg 1;simp only[ae,Tryz.f304]
 have z0:=aeg
 exact Wk
theorem awu(fu:Nat)(x1:Int)(x2:Int)(r)(h:oh fu x1 x2=some r):aA prog 304 [.v (.int .i64 x1),.v (.int .u32 x2)] (e304 r):=aH mixed [(iY fu).ct,(oC fu).ct,(qw fu).ct,(wB fu).ct,(Bv fu).ct,(Ur fu).ct,(pG fu).ct] (ids:=[124,140,126,233,361,362,313]) rfl (by decide) aAR (C:=ak) (ci:=λcp=>aj) (λcp ok=>aB) (λcp H=>aKn cp fu x1 x2 (u124 H.1) (pV H.2.1) (rW H.2.2.1) (BI H.2.2.2.1) (G9 H.2.2.2.2.1) (aF2 H.2.2.2.2.2.1) (rC H.2.2.2.2.2.2.1)) h
def Zc:TD:=zz [[2],[],[0,3,4]]
def aky:=Da (aC Zc.eq_1)
theorem ayK:au prog 202 Zc=some ⟨ae Tryz.f202,[.tmp 2],[23]⟩:=fA Tryz.func202
def aaD:Int->AV:=λr=> .v (.int .u32 r)
structure alJ (fu:Nat) (cp:af):Prop where
 ap: ∀ {a0:Int} {a1:Int} {r},oh fu a0 a1=some r->cp 304 [.v (.int .i64 a0),.v (.int .u32 a1)]=some (.v (.int .u32 r))
noncomputable def ZA(fu:Nat):Cm prog (Int×Int) Int:=⟨304,λt=>[.v (.int .i64 t.1),.v (.int .u32 t.2)],λt=>oh fu t.1 t.2,e304,λt b h=>awu fu t.1 t.2 b h,Zi⟩
theorem aKa(H:aI cp (ZA fu).ct):alJ fu cp:=⟨λ {a0 a1 r} h=>(ZA fu).at H (a0,a1) r h⟩
theorem aqL(cp:af)(fu:Nat)(x1:Int)(H1:alJ fu cp):J (go prog ak cp aj 0 [] Zc fu (fin prog [.tmp 2] [23]) (ae Tryz.f202) (ay 0 [.v (.int .u32 x1)]) [] []) (EM fu x1) aaD:=by
 unfold EM aaD
 have da:=aky
 conv=>arg 1;simp only[ae,Tryz.f202]
 have z0:=aky
 exact Wk
theorem avK(fu:Nat)(x1:Int)(r)(h:EM fu x1=some r):aA prog 202 [.v (.int .u32 x1)] (aaD r):=aH mixed [(ZA fu).ct] (ids:=[304]) rfl (by decide) ayK (C:=ak) (ci:=λcp=>aj) (λcp ok=>aB) (λcp H=>aqL cp fu x1 (aKa H.1)) h
def Fg:TD:=zz [[],[3,4],[6,7,8,9],[],[10,11,12],[],[0,13,14,15,16],[],[17,18,19,20,21,22],[],[24,25],[],[26,27,28],[],[29,30,31],[],[33,34],[],[35,36,37],[],[5,38]]
def acM:=Da (aC Fg.eq_1)
theorem VV:au prog 363 Fg=some ⟨ae Tryz.f363,[.cell 2 236],[236]⟩:=fA Tryz.func363
def PP:gI->AV:=λr=> .agg [.v (.bool r.fneg),.v (.bool r.fnan),.v (.bool r.finf),.v (.int .i64 r.fexp),.v (.int .u64 r.fsig)]
theorem aHy(cp:af)(fu:Nat)(x1:Int):J (go prog ak cp aj 0 [] Fg fu (fin prog [.cell 2 236] [236]) (ae Tryz.f363) (ay 0 [.v (.int .u32 x1)]) [] []) (nT fu x1) PP:=by
 unfold nT PP
 have da:=acM
 conv=>arg 1;simp only[ae,Tryz.f363]
 have z0:=acM
 exact Wk
theorem ayH(fu:Nat)(x1:Int)(r)(h:nT fu x1=some r):aA prog 363 [.v (.int .u32 x1)] (PP r):=aH mixed [] (ids:=[]) rfl (by decide) VV (C:=ak) (ci:=λcp=>aj) (λcp ok=>aB) (λcp H=>aHy cp fu x1) h
def RY:TD:=zz [[0],[],[4,5,6,7],[],[8,9,10,11,12],[],[3,13,14,15,16,17],[],[1,18]]
def acW:=Da (aC RY.eq_1)
theorem aMJ:au prog 365 RY=some ⟨ae Tryz.f365,[.cell 2 236],[236]⟩:=fA Tryz.func365
def JJ:gI->AV:=λr=> .agg [.v (.bool r.fneg),.v (.bool r.fnan),.v (.bool r.finf),.v (.int .i64 r.fexp),.v (.int .u64 r.fsig)]
theorem aLu(cp:af)(fu:Nat)(x1:gI)(H1:FO fu cp):J (go prog ak cp aj 0 [] RY fu (fin prog [.cell 2 236] [236]) (ae Tryz.f365) (ay 0 [.agg (rM x1)]) [] []) (wR fu x1) JJ:=by
 unfold wR JJ
 have da:=acW
 conv=>arg 1;simp only[ae,Tryz.f365]
 have z0:=acW
 exact Wk
theorem aut(fu:Nat)(x1:gI)(r)(h:wR fu x1=some r):aA prog 365 [.agg (rM x1)] (JJ r):=aH mixed [(Bv fu).ct] (ids:=[361]) rfl (by decide) aMJ (C:=ak) (ci:=λcp=>aj) (λcp ok=>aB) (λcp H=>aLu cp fu x1 (G9 H.1)) h
def Xd:TD:=[(0,[6]),(0,[10,11]),(0,[1,2,14,15,16,17]),(0,[]),(0,[18,19,20,21,22]),(0,[]),(18,[23,24,25,26,27,28,29,30,31,32,33,34,35,36,37,38]),(0,[]),(0,[40,41,42,43,44,45,46,47,48,49,50,51,52,53,54,55,56,57,58,59]),(0,[]),(0,[]),(0,[]),(0,[61,62,63,64,65]),(0,[]),(0,[66,67,68]),(0,[]),(0,[70,71,72,73,74]),(0,[]),(0,[75,76]),(0,[]),(4,[77,78,79,80]),(0,[]),(14,[81,82,83,84,85,86,87,88,89,90,91,92]),(0,[]),(0,[0,7,8,9,12,13,93,94,95,96,97,98,99,100,101,102,103,104])]
def agx:=Da (aC Xd.eq_1)
theorem apM:au prog 305 Xd=some ⟨ae Tryz.f305,[.tmp 6],[23]⟩:=fA Tryz.func305
def e305:Int->AV:=λr=> .v (.int .u32 r)
structure Kv (fu:Nat) (cp:af):Prop where
 ap: ∀ {a0:Int} {r},nT fu a0=some r->cp 363 [.v (.int .u32 a0)]=some (.agg [.v (.bool r.fneg),.v (.bool r.fnan),.v (.bool r.finf),.v (.int .i64 r.fexp),.v (.int .u64 r.fsig)])
noncomputable def Gj(fu:Nat):Cm prog Int gI:=⟨363,λt=>[.v (.int .u32 t)],λt=>nT fu t,PP,λt b h=>ayH fu t b h,Zi⟩
theorem Vz(H:aI cp (Gj fu).ct):Kv fu cp:=⟨λ {a0 r} h=>(Gj fu).at H a0 r h⟩
structure ajt (fu:Nat) (cp:af):Prop where
 ap: ∀ {a0:gI} {r},wR fu a0=some r->cp 365 [.agg (rM a0)]=some (.agg [.v (.bool r.fneg),.v (.bool r.fnan),.v (.bool r.finf),.v (.int .i64 r.fexp),.v (.int .u64 r.fsig)])
noncomputable def aab(fu:Nat):Cm prog gI gI:=⟨365,λt=>[.agg (rM t)],λt=>wR fu t,JJ,λt b h=>aut fu t b h,Zi⟩
theorem aCm(H:aI cp (aab fu).ct):ajt fu cp:=⟨λ {a0 r} h=>(aab fu).at H a0 r h⟩
def jk.j2:LJ 2 20 Unit Unit:=⟨λr t e=>[(0,er e 0),(7,er e 7),(8,er e 8),(9,er e 9)],λr t h=>[((0,7,0),bs (bs (hr h (0,7,0)) 1 (.v (.bool false))) 2 (.v (.bool false))),((0,8,0),bs (bs (hr h (0,8,0)) 1 (.v (.bool false))) 2 (.v (.bool false)))]⟩
def jk.j1:LJ 1 1 Unit (Bool×Bool×Bool×Bool):=⟨λr t e=>[(0,er e 0),(7,er e 7),(8,er e 8),(9,er e 9),(10,.v (.bool t.2.2.1)),(11,.v (.bool t.2.2.2))],λr t h=>[((0,7,0),bs (hr h (0,7,0)) 2 (.v (.bool t.1))),((0,8,0),bs (hr h (0,8,0)) 2 (.v (.bool t.2.1)))]⟩
open jk in
theorem aof(cp:af)(fu:Nat)(x1:Int)(x2:Int)(x3:Int)(H1:Kv fu cp)(H2:zV fu cp)(H3:ajt fu cp)(H4:ql fu cp):J (go prog ak cp aj 0 [] Xd fu (fin prog [.tmp 6] [23]) (ae Tryz.f305) (ay 0 [.v (.int .i64 x1),.v (.int .u32 x2),.v (.int .u32 x3)]) [] []) (jk fu x1 x2 x3) e305:=by
 unfold jk e305
 have da:=agx
 conv=>arg 1;simp only[ae,Tryz.f305]
 have z0:=agx
 exact Wk
theorem auM(fu:Nat)(x1:Int)(x2:Int)(x3:Int)(r)(h:jk fu x1 x2 x3=some r):aA prog 305 [.v (.int .i64 x1),.v (.int .u32 x2),.v (.int .u32 x3)] (e305 r):=aH mixed [(Gj fu).ct,(xX fu).ct,(aab fu).ct,(pG fu).ct] (ids:=[363,364,365,313]) rfl (by decide) apM (C:=ak) (ci:=λcp=>aj) (λcp ok=>aB) (λcp H=>aof cp fu x1 x2 x3 (Vz H.1) (Ej H.2.1) (aCm H.2.2.1) (rC H.2.2.2.1)) h
def aax:TD:=zz [[4],[],[0,1,5,6,7]]
def abQ:=Da (aC aax.eq_1)
theorem aDz:au prog 204 aax=some ⟨ae Tryz.f204,[.tmp 4],[23]⟩:=fA Tryz.func204
def e204:Int->AV:=λr=> .v (.int .u32 r)
structure aet (fu:Nat) (cp:af):Prop where
 ap: ∀ {a0:Int} {a1:Int} {a2:Int} {r},jk fu a0 a1 a2=some r->cp 305 [.v (.int .i64 a0),.v (.int .u32 a1),.v (.int .u32 a2)]=some (.v (.int .u32 r))
noncomputable def UQ(fu:Nat):Cm prog (Int×Int×Int) Int:=⟨305,λt=>[.v (.int .i64 t.1),.v (.int .u32 t.2.1),.v (.int .u32 t.2.2)],λt=>jk fu t.1 t.2.1 t.2.2,e305,λt b h=>auM fu t.1 t.2.1 t.2.2 b h,Zi⟩
theorem apk(H:aI cp (UQ fu).ct):aet fu cp:=⟨λ {a0 a1 a2 r} h=>(UQ fu).at H (a0,a1,a2) r h⟩
theorem aAb(cp:af)(fu:Nat)(x1:Int)(x2:Int)(H1:aet fu cp):J (go prog ak cp aj 0 [] aax fu (fin prog [.tmp 4] [23]) (ae Tryz.f204) (ay 0 [.v (.int .u32 x1),.v (.int .u32 x2)]) [] []) (qm fu x1 x2) e204:=by
 unfold qm e204
 have da:=abQ
 conv=>arg 1;simp only[ae,Tryz.f204]
 have z0:=abQ
 exact Wk
theorem aHl(fu:Nat)(x1:Int)(x2:Int)(r)(h:qm fu x1 x2=some r):aA prog 204 [.v (.int .u32 x1),.v (.int .u32 x2)] (e204 r):=aH mixed [(UQ fu).ct] (ids:=[305]) rfl (by decide) aDz (C:=ak) (ci:=λcp=>aj) (λcp ok=>aB) (λcp H=>aAb cp fu x1 x2 (apk H.1)) h
def aa1:TD:=zz [[1,4],[],[0,5,6]]
def ahV:=Da (aC aa1.eq_1)
theorem i203:au prog 203 aa1=some ⟨ae Tryz.f203,[.tmp 4],[23]⟩:=fA Tryz.func203
def e203:Int->AV:=λr=> .v (.int .u32 r)
structure BF (fu:Nat) (cp:af):Prop where
 ap: ∀ {a0:Int} {a1:Int} {r},qm fu a0 a1=some r->cp 204 [.v (.int .u32 a0),.v (.int .u32 a1)]=some (.v (.int .u32 r))
noncomputable def xP(fu:Nat):Cm prog (Int×Int) Int:=⟨204,λt=>[.v (.int .u32 t.1),.v (.int .u32 t.2)],λt=>qm fu t.1 t.2,e204,λt b h=>aHl fu t.1 t.2 b h,Zi⟩
theorem Bh(H:aI cp (xP fu).ct):BF fu cp:=⟨λ {a0 a1 r} h=>(xP fu).at H (a0,a1) r h⟩
theorem aFa(cp:af)(fu:Nat)(x1:Int)(x2:Int)(H1:BF fu cp):J (go prog ak cp aj 0 [] aa1 fu (fin prog [.tmp 4] [23]) (ae Tryz.f203) (ay 0 [.v (.int .u32 x1),.v (.int .u32 x2)]) [] []) (DY fu x1 x2) e203:=by
 unfold DY e203
 have da:=ahV
 conv=>arg 1;simp only[ae,Tryz.f203]
 have z0:=ahV
 exact Wk
theorem azl(fu:Nat)(x1:Int)(x2:Int)(r)(h:DY fu x1 x2=some r):aA prog 203 [.v (.int .u32 x1),.v (.int .u32 x2)] (e203 r):=aH mixed [(xP fu).ct] (ids:=[204]) rfl (by decide) i203 (C:=ak) (ci:=λcp=>aj) (λcp ok=>aB) (λcp H=>aFa cp fu x1 x2 (Bh H.1)) h
def Zn:TD:=zz [[6],[],[1,2,10,11,12,13],[],[14,15,16,17,18],[],[20,21,22,23,24,25,26,27,28,29,30,31,32,33,34,35,36,37,38,39,40,41,42,43,44,45,46,47,48,49,50,51,52,53],[],[],[],[55,56,57,58,59,60],[],[61,62,63],[],[0,7,8,9,64,65,66,67,68,69,70,71,72,73,74,75,76]]
def afc:=Da (aC Zn.eq_1)
theorem aDP:au prog 307 Zn=some ⟨ae Tryz.f307,[.tmp 6],[23]⟩:=fA Tryz.func307
def e307:Int->AV:=λr=> .v (.int .u32 r)
def qg.j1:LJ 1 14 Unit Unit:=⟨λr t e=>[(0,er e 0),(7,er e 7),(8,er e 8),(9,er e 9)],λr t h=>[((0,7,0),bs (bs (hr h (0,7,0)) 1 (.v (.bool false))) 2 (.v (.bool false))),((0,8,0),bs (bs (hr h (0,8,0)) 1 (.v (.bool false))) 2 (.v (.bool false)))]⟩
open qg in
theorem aKZ(cp:af)(fu:Nat)(x1:Int)(x2:Int)(x3:Int)(H1:Kv fu cp)(H2:zV fu cp)(H3:ql fu cp):J (go prog ak cp aj 0 [] Zn fu (fin prog [.tmp 6] [23]) (ae Tryz.f307) (ay 0 [.v (.int .i64 x1),.v (.int .u32 x2),.v (.int .u32 x3)]) [] []) (qg fu x1 x2 x3) e307:=by
 unfold qg e307
 have da:=afc
 conv=>arg 1;simp only[ae,Tryz.f307]
 have z0:=afc
 exact Wk
theorem aHP(fu:Nat)(x1:Int)(x2:Int)(x3:Int)(r)(h:qg fu x1 x2 x3=some r):aA prog 307 [.v (.int .i64 x1),.v (.int .u32 x2),.v (.int .u32 x3)] (e307 r):=aH mixed [(Gj fu).ct,(xX fu).ct,(pG fu).ct] (ids:=[363,364,313]) rfl (by decide) aDP (C:=ak) (ci:=λcp=>aj) (λcp ok=>aB) (λcp H=>aKZ cp fu x1 x2 x3 (Vz H.1) (Ej H.2.1) (rC H.2.2.1)) h
def Td:TD:=zz [[4],[],[0,1,5,6,7]]
def alY:=Da (aC Td.eq_1)
theorem avY:au prog 209 Td=some ⟨ae Tryz.f209,[.tmp 4],[23]⟩:=fA Tryz.func209
def e209:Int->AV:=λr=> .v (.int .u32 r)
structure ada (fu:Nat) (cp:af):Prop where
 ap: ∀ {a0:Int} {a1:Int} {a2:Int} {r},qg fu a0 a1 a2=some r->cp 307 [.v (.int .i64 a0),.v (.int .u32 a1),.v (.int .u32 a2)]=some (.v (.int .u32 r))
noncomputable def Xo(fu:Nat):Cm prog (Int×Int×Int) Int:=⟨307,λt=>[.v (.int .i64 t.1),.v (.int .u32 t.2.1),.v (.int .u32 t.2.2)],λt=>qg fu t.1 t.2.1 t.2.2,e307,λt b h=>aHP fu t.1 t.2.1 t.2.2 b h,Zi⟩
theorem aAW(H:aI cp (Xo fu).ct):ada fu cp:=⟨λ {a0 a1 a2 r} h=>(Xo fu).at H (a0,a1,a2) r h⟩
theorem avJ(cp:af)(fu:Nat)(x1:Int)(x2:Int)(H1:ada fu cp):J (go prog ak cp aj 0 [] Td fu (fin prog [.tmp 4] [23]) (ae Tryz.f209) (ay 0 [.v (.int .u32 x1),.v (.int .u32 x2)]) [] []) (iI fu x1 x2) e209:=by
 unfold iI e209
 have da:=alY
 conv=>arg 1;simp only[ae,Tryz.f209]
 have z0:=alY
 exact Wk
theorem au0(fu:Nat)(x1:Int)(x2:Int)(r)(h:iI fu x1 x2=some r):aA prog 209 [.v (.int .u32 x1),.v (.int .u32 x2)] (e209 r):=aH mixed [(Xo fu).ct] (ids:=[307]) rfl (by decide) avY (C:=ak) (ci:=λcp=>aj) (λcp ok=>aB) (λcp H=>avJ cp fu x1 x2 (aAW H.1)) h
def Z4:TD:=zz [[2],[],[0],[],[],[],[]]
def af2:=Da (aC Z4.eq_1)
theorem aIE:au prog 392 Z4=some ⟨ae Tryz.f392,[.tmp 2],[23]⟩:=fA Tryz.func392
def QQ:Int->AV:=λr=> .v (.int .u32 r)
theorem awR(cp:af)(fu:Nat)(x1:Bool):J (go prog ak cp aj 0 [] Z4 fu (fin prog [.tmp 2] [23]) (ae Tryz.f392) (ay 0 [.v (.bool x1)]) [] []) (rH fu x1) QQ:=by
 unfold rH QQ
 have da:=af2
 conv=>arg 1;simp only[ae,Tryz.f392]
 have z0:=af2
 exact Wk
theorem aJ9(fu:Nat)(x1:Bool)(r)(h:rH fu x1=some r):aA prog 392 [.v (.bool x1)] (QQ r):=aH mixed [] (ids:=[]) rfl (by decide) aIE (C:=ak) (ci:=λcp=>aj) (λcp ok=>aB) (λcp H=>awR cp fu x1) h
def aaL:TD:=[(0,[5]),(0,[]),(0,[8,9]),(0,[]),(0,[10,11,12,13,14]),(0,[]),(0,[16,17]),(0,[]),(8,[18,19,20,21,22,23,24,25]),(0,[]),(0,[27,28]),(0,[]),(0,[29,30]),(0,[]),(0,[32,33]),(0,[]),(0,[34,35,36]),(0,[]),(0,[37,38,39,40]),(0,[]),(13153514735978126263833472979456368521972119668092,[0,1,6,41,42,43,44,45,46,47,48])]
def ac2:=Da (aC aaL.eq_1)
theorem ayg:au prog 397 aaL=some ⟨ae Tryz.f397,[.cell 4 260,.tmp 5],[260,4]⟩:=fA Tryz.func397
def NU:(bU×Bool)->AV:=λr=> .tuple [.agg [.v (.int .u64 r.1.fhigh),.v (.int .u64 r.1.flow)],.v (.bool r.2)]
theorem aGQ(cp:af)(fu:Nat)(x1:Int)(x2:Int):J (go prog ak cp aj 0 [] aaL fu (fin prog [.cell 4 260,.tmp 5] [260,4]) (ae Tryz.f397) (ay 0 [.v (.int .u64 x1),.v (.int .i64 x2)]) [] []) (wS fu x1 x2) NU:=by
 unfold wS NU
 have da:=ac2
 conv=>arg 1;simp only[ae,Tryz.f397]
 have z0:=ac2
 have z1:=RL
 exact Wk
theorem aBc(fu:Nat)(x1:Int)(x2:Int)(r)(h:wS fu x1 x2=some r):aA prog 397 [.v (.int .u64 x1),.v (.int .i64 x2)] (NU r):=aH mixed [] (ids:=[]) rfl (by decide) ayg (C:=ak) (ci:=λcp=>aj) (λcp ok=>aB) (λcp H=>aGQ cp fu x1 x2) h
def aai:TD:=zz [[0,1],[],[9,10,11,12,13,14,15,16],[],[2,3,6,8,17,18,19,20,21,22,23,24,25],[],[5,7,26,27,28]]
def acl:=Da (aC aai.eq_1)
theorem aJF:au prog 398 aai=some ⟨ae Tryz.f398,[.cell 4 260],[260]⟩:=fA Tryz.func398
def Md:bU->AV:=λr=> .agg [.v (.int .u64 r.fhigh),.v (.int .u64 r.flow)]
theorem aIF(cp:af)(fu:Nat)(x1:bU)(x2:bU):J (go prog (bH [402]) cp (vG 402 Ho aj) 0 [] aai fu (fin prog [.cell 4 260] [260]) (ae Tryz.f398) (ay 0 [.agg (fJ x1),.agg (fJ x2)]) [] []) (xW fu x1 x2) Md:=by
 unfold xW Md
 have da:=acl
 conv=>arg 1;simp only[ae,Tryz.f398]
 have z0:=acl
 have z1:=RX
 have z2:=RI
 have z3:=iO
 have z4:= @ae.eq_1
 exact Wk
theorem axv(fu:Nat)(x1:bU)(x2:bU)(r)(h:xW fu x1 x2=some r):aA prog 398 [.agg (fJ x1),.agg (fJ x2)] (Md r):=aH mixed [] (ids:=[]) rfl (by decide) aJF (C:=(bH [402])) (ci:=λcp=>(vG 402 Ho aj)) (λcp ok=>(ac4 aB (aL9 Tryz.func402 (by kernel_rfl) (by kernel_rfl) (by kernel_rfl) (by kernel_rfl)))) (λcp H=>aIF cp fu x1 x2) h
def X4:TD:=[(0,[0,10]),(0,[]),(0,[13,14,15]),(0,[]),(0,[16]),(0,[]),(0,[18,19,20,21,22,23,24]),(0,[]),(11,[25,26,27,28,29,30,31,32,33,34]),(0,[]),(0,[1,2,3,4,5,11,12,35,36,37,38,39,40,41,42,43,44,45,46,47,48,49,50])]
def alR:=Da (aC X4.eq_1)
theorem aGp:au prog 399 X4=some ⟨ae Tryz.f399,[.tmp 10],[23]⟩:=fA Tryz.func399
def NI:Int->AV:=λr=> .v (.int .u32 r)
theorem avZ(cp:af)(fu:Nat)(x1:bU)(x2:Int)(x3:Bool)(x4:Int)(x5:Bool)(H1:FO fu cp)(H2:ql fu cp):J (go prog ak cp aj 0 [] X4 fu (fin prog [.tmp 10] [23]) (ae Tryz.f399) (ay 0 [.agg (fJ x1),.v (.int .i64 x2),.v (.bool x3),.v (.int .i64 x4),.v (.bool x5)]) [] []) (ru fu x1 x2 x3 x4 x5) NI:=by
 unfold ru NI
 have da:=alR
 conv=>arg 1;simp only[ae,Tryz.f399]
 have z0:=alR
 exact Wk
theorem aFx(fu:Nat)(x1:bU)(x2:Int)(x3:Bool)(x4:Int)(x5:Bool)(r)(h:ru fu x1 x2 x3 x4 x5=some r):aA prog 399 [.agg (fJ x1),.v (.int .i64 x2),.v (.bool x3),.v (.int .i64 x4),.v (.bool x5)] (NI r):=aH mixed [(Bv fu).ct,(pG fu).ct] (ids:=[361,313]) rfl (by decide) aGp (C:=ak) (ci:=λcp=>aj) (λcp ok=>aB) (λcp H=>avZ cp fu x1 x2 x3 x4 x5 (G9 H.1) (rC H.2.1)) h
def WX:TD:=zz [[0,1],[],[9,10,11,12,13,14,15,16],[],[2,3,6,8,17,18,19,20,21,22,23,24,25],[],[5,7,26,27,28]]
def alD:=Da (aC WX.eq_1)
theorem aqr:au prog 400 WX=some ⟨ae Tryz.f400,[.cell 4 260],[260]⟩:=fA Tryz.func400
def LW:bU->AV:=λr=> .agg [.v (.int .u64 r.fhigh),.v (.int .u64 r.flow)]
theorem aLh(cp:af)(fu:Nat)(x1:bU)(x2:bU):J (go prog (bH [403]) cp (vG 403 IP aj) 0 [] WX fu (fin prog [.cell 4 260] [260]) (ae Tryz.f400) (ay 0 [.agg (fJ x1),.agg (fJ x2)]) [] []) (sN fu x1 x2) LW:=by
 unfold sN LW
 have da:=alD
 conv=>arg 1;simp only[ae,Tryz.f400]
 have z0:=alD
 have z1:=RX
 have z2:=RI
 have z3:=iO
 have z4:= @ae.eq_1
 exact Wk
theorem awv(fu:Nat)(x1:bU)(x2:bU)(r)(h:sN fu x1 x2=some r):aA prog 400 [.agg (fJ x1),.agg (fJ x2)] (LW r):=aH mixed [] (ids:=[]) rfl (by decide) aqr (C:=(bH [403])) (ci:=λcp=>(vG 403 IP aj)) (λcp ok=>(ac4 aB (aFO Tryz.func403 (by kernel_rfl) (by kernel_rfl) (by kernel_rfl) (by kernel_rfl)))) (λcp H=>aLh cp fu x1 x2) h
def aaO:TD:=zz [[0,1,4],[],[2,3,5,6,7,8,9,10,11,12,13,14,15,16,17,18,19,20,21,22,23]]
def aeZ:=Da (aC aaO.eq_1)
theorem aob:au prog 401 aaO=some ⟨ae Tryz.f401,[.tmp 4],[4]⟩:=fA Tryz.func401
def Nr:Bool->AV:=λr=> .v (.bool r)
theorem aGJ(cp:af)(fu:Nat)(x1:bU)(x2:bU):J (go prog ak cp aj 0 [] aaO fu (fin prog [.tmp 4] [4]) (ae Tryz.f401) (ay 0 [.agg (fJ x1),.agg (fJ x2)]) [] []) (yA fu x1 x2) Nr:=by
 unfold yA Nr
 have da:=aeZ
 conv=>arg 1;simp only[ae,Tryz.f401]
 have z0:=aeZ
 exact Wk
theorem ay8(fu:Nat)(x1:bU)(x2:bU)(r)(h:yA fu x1 x2=some r):aA prog 401 [.agg (fJ x1),.agg (fJ x2)] (Nr r):=aH mixed [] (ids:=[]) rfl (by decide) aob (C:=ak) (ci:=λcp=>aj) (λcp ok=>aB) (λcp H=>aGJ cp fu x1 x2) h
def aaG:TD:=[(0,[1,2,6]),(0,[5,11]),(13,[12,13,14,15,16,17,18,19,20,21,22,23]),(0,[]),(0,[25,26]),(0,[]),(8,[27,28,29,30,31,32,33]),(0,[]),(0,[9,34,35,36,37,38,39,40,41,42,43]),(0,[]),(0,[44,45,46,47,48,49,50,51,52,53]),(0,[]),(0,[55,56,57,58,59]),(0,[]),(10,[60,61,62,63,64,65,66,67,68]),(0,[]),(0,[70]),(0,[]),(11,[71,72,73,74,75,76,77,78,79,80]),(0,[]),(0,[82,83,84]),(0,[]),(0,[85,86,87]),(0,[]),(0,[89,90,91]),(0,[]),(9,[92,93,94,95,96,97,98,99]),(0,[]),(9,[0,4,7,8,10,100,101,102,103,104,105,106,107])]
def ab8:=Da (aC aaG.eq_1)
theorem aD4:au prog 393 aaG=some ⟨ae Tryz.f393,[.tmp 6],[23]⟩:=fA Tryz.func393
def JU:Int->AV:=λr=> .v (.int .u32 r)
structure ab5 (fu:Nat) (cp:af):Prop where
 ap: ∀ {a0:Int} {a1:Int} {r},wS fu a0 a1=some r->cp 397 [.v (.int .u64 a0),.v (.int .i64 a1)]=some (.tuple [.agg [.v (.int .u64 r.1.fhigh),.v (.int .u64 r.1.flow)],.v (.bool r.2)])
noncomputable def YC(fu:Nat):Cm prog (Int×Int) (bU×Bool):=⟨397,λt=>[.v (.int .u64 t.1),.v (.int .i64 t.2)],λt=>wS fu t.1 t.2,NU,λt b h=>aBc fu t.1 t.2 b h,Zi⟩
theorem aBY(H:aI cp (YC fu).ct):ab5 fu cp:=⟨λ {a0 a1 r} h=>(YC fu).at H (a0,a1) r h⟩
structure akl (fu:Nat) (cp:af):Prop where
 ap: ∀ {a0:bU} {a1:bU} {r},xW fu a0 a1=some r->cp 398 [.agg (fJ a0),.agg (fJ a1)]=some (.agg [.v (.int .u64 r.fhigh),.v (.int .u64 r.flow)])
noncomputable def RP(fu:Nat):Cm prog (bU×bU) bU:=⟨398,λt=>[.agg (fJ t.1),.agg (fJ t.2)],λt=>xW fu t.1 t.2,Md,λt b h=>axv fu t.1 t.2 b h,Zi⟩
theorem ao6(H:aI cp (RP fu).ct):akl fu cp:=⟨λ {a0 a1 r} h=>(RP fu).at H (a0,a1) r h⟩
structure ab9 (fu:Nat) (cp:af):Prop where
 ap: ∀ {a0:bU} {a1:Int} {a2:Bool} {a3:Int} {a4:Bool} {r},ru fu a0 a1 a2 a3 a4=some r->cp 399 [.agg (fJ a0),.v (.int .i64 a1),.v (.bool a2),.v (.int .i64 a3),.v (.bool a4)]=some (.v (.int .u32 r))
noncomputable def TL(fu:Nat):Cm prog (bU×Int×Bool×Int×Bool) Int:=⟨399,λt=>[.agg (fJ t.1),.v (.int .i64 t.2.1),.v (.bool t.2.2.1),.v (.int .i64 t.2.2.2.1),.v (.bool t.2.2.2.2)],λt=>ru fu t.1 t.2.1 t.2.2.1 t.2.2.2.1 t.2.2.2.2,NI,λt b h=>aFx fu t.1 t.2.1 t.2.2.1 t.2.2.2.1 t.2.2.2.2 b h,Zi⟩
theorem aLk(H:aI cp (TL fu).ct):ab9 fu cp:=⟨λ {a0 a1 a2 a3 a4 r} h=>(TL fu).at H (a0,a1,a2,a3,a4) r h⟩
structure ajc (fu:Nat) (cp:af):Prop where
 ap: ∀ {a0:bU} {a1:bU} {r},sN fu a0 a1=some r->cp 400 [.agg (fJ a0),.agg (fJ a1)]=some (.agg [.v (.int .u64 r.fhigh),.v (.int .u64 r.flow)])
noncomputable def XO(fu:Nat):Cm prog (bU×bU) bU:=⟨400,λt=>[.agg (fJ t.1),.agg (fJ t.2)],λt=>sN fu t.1 t.2,LW,λt b h=>awv fu t.1 t.2 b h,Zi⟩
theorem atq(H:aI cp (XO fu).ct):ajc fu cp:=⟨λ {a0 a1 r} h=>(XO fu).at H (a0,a1) r h⟩
structure Tf (fu:Nat) (cp:af):Prop where
 ap: ∀ {a0:Bool} {r},rH fu a0=some r->cp 392 [.v (.bool a0)]=some (.v (.int .u32 r))
noncomputable def Ls(fu:Nat):Cm prog Bool Int:=⟨392,λt=>[.v (.bool t)],λt=>rH fu t,QQ,λt b h=>aJ9 fu t b h,Zi⟩
theorem afI(H:aI cp (Ls fu).ct):Tf fu cp:=⟨λ {a0 r} h=>(Ls fu).at H a0 r h⟩
structure adg (fu:Nat) (cp:af):Prop where
 ap: ∀ {a0:bU} {a1:bU} {r},yA fu a0 a1=some r->cp 401 [.agg (fJ a0),.agg (fJ a1)]=some (.v (.bool r))
noncomputable def V5(fu:Nat):Cm prog (bU×bU) Bool:=⟨401,λt=>[.agg (fJ t.1),.agg (fJ t.2)],λt=>yA fu t.1 t.2,Nr,λt b h=>ay8 fu t.1 t.2 b h,Zi⟩
theorem aMB(H:aI cp (V5 fu).ct):adg fu cp:=⟨λ {a0 a1 r} h=>(V5 fu).at H (a0,a1) r h⟩
def nI.j1:LJ 1 6 Unit (Bool×Int×Int×Bool×Int×Int):=⟨λr t e=>[(0,er e 0),(4,er e 4),(5,er e 5)],λr t h=>[((0,4,0),bs (bs (bs (hr h (0,4,0)) 0 (.v (.bool t.1))) 1 (.v (.int .i64 t.2.1))) 2 (.v (.int .u64 t.2.2.1))),((0,5,0),bs (bs (bs (hr h (0,5,0)) 0 (.v (.bool t.2.2.2.1))) 1 (.v (.int .i64 t.2.2.2.2.1))) 2 (.v (.int .u64 t.2.2.2.2.2)))]⟩
open nI in
theorem anF(cp:af)(fu:Nat)(x1:Int)(x2:dQ)(x3:dQ)(H1:FO fu cp)(H2:ab5 fu cp)(H3:akl fu cp)(H4:ab9 fu cp)(H5:ajc fu cp)(H6:Tf fu cp)(H7:adg fu cp):J (go prog ak cp aj 0 [] aaG fu (fin prog [.tmp 6] [23]) (ae Tryz.f393) (ay 0 [.v (.int .i64 x1),.agg (nR x2),.agg (nR x3)]) [] []) (nI fu x1 x2 x3) JU:=by
 unfold nI JU
 have da:=ab8
 conv=>arg 1;simp only[ae,Tryz.f393]
 have z0:=ab8
 exact Wk
theorem aFX(fu:Nat)(x1:Int)(x2:dQ)(x3:dQ)(r)(h:nI fu x1 x2 x3=some r):aA prog 393 [.v (.int .i64 x1),.agg (nR x2),.agg (nR x3)] (JU r):=aH mixed [(Bv fu).ct,(YC fu).ct,(RP fu).ct,(TL fu).ct,(XO fu).ct,(Ls fu).ct,(V5 fu).ct] (ids:=[361,397,398,399,400,392,401]) rfl (by decide) aD4 (C:=ak) (ci:=λcp=>aj) (λcp ok=>aB) (λcp H=>anF cp fu x1 x2 x3 (G9 H.1) (aBY H.2.1) (ao6 H.2.2.1) (aLk H.2.2.2.1) (atq H.2.2.2.2.1) (afI H.2.2.2.2.2.1) (aMB H.2.2.2.2.2.2.1)) h
def Yy:TD:=zz [[8],[9],[15,16,17,18,19,20],[3,10],[21,22,23,24,25],[],[27,28,29,30,31,32,33,34,35,36,37,38,39,40,41,42],[],[],[],[44,45,46,47,48,49,50,51,52,53,54,55],[],[],[],[57],[],[58,59,60],[],[62,63],[],[64],[],[1,2,65,66,67,68,69,70],[],[11,12,71,72,73,74,75,76,77,78,79,80,81,82],[],[84,85,86,87,88,89,90,91],[],[92,93,94],[],[96],[],[97,98,99],[],[101,102,103],[],[104],[],[106,107,108],[],[109,110,111,112,113,114,115],[],[0,13,14,116,117,118,119]]
def al9:=Da (aC Yy.eq_1)
theorem aI9:au prog 367 Yy=some ⟨ae Tryz.f367,[.tmp 8],[23]⟩:=fA Tryz.func367
def QJ:Int->AV:=λr=> .v (.int .u32 r)
structure pU (fu:Nat) (cp:af):Prop where
 ap: ∀ {a0:Int} {a1:Int} {r},iI fu a0 a1=some r->cp 209 [.v (.int .u32 a0),.v (.int .u32 a1)]=some (.v (.int .u32 r))
noncomputable def oq(fu:Nat):Cm prog (Int×Int) Int:=⟨209,λt=>[.v (.int .u32 t.1),.v (.int .u32 t.2)],λt=>iI fu t.1 t.2,e209,λt b h=>au0 fu t.1 t.2 b h,Zi⟩
theorem qG(H:aI cp (oq fu).ct):pU fu cp:=⟨λ {a0 a1 r} h=>(oq fu).at H (a0,a1) r h⟩
structure aiA (fu:Nat) (cp:af):Prop where
 ap: ∀ {a0:Int} {a1:dQ} {a2:dQ} {r},nI fu a0 a1 a2=some r->cp 393 [.v (.int .i64 a0),.agg (nR a1),.agg (nR a2)]=some (.v (.int .u32 r))
noncomputable def VB(fu:Nat):Cm prog (Int×dQ×dQ) Int:=⟨393,λt=>[.v (.int .i64 t.1),.agg (nR t.2.1),.agg (nR t.2.2)],λt=>nI fu t.1 t.2.1 t.2.2,JU,λt b h=>aFX fu t.1 t.2.1 t.2.2 b h,Zi⟩
theorem aKs(H:aI cp (VB fu).ct):aiA fu cp:=⟨λ {a0 a1 a2 r} h=>(VB fu).at H (a0,a1,a2) r h⟩
def iP.j3:LJ 3 42 Unit Unit:=⟨λr t e=>[(0,er e 0),(13,er e 13),(14,er e 14)],λr t h=>[((0,13,0),hr h (0,13,0)),((0,14,0),hr h (0,14,0))]⟩
def iP.j2:LJ 2 22 Unit Unit:=⟨λr t e=>[(0,er e 0),(1,er e 1),(2,er e 2),(3,er e 3),(10,er e 10)],λr t h=>[]⟩
def iP.j1:LJ 1 4 Unit Bool:=⟨λr t e=>[(0,er e 0),(1,er e 1),(2,er e 2),(3,er e 3),(9,.v (.bool t))],λr t h=>[]⟩
open iP in
theorem aBK(cp:af)(fu:Nat)(x1:Int)(x2:Int)(x3:Int)(x4:Int)(H1:qL fu cp)(H2:jd fu cp)(H3:pU fu cp)(H4:Tf fu cp)(H5:zg fu cp)(H6:ql fu cp)(H7:aiA fu cp):J (go prog ak cp aj 0 [] Yy fu (fin prog [.tmp 8] [23]) (ae Tryz.f367) (ay 0 [.v (.int .i64 x1),.v (.int .u32 x2),.v (.int .u32 x3),.v (.int .u32 x4)]) [] []) (iP fu x1 x2 x3 x4) QJ:=by
 unfold iP QJ
 have da:=al9
 conv=>arg 1;simp only[ae,Tryz.f367]
 have z0:=al9
 exact Wk
theorem aMv(fu:Nat)(x1:Int)(x2:Int)(x3:Int)(x4:Int)(r)(h:iP fu x1 x2 x3 x4=some r):aA prog 367 [.v (.int .i64 x1),.v (.int .u32 x2),.v (.int .u32 x3),.v (.int .u32 x4)] (QJ r):=aH mixed [(qw fu).ct,(iY fu).ct,(oq fu).ct,(Ls fu).ct,(wB fu).ct,(pG fu).ct,(VB fu).ct] (ids:=[126,124,209,392,233,313,393]) rfl (by decide) aI9 (C:=ak) (ci:=λcp=>aj) (λcp ok=>aB) (λcp H=>aBK cp fu x1 x2 x3 x4 (rW H.1) (u124 H.2.1) (qG H.2.2.1) (afI H.2.2.2.1) (BI H.2.2.2.2.1) (rC H.2.2.2.2.2.1) (aKs H.2.2.2.2.2.2.1)) h
def RZ:TD:=zz [[6],[],[0,1,2,7,8,9,10]]
def agm:=Da (aC RZ.eq_1)
theorem avy:au prog 309 RZ=some ⟨ae Tryz.f309,[.tmp 6],[23]⟩:=fA Tryz.func309
def e309:Int->AV:=λr=> .v (.int .u32 r)
structure agQ (fu:Nat) (cp:af):Prop where
 ap: ∀ {a0:Int} {a1:Int} {a2:Int} {a3:Int} {r},iP fu a0 a1 a2 a3=some r->cp 367 [.v (.int .i64 a0),.v (.int .u32 a1),.v (.int .u32 a2),.v (.int .u32 a3)]=some (.v (.int .u32 r))
noncomputable def Y4(fu:Nat):Cm prog (Int×Int×Int×Int) Int:=⟨367,λt=>[.v (.int .i64 t.1),.v (.int .u32 t.2.1),.v (.int .u32 t.2.2.1),.v (.int .u32 t.2.2.2)],λt=>iP fu t.1 t.2.1 t.2.2.1 t.2.2.2,QJ,λt b h=>aMv fu t.1 t.2.1 t.2.2.1 t.2.2.2 b h,Zi⟩
theorem aLM(H:aI cp (Y4 fu).ct):agQ fu cp:=⟨λ {a0 a1 a2 a3 r} h=>(Y4 fu).at H (a0,a1,a2,a3) r h⟩
theorem aqk(cp:af)(fu:Nat)(x1:Int)(x2:Int)(x3:Int)(H1:agQ fu cp):J (go prog ak cp aj 0 [] RZ fu (fin prog [.tmp 6] [23]) (ae Tryz.f309) (ay 0 [.v (.int .u32 x1),.v (.int .u32 x2),.v (.int .u32 x3)]) [] []) (lN fu x1 x2 x3) e309:=by
 unfold lN e309
 have da:=agm
 conv=>arg 1;simp only[ae,Tryz.f309]
 have z0:=agm
 exact Wk
theorem aF6(fu:Nat)(x1:Int)(x2:Int)(x3:Int)(r)(h:lN fu x1 x2 x3=some r):aA prog 309 [.v (.int .u32 x1),.v (.int .u32 x2),.v (.int .u32 x3)] (e309 r):=aH mixed [(Y4 fu).ct] (ids:=[367]) rfl (by decide) avy (C:=ak) (ci:=λcp=>aj) (λcp ok=>aB) (λcp H=>aqk cp fu x1 x2 x3 (aLM H.1)) h
def aaC:TD:=zz [[4],[0,12,13,14],[8,9,10],[],[1,11],[],[],[],[16,17],[],[7,18,19,20,21],[],[22],[],[5,23]]
def ams:=Da (aC aaC.eq_1)
theorem arz:au prog 310 aaC=some ⟨ae Tryz.f310,[.tmp 4],[23]⟩:=fA Tryz.func310
def e310:Int->AV:=λr=> .v (.int .u32 r)
structure Dz (fu:Nat) (cp:af):Prop where
 ap: ∀ {a0:Int} {a1:Int} {a2:Int} {r},lN fu a0 a1 a2=some r->cp 309 [.v (.int .u32 a0),.v (.int .u32 a1),.v (.int .u32 a2)]=some (.v (.int .u32 r))
noncomputable def AZ(fu:Nat):Cm prog (Int×Int×Int) Int:=⟨309,λt=>[.v (.int .u32 t.1),.v (.int .u32 t.2.1),.v (.int .u32 t.2.2)],λt=>lN fu t.1 t.2.1 t.2.2,e309,λt b h=>aF6 fu t.1 t.2.1 t.2.2 b h,Zi⟩
theorem Jb(H:aI cp (AZ fu).ct):Dz fu cp:=⟨λ {a0 a1 a2 r} h=>(AZ fu).at H (a0,a1,a2) r h⟩
def kw.m1:LJ 1 6 Unit (Int×Int):=⟨λr s e=>[(0,er e 0),(5,.v (.int .u32 s.1)),(12,er e 12),(13,er e 13),(14,.v (.int .i64 s.2))],λr s h=>[]⟩
open kw in
theorem aLg(cp:af)(fu:Nat)(x1:Int)(x2:List Int)(H1:Dz fu cp):J (go prog ak cp aj 0 [] aaC fu (fin prog [.tmp 4] [23]) (ae Tryz.f310) (ay 0 [.v (.int .u32 x1),.arr x2.length (lm (ik .u32) x2)]) [] []) (kw fu x1 x2) e310:=by
 unfold kw e310
 have da:=ams
 conv=>arg 1;simp only[ae,Tryz.f310]
 have z0:=ams
 exact Wk
theorem ayQ(fu:Nat)(x1:Int)(x2:List Int)(r)(h:kw fu x1 x2=some r):aA prog 310 [.v (.int .u32 x1),.arr x2.length (lm (ik .u32) x2)] (e310 r):=aH mixed [(AZ fu).ct] (ids:=[309]) rfl (by decide) arz (C:=ak) (ci:=λcp=>aj) (λcp ok=>aB) (λcp H=>aLg cp fu x1 x2 (Jb H.1)) h
def aa9:TD:=zz [[2],[],[5],[],[],[],[7,8],[],[0,9,10],[],[12],[],[],[],[],[],[14,15,16],[],[17,18],[],[20,21,22,23],[],[24,25,26,27,28],[],[3,29],[],[31,32],[],[4,33]]
def afX:=Da (aC aa9.eq_1)
theorem i139:au prog 139 aa9=some ⟨ae Tryz.f139,[.tmp 2],[2]⟩:=fA Tryz.func139
def L9:Int->AV:=λr=> .v (.int .i64 r)
def kK.j1:LJ 1 24 Unit Int:=⟨λr t e=>[(3,er e 3),(4,.v (.int .i64 t))],λr t h=>[((0,3,0),hr h (0,3,0))]⟩
open kK in
theorem aER(cp:af)(fu:Nat)(x1:Int)(H1:jd fu cp)(H2:zg fu cp)(H3:oV fu cp):J (go prog ak cp aj 0 [] aa9 fu (fin prog [.tmp 2] [2]) (ae Tryz.f139) (ay 0 [.v (.int .u32 x1)]) [] []) (kK fu x1) L9:=by
 unfold kK L9
 have da:=afX
 conv=>arg 1;simp only[ae,Tryz.f139]
 have z0:=afX
 exact Wk
theorem aLW(fu:Nat)(x1:Int)(r)(h:kK fu x1=some r):aA prog 139 [.v (.int .u32 x1)] (L9 r):=aH mixed [(iY fu).ct,(wB fu).ct,(oC fu).ct] (ids:=[124,233,140]) rfl (by decide) i139 (C:=ak) (ci:=λcp=>aj) (λcp ok=>aB) (λcp H=>aER cp fu x1 (u124 H.1) (BI H.2.1) (pV H.2.2.1)) h
def Vq:TD:=zz [[4],[],[6],[],[],[],[8,9],[],[10,11,12,13,14,15],[],[17],[],[0,1,5,18,19,20,21,22,23,24,25,26,27,28]]
def adS:=Da (aC Vq.eq_1)
theorem aI2:au prog 311 Vq=some ⟨ae Tryz.f311,[.tmp 4],[23]⟩:=fA Tryz.func311
def e311:Int->AV:=λr=> .v (.int .u32 r)
def nK.j1:LJ 1 12 Unit Unit:=⟨λr t e=>[(0,er e 0),(1,er e 1),(5,er e 5)],λr t h=>[((0,5,0),hr h (0,5,0))]⟩
open nK in
theorem aoN(cp:af)(fu:Nat)(x1:Int)(x2:Int)(H1:jd fu cp)(H2:zg fu cp)(H3:qL fu cp)(H4:ql fu cp):J (go prog ak cp aj 0 [] Vq fu (fin prog [.tmp 4] [23]) (ae Tryz.f311) (ay 0 [.v (.int .u32 x1),.v (.int .i64 x2)]) [] []) (nK fu x1 x2) e311:=by
 unfold nK e311
 have da:=adS
 conv=>arg 1;simp only[ae,Tryz.f311]
 have z0:=adS
 exact Wk
theorem aIA(fu:Nat)(x1:Int)(x2:Int)(r)(h:nK fu x1 x2=some r):aA prog 311 [.v (.int .u32 x1),.v (.int .i64 x2)] (e311 r):=aH mixed [(iY fu).ct,(wB fu).ct,(qw fu).ct,(pG fu).ct] (ids:=[124,233,126,313]) rfl (by decide) aI2 (C:=ak) (ci:=λcp=>aj) (λcp ok=>aB) (λcp H=>aoN cp fu x1 x2 (u124 H.1) (BI H.2.1) (rW H.2.2.1) (rC H.2.2.2.1)) h
def Us:TD:=zz [[2],[],[7,8],[],[],[],[10,11],[],[],[],[13,14],[],[],[],[15,16,17],[],[0,18,19,20,21,22,23,24],[],[4,25,26,27],[],[3,5,28,29,30,31]]
def ai4:=Da (aC Us.eq_1)
theorem aCo:au prog 213 Us=some ⟨ae Tryz.f213,[.tmp 2],[23]⟩:=fA Tryz.func213
def e213:Int->AV:=λr=> .v (.int .u32 r)
structure Nq (fu:Nat) (cp:af):Prop where
 ap: ∀ {a0:Int} {r},fM fu a0=some r->cp 201 [.v (.int .u32 a0)]=some (.v (.int .u32 r))
noncomputable def Gq(fu:Nat):Cm prog Int Int:=⟨201,λt=>[.v (.int .u32 t)],λt=>fM fu t,JL,λt b h=>akb fu t b h,Zi⟩
theorem u201(H:aI cp (Gq fu).ct):Nq fu cp:=⟨λ {a0 r} h=>(Gq fu).at H a0 r h⟩
structure wG (fu:Nat) (cp:af):Prop where
 ap: ∀ {a0:Int} {r},lH fu a0=some r->cp 197 [.v (.int .u32 a0)]=some (.v (.int .u32 r))
noncomputable def uD(fu:Nat):Cm prog Int Int:=⟨197,λt=>[.v (.int .u32 t)],λt=>lH fu t,e197,λt b h=>aiM fu t b h,Zi⟩
theorem zB(H:aI cp (uD fu).ct):wG fu cp:=⟨λ {a0 r} h=>(uD fu).at H a0 r h⟩
structure Hl (fu:Nat) (cp:af):Prop where
 ap: ∀ {a0:Int} {a1:List Int} {r},kw fu a0 a1=some r->cp 310 [.v (.int .u32 a0),.arr a1.length (lm (ik .u32) a1)]=some (.v (.int .u32 r))
noncomputable def Eh(fu:Nat):Cm prog (Int×(List Int)) Int:=⟨310,λt=>[.v (.int .u32 t.1),.arr t.2.length (lm (ik .u32) t.2)],λt=>kw fu t.1 t.2,e310,λt b h=>ayQ fu t.1 t.2 b h,Zi⟩
theorem JI(H:aI cp (Eh fu).ct):Hl fu cp:=⟨λ {a0 a1 r} h=>(Eh fu).at H (a0,a1) r h⟩
structure Dn (fu:Nat) (cp:af):Prop where
 ap: ∀ {a0:Int} {r},kK fu a0=some r->cp 139 [.v (.int .u32 a0)]=some (.v (.int .i64 r))
noncomputable def Az(fu:Nat):Cm prog Int Int:=⟨139,λt=>[.v (.int .u32 t)],λt=>kK fu t,L9,λt b h=>aLW fu t b h,Zi⟩
theorem u139(H:aI cp (Az fu).ct):Dn fu cp:=⟨λ {a0 r} h=>(Az fu).at H a0 r h⟩
structure XU (fu:Nat) (cp:af):Prop where
 ap: ∀ {a0:Int} {a1:Int} {r},nK fu a0 a1=some r->cp 311 [.v (.int .u32 a0),.v (.int .i64 a1)]=some (.v (.int .u32 r))
noncomputable def Qv(fu:Nat):Cm prog (Int×Int) Int:=⟨311,λt=>[.v (.int .u32 t.1),.v (.int .i64 t.2)],λt=>nK fu t.1 t.2,e311,λt b h=>aIA fu t.1 t.2 b h,Zi⟩
theorem af7(H:aI cp (Qv fu).ct):XU fu cp:=⟨λ {a0 a1 r} h=>(Qv fu).at H (a0,a1) r h⟩
theorem apN(cp:af)(fu:Nat)(x1:Int)(H1:jd fu cp)(H2:qc fu cp)(H3:pU fu cp)(H4:Nq fu cp)(H5:wG fu cp)(H6:Dz fu cp)(H7:Hl fu cp)(H8:Dn fu cp)(H9:XU fu cp):J (go prog ak cp aj 0 [] Us fu (fin prog [.tmp 2] [23]) (ae Tryz.f213) (ay 0 [.v (.int .u32 x1)]) [] []) (o8 fu x1) e213:=by
 unfold o8 e213
 have da:=ai4
 conv=>arg 1;simp only[ae,Tryz.f213]
 have z0:=ai4
 exact Wk
theorem ama(fu:Nat)(x1:Int)(r)(h:o8 fu x1=some r):aA prog 213 [.v (.int .u32 x1)] (e213 r):=aH mixed [(iY fu).ct,(nZ fu).ct,(oq fu).ct,(Gq fu).ct,(uD fu).ct,(AZ fu).ct,(Eh fu).ct,(Az fu).ct,(Qv fu).ct] (ids:=[124,130,209,201,197,309,310,139,311]) rfl (by decide) aCo (C:=ak) (ci:=λcp=>aj) (λcp ok=>aB) (λcp H=>apN cp fu x1 (u124 H.1) (qp H.2.1) (qG H.2.2.1) (u201 H.2.2.2.1) (zB H.2.2.2.2.1) (Jb H.2.2.2.2.2.1) (JI H.2.2.2.2.2.2.1) (u139 H.2.2.2.2.2.2.2.1) (af7 H.2.2.2.2.2.2.2.2.1)) h
def U2:TD:=zz [[2,3],[],[],[],[5,6],[],[8,9],[],[0,4,10,11,12,13,14,15,16,17,18]]
def akK:=Da (aC U2.eq_1)
theorem aKN:au prog 371 U2=some ⟨ae Tryz.f371,[.tmp 2,.tmp 3],[23,3]⟩:=fA Tryz.func371
def OT:(Int×Int)->AV:=λr=> .tuple [.v (.int .u32 r.1),.v (.int .i64 r.2)]
def ou.j1:LJ 1 8 Unit (Int×Int):=⟨λr t e=>[(0,.v (.int .u32 t.1)),(4,.v (.int .i64 t.2))],λr t h=>[]⟩
open ou in
theorem aGT(cp:af)(fu:Nat)(x1:Int)(H1:XU fu cp):J (go prog ak cp aj 0 [] U2 fu (fin prog [.tmp 2,.tmp 3] [23,3]) (ae Tryz.f371) (ay 0 [.v (.int .u32 x1)]) [] []) (ou fu x1) OT:=by
 unfold ou OT
 have da:=akK
 conv=>arg 1;simp only[ae,Tryz.f371]
 have z0:=akK
 exact Wk
theorem aJ0(fu:Nat)(x1:Int)(r)(h:ou fu x1=some r):aA prog 371 [.v (.int .u32 x1)] (OT r):=aH mixed [(Qv fu).ct] (ids:=[311]) rfl (by decide) aKN (C:=ak) (ci:=λcp=>aj) (λcp ok=>aB) (λcp H=>aGT cp fu x1 (af7 H.1)) h
def abD:TD:=zz [[2],[],[0,3,4,5]]
def adD:=Da (aC abD.eq_1)
theorem aFq:au prog 366 abD=some ⟨ae Tryz.f366,[.tmp 2],[23]⟩:=fA Tryz.func366
def Ro:Int->AV:=λr=> .v (.int .u32 r)
theorem aIO(cp:af)(fu:Nat)(x1:Int)(H1:zV fu cp):J (go prog ak cp aj 0 [] abD fu (fin prog [.tmp 2] [23]) (ae Tryz.f366) (ay 0 [.v (.int .i64 x1)]) [] []) (wH fu x1) Ro:=by
 unfold wH Ro
 have da:=adD
 conv=>arg 1;simp only[ae,Tryz.f366]
 have z0:=adD
 exact Wk
theorem ar2(fu:Nat)(x1:Int)(r)(h:wH fu x1=some r):aA prog 366 [.v (.int .i64 x1)] (Ro r):=aH mixed [(xX fu).ct] (ids:=[364]) rfl (by decide) aFq (C:=ak) (ci:=λcp=>aj) (λcp ok=>aB) (λcp H=>aIO cp fu x1 (Ej H.1)) h
def DV:TD:=[(0,[6]),(0,[1,2]),(0,[14,15,16,17]),(0,[7,13]),(0,[19,20,21,22,23,24,25,26,27,28,29,30,31,32,33,34,35,36,37,38,39]),(0,[]),(0,[]),(0,[]),(0,[41,42]),(0,[]),(0,[43]),(0,[]),(0,[45,46]),(0,[]),(0,[47]),(0,[]),(0,[49,50,51,52,53,54,55,56]),(0,[]),(0,[57,58]),(0,[]),(0,[60]),(0,[]),(0,[61,62]),(0,[]),(0,[63,64,65,66]),(0,[]),(0,[68,69]),(0,[]),(0,[70,71,72,73,74]),(0,[]),(10,[75,76,77,78,79,80]),(0,[]),(0,[81]),(0,[]),(0,[83,84,85]),(0,[]),(0,[86,87]),(0,[]),(0,[88,89,90]),(0,[]),(0,[91,92,93,94,95]),(0,[]),(8,[96,97,98,99,100,101,102]),(0,[]),(0,[9,104,105,106,107,108]),(0,[]),(0,[109,110,111,112,113,114,115,116,117]),(0,[]),(0,[119]),(0,[]),(0,[120,121,122,123,124,125,126,127,128]),(0,[]),(0,[130,131,132]),(0,[]),(0,[133,134]),(0,[]),(0,[136,137,138]),(0,[]),(0,[139,140,141,142,143,144,145,146]),(0,[]),(0,[0,8,10,11,12,147,148,149,150,151,152,153,154])]
def ajj:=Da (aC DV.eq_1)
theorem YU:au prog 308 DV=some ⟨ae Tryz.f308,[.tmp 6],[23]⟩:=fA Tryz.func308
def e308:Int->AV:=λr=> .v (.int .u32 r)
structure ahq (fu:Nat) (cp:af):Prop where
 ap: ∀ {a0:Int} {r},wH fu a0=some r->cp 366 [.v (.int .i64 a0)]=some (.v (.int .u32 r))
noncomputable def Yg(fu:Nat):Cm prog Int Int:=⟨366,λt=>[.v (.int .i64 t)],λt=>wH fu t,Ro,λt b h=>ar2 fu t b h,Zi⟩
theorem ao2(H:aI cp (Yg fu).ct):ahq fu cp:=⟨λ {a0 r} h=>(Yg fu).at H a0 r h⟩
def gp.j3:LJ 3 3 Unit (Int×Int×Int×Bool):=⟨λr t e=>[(0,er e 0),(7,er e 7),(8,er e 8),(9,er e 9),(10,.v (.int .i64 t.1)),(11,.v (.int .u64 t.2.1)),(12,.v (.int .u64 t.2.2.1)),(13,.v (.bool t.2.2.2))],λr t h=>[((0,7,0),hr h (0,7,0)),((0,8,0),hr h (0,8,0))]⟩
def gp.j2:LJ 2 28 Unit (Bool×Int×Int×Bool×Int×Int):=⟨λr t e=>[(0,er e 0),(7,er e 7),(8,er e 8)],λr t h=>[((0,7,0),bs (bs (bs (hr h (0,7,0)) 0 (.v (.bool t.1))) 3 (.v (.int .i64 t.2.1))) 4 (.v (.int .u64 t.2.2.1))),((0,8,0),bs (bs (bs (hr h (0,8,0)) 0 (.v (.bool t.2.2.2.1))) 3 (.v (.int .i64 t.2.2.2.2.1))) 4 (.v (.int .u64 t.2.2.2.2.2)))]⟩
def gp.j1:LJ 1 24 Unit Unit:=⟨λr t e=>[(0,er e 0),(7,er e 7),(8,er e 8)],λr t h=>[((0,7,0),bs (bs (hr h (0,7,0)) 1 (.v (.bool false))) 2 (.v (.bool false))),((0,8,0),bs (bs (hr h (0,8,0)) 1 (.v (.bool false))) 2 (.v (.bool false)))]⟩
open gp in
theorem aDI(cp:af)(fu:Nat)(x1:Int)(x2:Int)(x3:Int)(H1:Kv fu cp)(H2:ahq fu cp)(H3:ql fu cp):J (go prog ak cp aj 0 [] DV fu (fin prog [.tmp 6] [23]) (ae Tryz.f308) (ay 0 [.v (.int .i64 x1),.v (.int .u32 x2),.v (.int .u32 x3)]) [] []) (gp fu x1 x2 x3) e308:=by
 unfold gp e308
 have da:=ajj
 conv=>arg 1;simp only[ae,Tryz.f308]
 have z0:=ajj
 exact Wk
theorem aH5(fu:Nat)(x1:Int)(x2:Int)(x3:Int)(r)(h:gp fu x1 x2 x3=some r):aA prog 308 [.v (.int .i64 x1),.v (.int .u32 x2),.v (.int .u32 x3)] (e308 r):=aH mixed [(Gj fu).ct,(Yg fu).ct,(pG fu).ct] (ids:=[363,366,313]) rfl (by decide) YU (C:=ak) (ci:=λcp=>aj) (λcp ok=>aB) (λcp H=>aDI cp fu x1 x2 x3 (Vz H.1) (ao2 H.2.1) (rC H.2.2.1)) h
def DI:TD:=zz [[4],[],[0,1,5,6,7]]
def ahM:=Da (aC DI.eq_1)
theorem U3:au prog 216 DI=some ⟨ae Tryz.f216,[.tmp 4],[23]⟩:=fA Tryz.func216
def e216:Int->AV:=λr=> .v (.int .u32 r)
structure Vu (fu:Nat) (cp:af):Prop where
 ap: ∀ {a0:Int} {a1:Int} {a2:Int} {r},gp fu a0 a1 a2=some r->cp 308 [.v (.int .i64 a0),.v (.int .u32 a1),.v (.int .u32 a2)]=some (.v (.int .u32 r))
noncomputable def NC(fu:Nat):Cm prog (Int×Int×Int) Int:=⟨308,λt=>[.v (.int .i64 t.1),.v (.int .u32 t.2.1),.v (.int .u32 t.2.2)],λt=>gp fu t.1 t.2.1 t.2.2,e308,λt b h=>aH5 fu t.1 t.2.1 t.2.2 b h,Zi⟩
theorem acr(H:aI cp (NC fu).ct):Vu fu cp:=⟨λ {a0 a1 a2 r} h=>(NC fu).at H (a0,a1,a2) r h⟩
theorem aIb(cp:af)(fu:Nat)(x1:Int)(x2:Int)(H1:Vu fu cp):J (go prog ak cp aj 0 [] DI fu (fin prog [.tmp 4] [23]) (ae Tryz.f216) (ay 0 [.v (.int .u32 x1),.v (.int .u32 x2)]) [] []) (kL fu x1 x2) e216:=by
 unfold kL e216
 have da:=ahM
 conv=>arg 1;simp only[ae,Tryz.f216]
 have z0:=ahM
 exact Wk
theorem ayb(fu:Nat)(x1:Int)(x2:Int)(r)(h:kL fu x1 x2=some r):aA prog 216 [.v (.int .u32 x1),.v (.int .u32 x2)] (e216 r):=aH mixed [(NC fu).ct] (ids:=[308]) rfl (by decide) U3 (C:=ak) (ci:=λcp=>aj) (λcp ok=>aB) (λcp H=>aIb cp fu x1 x2 (acr H.1)) h
def Xr:TD:=zz [[4],[],[0,1,5,6,7,8]]
def aiW:=Da (aC Xr.eq_1)
theorem i212:au prog 212 Xr=some ⟨ae Tryz.f212,[.tmp 4],[23]⟩:=fA Tryz.func212
def e212:Int->AV:=λr=> .v (.int .u32 r)
theorem aoE(cp:af)(fu:Nat)(x1:Int)(x2:Int)(H1:wG fu cp)(H2:Vu fu cp):J (go prog ak cp aj 0 [] Xr fu (fin prog [.tmp 4] [23]) (ae Tryz.f212) (ay 0 [.v (.int .u32 x1),.v (.int .u32 x2)]) [] []) (rV fu x1 x2) e212:=by
 unfold rV e212
 have da:=aiW
 conv=>arg 1;simp only[ae,Tryz.f212]
 have z0:=aiW
 exact Wk
theorem aI8(fu:Nat)(x1:Int)(x2:Int)(r)(h:rV fu x1 x2=some r):aA prog 212 [.v (.int .u32 x1),.v (.int .u32 x2)] (e212 r):=aH mixed [(uD fu).ct,(NC fu).ct] (ids:=[197,308]) rfl (by decide) i212 (C:=ak) (ci:=λcp=>aj) (λcp ok=>aB) (λcp H=>aoE cp fu x1 x2 (zB H.1) (acr H.2.1)) h
def Zm:TD:=zz [[4],[],[5],[],[7,8,9,10,11],[],[0,1,12,13,14,15]]
def aeN:=Da (aC Zm.eq_1)
theorem i234:au prog 234 Zm=some ⟨ae Tryz.f234,[.tmp 4],[23]⟩:=fA Tryz.func234
def e234:Int->AV:=λr=> .v (.int .u32 r)
theorem ave(cp:af)(fu:Nat)(x1:Int)(x2:Int)(H1:ql fu cp):J (go prog ak cp aj 0 [] Zm fu (fin prog [.tmp 4] [23]) (ae Tryz.f234) (ay 0 [.v (.int .i64 x1),.v (.int .i64 x2)]) [] []) (yR fu x1 x2) e234:=by
 unfold yR e234
 have da:=aeN
 conv=>arg 1;simp only[ae,Tryz.f234]
 have z0:=aeN
 exact Wk
theorem aBh(fu:Nat)(x1:Int)(x2:Int)(r)(h:yR fu x1 x2=some r):aA prog 234 [.v (.int .i64 x1),.v (.int .i64 x2)] (e234 r):=aH mixed [(pG fu).ct] (ids:=[313]) rfl (by decide) i234 (C:=ak) (ci:=λcp=>aj) (λcp ok=>aB) (λcp H=>ave cp fu x1 x2 (rC H.1)) h
def TM:TD:=zz [[2],[],[0,3,4]]
def ajC:=Da (aC TM.eq_1)
theorem i141:au prog 141 TM=some ⟨ae Tryz.f141,[.tmp 2],[23]⟩:=fA Tryz.func141
def Oh:Int->AV:=λr=> .v (.int .u32 r)
structure alS (fu:Nat) (cp:af):Prop where
 ap: ∀ {a0:Int} {a1:Int} {r},yR fu a0 a1=some r->cp 234 [.v (.int .i64 a0),.v (.int .i64 a1)]=some (.v (.int .u32 r))
noncomputable def TF(fu:Nat):Cm prog (Int×Int) Int:=⟨234,λt=>[.v (.int .i64 t.1),.v (.int .i64 t.2)],λt=>yR fu t.1 t.2,e234,λt b h=>aBh fu t.1 t.2 b h,Zi⟩
theorem u234(H:aI cp (TF fu).ct):alS fu cp:=⟨λ {a0 a1 r} h=>(TF fu).at H (a0,a1) r h⟩
theorem aG8(cp:af)(fu:Nat)(x1:Int)(H1:alS fu cp):J (go prog ak cp aj 0 [] TM fu (fin prog [.tmp 2] [23]) (ae Tryz.f141) (ay 0 [.v (.int .i64 x1)]) [] []) (vW fu x1) Oh:=by
 unfold vW Oh
 have da:=ajC
 conv=>arg 1;simp only[ae,Tryz.f141]
 have z0:=ajC
 exact Wk
theorem aC7(fu:Nat)(x1:Int)(r)(h:vW fu x1=some r):aA prog 141 [.v (.int .i64 x1)] (Oh r):=aH mixed [(TF fu).ct] (ids:=[234]) rfl (by decide) i141 (C:=ak) (ci:=λcp=>aj) (λcp ok=>aB) (λcp H=>aG8 cp fu x1 (u234 H.1)) h
def Uf:TD:=zz [[2],[],[10,11],[],[],[],[13,14,15],[],[],[],[17,18,19],[],[],[],[21,22],[],[23],[],[0,24,25,26,27,28],[],[29],[],[31,32,33,34,35],[],[3,36,37],[],[5,38,39,40,41],[],[6,42,43,44,45,46,47,48],[],[4,49,50],[],[7,8,51,52,53,54,55]]
def ali:=Da (aC Uf.eq_1)
theorem anW:au prog 315 Uf=some ⟨ae Tryz.f315,[.tmp 2],[23]⟩:=fA Tryz.func315
def e315:Int->AV:=λr=> .v (.int .u32 r)
structure adc (fu:Nat) (cp:af):Prop where
 ap: ∀ {a0:Int} {r},ou fu a0=some r->cp 371 [.v (.int .u32 a0)]=some (.tuple [.v (.int .u32 r.1),.v (.int .i64 r.2)])
noncomputable def Xg(fu:Nat):Cm prog Int (Int×Int):=⟨371,λt=>[.v (.int .u32 t)],λt=>ou fu t,OT,λt b h=>aJ0 fu t b h,Zi⟩
theorem aKq(H:aI cp (Xg fu).ct):adc fu cp:=⟨λ {a0 r} h=>(Xg fu).at H a0 r h⟩
structure BU (fu:Nat) (cp:af):Prop where
 ap: ∀ {a0:Int} {a1:Int} {r},kL fu a0 a1=some r->cp 216 [.v (.int .u32 a0),.v (.int .u32 a1)]=some (.v (.int .u32 r))
noncomputable def xG(fu:Nat):Cm prog (Int×Int) Int:=⟨216,λt=>[.v (.int .u32 t.1),.v (.int .u32 t.2)],λt=>kL fu t.1 t.2,e216,λt b h=>ayb fu t.1 t.2 b h,Zi⟩
theorem BL(H:aI cp (xG fu).ct):BU fu cp:=⟨λ {a0 a1 r} h=>(xG fu).at H (a0,a1) r h⟩
structure IC (fu:Nat) (cp:af):Prop where
 ap: ∀ {a0:Int} {a1:Int} {r},rV fu a0 a1=some r->cp 212 [.v (.int .u32 a0),.v (.int .u32 a1)]=some (.v (.int .u32 r))
noncomputable def Ap(fu:Nat):Cm prog (Int×Int) Int:=⟨212,λt=>[.v (.int .u32 t.1),.v (.int .u32 t.2)],λt=>rV fu t.1 t.2,e212,λt b h=>aI8 fu t.1 t.2 b h,Zi⟩
theorem Gz(H:aI cp (Ap fu).ct):IC fu cp:=⟨λ {a0 a1 r} h=>(Ap fu).at H (a0,a1) r h⟩
structure Jy (fu:Nat) (cp:af):Prop where
 ap: ∀ {a0:Int} {r},vW fu a0=some r->cp 141 [.v (.int .i64 a0)]=some (.v (.int .u32 r))
noncomputable def Ja(fu:Nat):Cm prog Int Int:=⟨141,λt=>[.v (.int .i64 t)],λt=>vW fu t,Oh,λt b h=>aC7 fu t b h,Zi⟩
theorem aaH(H:aI cp (Ja fu).ct):Jy fu cp:=⟨λ {a0 r} h=>(Ja fu).at H a0 r h⟩
def lX.j1:LJ 1 24 Unit (Int×Int):=⟨λr t e=>[(3,.v (.int .u32 t.1)),(4,.v (.int .i64 t.2))],λr t h=>[]⟩
open lX in
theorem aD5(cp:af)(fu:Nat)(x1:Int)(H1:jd fu cp)(H2:oV fu cp)(H3:qL fu cp)(H4:adc fu cp)(H5:qc fu cp)(H6:BU fu cp)(H7:IC fu cp)(H8:BF fu cp)(H9:pU fu cp)(H10:Hl fu cp)(H11:Jy fu cp)(H12:Dz fu cp):J (go prog ak cp aj 0 [] Uf fu (fin prog [.tmp 2] [23]) (ae Tryz.f315) (ay 0 [.v (.int .u32 x1)]) [] []) (lX fu x1) e315:=by
 unfold lX e315
 have da:=ali
 conv=>arg 1;simp only[ae,Tryz.f315]
 have z0:=ali
 exact Wk
theorem ahQ(fu:Nat)(x1:Int)(r)(h:lX fu x1=some r):aA prog 315 [.v (.int .u32 x1)] (e315 r):=aH mixed [(iY fu).ct,(oC fu).ct,(qw fu).ct,(Xg fu).ct,(nZ fu).ct,(xG fu).ct,(Ap fu).ct,(xP fu).ct,(oq fu).ct,(Eh fu).ct,(Ja fu).ct,(AZ fu).ct] (ids:=[124,140,126,371,130,216,212,204,209,310,141,309]) rfl (by decide) anW (C:=ak) (ci:=λcp=>aj) (λcp ok=>aB) (λcp H=>aD5 cp fu x1 (u124 H.1) (pV H.2.1) (rW H.2.2.1) (aKq H.2.2.2.1) (qp H.2.2.2.2.1) (BL H.2.2.2.2.2.1) (Gz H.2.2.2.2.2.2.1) (Bh H.2.2.2.2.2.2.2.1) (qG H.2.2.2.2.2.2.2.2.1) (JI H.2.2.2.2.2.2.2.2.2.1) (aaH H.2.2.2.2.2.2.2.2.2.2.1) (Jb H.2.2.2.2.2.2.2.2.2.2.2.1)) h
def WS:TD:=zz [[4],[],[0,1,5,6,7,8,9,10,11,12,13,14,15,16,17,18,19]]
def abT:=Da (aC WS.eq_1)
theorem aK7:au prog 128 WS=some ⟨ae Tryz.f128,[.tmp 4],[4]⟩:=fA Tryz.func128
def e128:Bool->AV:=λr=> .v (.bool r)
theorem apK(cp:af)(fu:Nat)(x1:Int)(x2:Int)(H1:jd fu cp)(H2:XN fu cp):J (go prog ak cp aj 0 [] WS fu (fin prog [.tmp 4] [4]) (ae Tryz.f128) (ay 0 [.v (.int .u32 x1),.v (.int .u32 x2)]) [] []) (mP fu x1 x2) e128:=by
 unfold mP e128
 have da:=abT
 conv=>arg 1;simp only[ae,Tryz.f128]
 have z0:=abT
 exact Wk
theorem aqc(fu:Nat)(x1:Int)(x2:Int)(r)(h:mP fu x1 x2=some r):aA prog 128 [.v (.int .u32 x1),.v (.int .u32 x2)] (e128 r):=aH mixed [(iY fu).ct,(Px fu).ct] (ids:=[124,232]) rfl (by decide) aK7 (C:=ak) (ci:=λcp=>aj) (λcp ok=>aB) (λcp H=>apK cp fu x1 x2 (u124 H.1) (ajB H.2.1)) h
def VI:TD:=zz [[4],[1],[6,7,8,9,10,11],[],[],[],[13,14,15],[],[16,17,18],[],[20,21,22],[],[23],[],[0,24]]
def aeT:=Da (aC VI.eq_1)
theorem aAy:au prog 215 VI=some ⟨ae Tryz.f215,[.tmp 4],[23]⟩:=fA Tryz.func215
def e215:Int->AV:=λr=> .v (.int .u32 r)
structure AB (fu:Nat) (cp:af):Prop where
 ap: ∀ {a0:Int} {a1:Int} {r},mP fu a0 a1=some r->cp 128 [.v (.int .u32 a0),.v (.int .u32 a1)]=some (.v (.bool r))
noncomputable def wL(fu:Nat):Cm prog (Int×Int) Bool:=⟨128,λt=>[.v (.int .u32 t.1),.v (.int .u32 t.2)],λt=>mP fu t.1 t.2,e128,λt b h=>aqc fu t.1 t.2 b h,Zi⟩
theorem zX(H:aI cp (wL fu).ct):AB fu cp:=⟨λ {a0 a1 r} h=>(wL fu).at H (a0,a1) r h⟩
theorem aDJ(cp:af)(fu:Nat)(x1:Int)(x2:Int)(H1:jd fu cp)(H2:AB fu cp)(H3:qc fu cp):J (go prog ak cp aj 0 [] VI fu (fin prog [.tmp 4] [23]) (ae Tryz.f215) (ay 0 [.v (.int .u32 x1),.v (.int .u32 x2)]) [] []) (rZ fu x1 x2) e215:=by
 unfold rZ e215
 have da:=aeT
 conv=>arg 1;simp only[ae,Tryz.f215]
 have z0:=aeT
 exact Wk
theorem avL(fu:Nat)(x1:Int)(x2:Int)(r)(h:rZ fu x1 x2=some r):aA prog 215 [.v (.int .u32 x1),.v (.int .u32 x2)] (e215 r):=aH mixed [(iY fu).ct,(wL fu).ct,(nZ fu).ct] (ids:=[124,128,130]) rfl (by decide) aAy (C:=ak) (ci:=λcp=>aj) (λcp ok=>aB) (λcp H=>aDJ cp fu x1 x2 (u124 H.1) (zX H.2.1) (qp H.2.2.1)) h
def aaQ:TD:=zz [[4],[1],[6,7,8,9,10,11],[],[],[],[13,14,15],[],[16,17,18],[],[20,21,22],[],[23],[],[0,24]]
def aey:=Da (aC aaQ.eq_1)
theorem i206:au prog 206 aaQ=some ⟨ae Tryz.f206,[.tmp 4],[23]⟩:=fA Tryz.func206
def e206:Int->AV:=λr=> .v (.int .u32 r)
theorem arE(cp:af)(fu:Nat)(x1:Int)(x2:Int)(H1:jd fu cp)(H2:AB fu cp)(H3:qc fu cp):J (go prog ak cp aj 0 [] aaQ fu (fin prog [.tmp 4] [23]) (ae Tryz.f206) (ay 0 [.v (.int .u32 x1),.v (.int .u32 x2)]) [] []) (pM fu x1 x2) e206:=by
 unfold pM e206
 have da:=aey
 conv=>arg 1;simp only[ae,Tryz.f206]
 have z0:=aey
 exact Wk
theorem aHY(fu:Nat)(x1:Int)(x2:Int)(r)(h:pM fu x1 x2=some r):aA prog 206 [.v (.int .u32 x1),.v (.int .u32 x2)] (e206 r):=aH mixed [(iY fu).ct,(wL fu).ct,(nZ fu).ct] (ids:=[124,128,130]) rfl (by decide) i206 (C:=ak) (ci:=λcp=>aj) (λcp ok=>aB) (λcp H=>arE cp fu x1 x2 (u124 H.1) (zX H.2.1) (qp H.2.2.1)) h
def WB:TD:=zz [[6],[],[0,1,2,7,8,9,10,11]]
def akp:=Da (aC WB.eq_1)
theorem an9:au prog 374 WB=some ⟨ae Tryz.f374,[.tmp 6],[23]⟩:=fA Tryz.func374
def LQ:Int->AV:=λr=> .v (.int .u32 r)
structure OH (fu:Nat) (cp:af):Prop where
 ap: ∀ {a0:Int} {a1:Int} {r},rZ fu a0 a1=some r->cp 215 [.v (.int .u32 a0),.v (.int .u32 a1)]=some (.v (.int .u32 r))
noncomputable def Fp(fu:Nat):Cm prog (Int×Int) Int:=⟨215,λt=>[.v (.int .u32 t.1),.v (.int .u32 t.2)],λt=>rZ fu t.1 t.2,e215,λt b h=>avL fu t.1 t.2 b h,Zi⟩
theorem KC(H:aI cp (Fp fu).ct):OH fu cp:=⟨λ {a0 a1 r} h=>(Fp fu).at H (a0,a1) r h⟩
structure Cj (fu:Nat) (cp:af):Prop where
 ap: ∀ {a0:Int} {a1:Int} {r},pM fu a0 a1=some r->cp 206 [.v (.int .u32 a0),.v (.int .u32 a1)]=some (.v (.int .u32 r))
noncomputable def zh(fu:Nat):Cm prog (Int×Int) Int:=⟨206,λt=>[.v (.int .u32 t.1),.v (.int .u32 t.2)],λt=>pM fu t.1 t.2,e206,λt b h=>aHY fu t.1 t.2 b h,Zi⟩
theorem u206(H:aI cp (zh fu).ct):Cj fu cp:=⟨λ {a0 a1 r} h=>(zh fu).at H (a0,a1) r h⟩
theorem arc(cp:af)(fu:Nat)(x1:Int)(x2:Int)(x3:Int)(H1:OH fu cp)(H2:Cj fu cp):J (go prog ak cp aj 0 [] WB fu (fin prog [.tmp 6] [23]) (ae Tryz.f374) (ay 0 [.v (.int .u32 x1),.v (.int .u32 x2),.v (.int .u32 x3)]) [] []) (rX fu x1 x2 x3) LQ:=by
 unfold rX LQ
 have da:=akp
 conv=>arg 1;simp only[ae,Tryz.f374]
 have z0:=akp
 exact Wk
theorem aHF(fu:Nat)(x1:Int)(x2:Int)(x3:Int)(r)(h:rX fu x1 x2 x3=some r):aA prog 374 [.v (.int .u32 x1),.v (.int .u32 x2),.v (.int .u32 x3)] (LQ r):=aH mixed [(Fp fu).ct,(zh fu).ct] (ids:=[215,206]) rfl (by decide) an9 (C:=ak) (ci:=λcp=>aj) (λcp ok=>aB) (λcp H=>arc cp fu x1 x2 x3 (KC H.1) (u206 H.2.1)) h
def TJ:TD:=zz [[4],[],[10,11,12,13,14],[],[],[],[16,17,18],[],[0,19,20,21,22,23,24,25],[],[26,27,28],[],[1,5,29,30,31,32,33,34],[],[9],[],[35,36],[],[38,39,40,41,42,43,44,45],[],[46,47,48],[],[6,7,8,49,50],[],[52,53],[],[9,54,55]]
def alz:=Da (aC TJ.eq_1)
theorem aF8:au prog 372 TJ=some ⟨ae Tryz.f372,[.tmp 4],[23]⟩:=fA Tryz.func372
def J9:Int->AV:=λr=> .v (.int .u32 r)
structure G6 (fu:Nat) (cp:af):Prop where
 ap: ∀ {a0:Int} {a1:Int} {a2:Int} {r},rX fu a0 a1 a2=some r->cp 374 [.v (.int .u32 a0),.v (.int .u32 a1),.v (.int .u32 a2)]=some (.v (.int .u32 r))
noncomputable def Fe(fu:Nat):Cm prog (Int×Int×Int) Int:=⟨374,λt=>[.v (.int .u32 t.1),.v (.int .u32 t.2.1),.v (.int .u32 t.2.2)],λt=>rX fu t.1 t.2.1 t.2.2,LQ,λt b h=>aHF fu t.1 t.2.1 t.2.2 b h,Zi⟩
theorem JZ(H:aI cp (Fe fu).ct):G6 fu cp:=⟨λ {a0 a1 a2 r} h=>(Fe fu).at H (a0,a1,a2) r h⟩
def gQ.j3:LJ 3 26 Unit Int:=⟨λr t e=>[(9,.v (.int .u32 t))],λr t h=>[]⟩
def gQ.j2:LJ 2 22 Unit Int:=⟨λr t e=>[(6,er e 6),(7,er e 7),(8,er e 8),(9,.v (.int .u32 t))],λr t h=>[]⟩
def gQ.j1:LJ 1 6 Unit Unit:=⟨λr t e=>[(0,er e 0),(1,er e 1)],λr t h=>[]⟩
open gQ in
theorem aMH(cp:af)(fu:Nat)(x1:Int)(x2:Int)(H1:jd fu cp)(H2:qL fu cp)(H3:pU fu cp)(H4:Nq fu cp)(H5:Dz fu cp)(H6:Dn fu cp)(H7:Hl fu cp)(H8:wG fu cp)(H9:G6 fu cp):J (go prog ak cp aj 0 [] TJ fu (fin prog [.tmp 4] [23]) (ae Tryz.f372) (ay 0 [.v (.int .u32 x1),.v (.int .i64 x2)]) [] []) (gQ fu x1 x2) J9:=by
 unfold gQ J9
 have da:=alz
 conv=>arg 1;simp only[ae,Tryz.f372]
 have z0:=alz
 exact Wk
theorem aJ2(fu:Nat)(x1:Int)(x2:Int)(r)(h:gQ fu x1 x2=some r):aA prog 372 [.v (.int .u32 x1),.v (.int .i64 x2)] (J9 r):=aH mixed [(iY fu).ct,(qw fu).ct,(oq fu).ct,(Gq fu).ct,(AZ fu).ct,(Az fu).ct,(Eh fu).ct,(uD fu).ct,(Fe fu).ct] (ids:=[124,126,209,201,309,139,310,197,374]) rfl (by decide) aF8 (C:=ak) (ci:=λcp=>aj) (λcp ok=>aB) (λcp H=>aMH cp fu x1 x2 (u124 H.1) (rW H.2.1) (qG H.2.2.1) (u201 H.2.2.2.1) (Jb H.2.2.2.2.1) (u139 H.2.2.2.2.2.1) (JI H.2.2.2.2.2.2.1) (zB H.2.2.2.2.2.2.2.1) (JZ H.2.2.2.2.2.2.2.2.1)) h
def Zk:TD:=zz [[2],[],[0,3,4]]
def afn:=Da (aC Zk.eq_1)
theorem atv:au prog 316 Zk=some ⟨ae Tryz.f316,[.tmp 2],[23]⟩:=fA Tryz.func316
def e316:Int->AV:=λr=> .v (.int .u32 r)
structure Yt (fu:Nat) (cp:af):Prop where
 ap: ∀ {a0:Int} {a1:Int} {r},gQ fu a0 a1=some r->cp 372 [.v (.int .u32 a0),.v (.int .i64 a1)]=some (.v (.int .u32 r))
noncomputable def QO(fu:Nat):Cm prog (Int×Int) Int:=⟨372,λt=>[.v (.int .u32 t.1),.v (.int .i64 t.2)],λt=>gQ fu t.1 t.2,J9,λt b h=>aJ2 fu t.1 t.2 b h,Zi⟩
theorem aiZ(H:aI cp (QO fu).ct):Yt fu cp:=⟨λ {a0 a1 r} h=>(QO fu).at H (a0,a1) r h⟩
theorem arX(cp:af)(fu:Nat)(x1:Int)(H1:Yt fu cp):J (go prog ak cp aj 0 [] Zk fu (fin prog [.tmp 2] [23]) (ae Tryz.f316) (ay 0 [.v (.int .u32 x1)]) [] []) (Jq fu x1) e316:=by
 unfold Jq e316
 have da:=afn
 conv=>arg 1;simp only[ae,Tryz.f316]
 have z0:=afn
 exact Wk
theorem apG(fu:Nat)(x1:Int)(r)(h:Jq fu x1=some r):aA prog 316 [.v (.int .u32 x1)] (e316 r):=aH mixed [(QO fu).ct] (ids:=[372]) rfl (by decide) atv (C:=ak) (ci:=λcp=>aj) (λcp ok=>aB) (λcp H=>arX cp fu x1 (aiZ H.1)) h
def YX:TD:=zz [[2],[],[0,3,4]]
def ait:=Da (aC YX.eq_1)
theorem aEA:au prog 317 YX=some ⟨ae Tryz.f317,[.tmp 2],[23]⟩:=fA Tryz.func317
def e317:Int->AV:=λr=> .v (.int .u32 r)
theorem aIq(cp:af)(fu:Nat)(x1:Int)(H1:Yt fu cp):J (go prog ak cp aj 0 [] YX fu (fin prog [.tmp 2] [23]) (ae Tryz.f317) (ay 0 [.v (.int .u32 x1)]) [] []) (Pg fu x1) e317:=by
 unfold Pg e317
 have da:=ait
 conv=>arg 1;simp only[ae,Tryz.f317]
 have z0:=ait
 exact Wk
theorem aoR(fu:Nat)(x1:Int)(r)(h:Pg fu x1=some r):aA prog 317 [.v (.int .u32 x1)] (e317 r):=aH mixed [(QO fu).ct] (ids:=[372]) rfl (by decide) aEA (C:=ak) (ci:=λcp=>aj) (λcp ok=>aB) (λcp H=>aIq cp fu x1 (aiZ H.1)) h
def aaN:TD:=zz [[4],[],[1,5,6],[],[8,9],[],[0,10]]
def af9:=Da (aC aaN.eq_1)
theorem au7:au prog 373 aaN=some ⟨ae Tryz.f373,[.tmp 4],[23]⟩:=fA Tryz.func373
def QG:Int->AV:=λr=> .v (.int .u32 r)
theorem amW(cp:af)(fu:Nat)(x1:Int)(x2:Int)(H1:wG fu cp):J (go prog ak cp aj 0 [] aaN fu (fin prog [.tmp 4] [23]) (ae Tryz.f373) (ay 0 [.v (.int .u32 x1),.v (.int .u32 x2)]) [] []) (vg fu x1 x2) QG:=by
 unfold vg QG
 have da:=af9
 conv=>arg 1;simp only[ae,Tryz.f373]
 have z0:=af9
 exact Wk
theorem aBd(fu:Nat)(x1:Int)(x2:Int)(r)(h:vg fu x1 x2=some r):aA prog 373 [.v (.int .u32 x1),.v (.int .u32 x2)] (QG r):=aH mixed [(uD fu).ct] (ids:=[197]) rfl (by decide) au7 (C:=ak) (ci:=λcp=>aj) (λcp ok=>aB) (λcp H=>amW cp fu x1 x2 (zB H.1)) h
def VN:TD:=zz [[2],[],[5,6],[],[8,9],[],[],[],[11,12],[],[13],[],[3,14,15,16,17,18,19],[],[0,4,20,21,22,23]]
def afA:=Da (aC VN.eq_1)
theorem aLv:au prog 318 VN=some ⟨ae Tryz.f318,[.tmp 2],[23]⟩:=fA Tryz.func318
def e318:Int->AV:=λr=> .v (.int .u32 r)
structure AL (fu:Nat) (cp:af):Prop where
 ap: ∀ {a0:Int} {r},o8 fu a0=some r->cp 213 [.v (.int .u32 a0)]=some (.v (.int .u32 r))
noncomputable def yT(fu:Nat):Cm prog Int Int:=⟨213,λt=>[.v (.int .u32 t)],λt=>o8 fu t,e213,λt b h=>ama fu t b h,Zi⟩
theorem EI(H:aI cp (yT fu).ct):AL fu cp:=⟨λ {a0 r} h=>(yT fu).at H a0 r h⟩
structure aaA (fu:Nat) (cp:af):Prop where
 ap: ∀ {a0:Int} {a1:Int} {r},vg fu a0 a1=some r->cp 373 [.v (.int .u32 a0),.v (.int .u32 a1)]=some (.v (.int .u32 r))
noncomputable def Qu(fu:Nat):Cm prog (Int×Int) Int:=⟨373,λt=>[.v (.int .u32 t.1),.v (.int .u32 t.2)],λt=>vg fu t.1 t.2,QG,λt b h=>aBd fu t.1 t.2 b h,Zi⟩
theorem agE(H:aI cp (Qu fu).ct):aaA fu cp:=⟨λ {a0 a1 r} h=>(Qu fu).at H (a0,a1) r h⟩
theorem aJg(cp:af)(fu:Nat)(x1:Int)(H1:oV fu cp)(H2:jd fu cp)(H3:qc fu cp)(H4:pU fu cp)(H5:AL fu cp)(H6:BU fu cp)(H7:BF fu cp)(H8:IC fu cp)(H9:G6 fu cp)(H10:aaA fu cp):J (go prog ak cp aj 0 [] VN fu (fin prog [.tmp 2] [23]) (ae Tryz.f318) (ay 0 [.v (.int .u32 x1)]) [] []) (Ci fu x1) e318:=by
 unfold Ci e318
 have da:=afA
 conv=>arg 1;simp only[ae,Tryz.f318]
 have z0:=afA
 exact Wk
theorem aqU(fu:Nat)(x1:Int)(r)(h:Ci fu x1=some r):aA prog 318 [.v (.int .u32 x1)] (e318 r):=aH mixed [(oC fu).ct,(iY fu).ct,(nZ fu).ct,(oq fu).ct,(yT fu).ct,(xG fu).ct,(xP fu).ct,(Ap fu).ct,(Fe fu).ct,(Qu fu).ct] (ids:=[140,124,130,209,213,216,204,212,374,373]) rfl (by decide) aLv (C:=ak) (ci:=λcp=>aj) (λcp ok=>aB) (λcp H=>aJg cp fu x1 (pV H.1) (u124 H.2.1) (qp H.2.2.1) (qG H.2.2.2.1) (EI H.2.2.2.2.1) (BL H.2.2.2.2.2.1) (Bh H.2.2.2.2.2.2.1) (Gz H.2.2.2.2.2.2.2.1) (JZ H.2.2.2.2.2.2.2.2.1) (agE H.2.2.2.2.2.2.2.2.2.1)) h
def Zp:TD:=zz [[2],[],[7,8],[],[10,11],[],[],[],[13,14],[],[15],[],[17,18],[],[19,20],[],[21,22,23],[],[4,24,25,26,27,28],[],[3,5,29,30,31,32,33,34,35,36],[],[0,6,37,38,39,40]]
def al2:=Da (aC Zp.eq_1)
theorem ayZ:au prog 319 Zp=some ⟨ae Tryz.f319,[.tmp 2],[23]⟩:=fA Tryz.func319
def abr:Int->AV:=λr=> .v (.int .u32 r)
theorem aD7(cp:af)(fu:Nat)(x1:Int)(H1:oV fu cp)(H2:jd fu cp)(H3:qc fu cp)(H4:aaA fu cp)(H5:Dz fu cp)(H6:BF fu cp)(H7:Hl fu cp)(H8:pU fu cp)(H9:wG fu cp)(H10:AL fu cp)(H11:G6 fu cp):J (go prog ak cp aj 0 [] Zp fu (fin prog [.tmp 2] [23]) (ae Tryz.f319) (ay 0 [.v (.int .u32 x1)]) [] []) (Dx fu x1) abr:=by
 unfold Dx abr
 have da:=al2
 conv=>arg 1;simp only[ae,Tryz.f319]
 have z0:=al2
 exact Wk
theorem asT(fu:Nat)(x1:Int)(r)(h:Dx fu x1=some r):aA prog 319 [.v (.int .u32 x1)] (abr r):=aH mixed [(oC fu).ct,(iY fu).ct,(nZ fu).ct,(Qu fu).ct,(AZ fu).ct,(xP fu).ct,(Eh fu).ct,(oq fu).ct,(uD fu).ct,(yT fu).ct,(Fe fu).ct] (ids:=[140,124,130,373,309,204,310,209,197,213,374]) rfl (by decide) ayZ (C:=ak) (ci:=λcp=>aj) (λcp ok=>aB) (λcp H=>aD7 cp fu x1 (pV H.1) (u124 H.2.1) (qp H.2.2.1) (agE H.2.2.2.1) (Jb H.2.2.2.2.1) (Bh H.2.2.2.2.2.1) (JI H.2.2.2.2.2.2.1) (qG H.2.2.2.2.2.2.2.1) (zB H.2.2.2.2.2.2.2.2.1) (EI H.2.2.2.2.2.2.2.2.2.1) (JZ H.2.2.2.2.2.2.2.2.2.2.1)) h
def Xe:TD:=zz [[2],[],[3],[],[],[],[0,5,6,7,8,9,10]]
def alQ:=Da (aC Xe.eq_1)
theorem aoU:au prog 320 Xe=some ⟨ae Tryz.f320,[.tmp 2],[23]⟩:=fA Tryz.func320
def Uo:Int->AV:=λr=> .v (.int .u32 r)
theorem asx(cp:af)(fu:Nat)(x1:Int)(H1:jd fu cp)(H2:wG fu cp)(H3:AL fu cp)(H4:BU fu cp)(H5:BF fu cp)(H6:G6 fu cp):J (go prog ak cp aj 0 [] Xe fu (fin prog [.tmp 2] [23]) (ae Tryz.f320) (ay 0 [.v (.int .u32 x1)]) [] []) (Dh fu x1) Uo:=by
 unfold Dh Uo
 have da:=alQ
 conv=>arg 1;simp only[ae,Tryz.f320]
 have z0:=alQ
 exact Wk
theorem azL(fu:Nat)(x1:Int)(r)(h:Dh fu x1=some r):aA prog 320 [.v (.int .u32 x1)] (Uo r):=aH mixed [(iY fu).ct,(uD fu).ct,(yT fu).ct,(xG fu).ct,(xP fu).ct,(Fe fu).ct] (ids:=[124,197,213,216,204,374]) rfl (by decide) aoU (C:=ak) (ci:=λcp=>aj) (λcp ok=>aB) (λcp H=>asx cp fu x1 (u124 H.1) (zB H.2.1) (EI H.2.2.1) (BL H.2.2.2.1) (Bh H.2.2.2.2.1) (JZ H.2.2.2.2.2.1)) h
def YI:TD:=zz [[1,4],[],[0,5,6]]
def akZ:=Da (aC YI.eq_1)
theorem aIz:au prog 205 YI=some ⟨ae Tryz.f205,[.tmp 4],[23]⟩:=fA Tryz.func205
def Le:Int->AV:=λr=> .v (.int .u32 r)
theorem aAE(cp:af)(fu:Nat)(x1:Int)(x2:Int)(H1:Cj fu cp):J (go prog ak cp aj 0 [] YI fu (fin prog [.tmp 4] [23]) (ae Tryz.f205) (ay 0 [.v (.int .u32 x1),.v (.int .u32 x2)]) [] []) (Eb fu x1 x2) Le:=by
 unfold Eb Le
 have da:=akZ
 conv=>arg 1;simp only[ae,Tryz.f205]
 have z0:=akZ
 exact Wk
theorem aqC(fu:Nat)(x1:Int)(x2:Int)(r)(h:Eb fu x1 x2=some r):aA prog 205 [.v (.int .u32 x1),.v (.int .u32 x2)] (Le r):=aH mixed [(zh fu).ct] (ids:=[206]) rfl (by decide) aIz (C:=ak) (ci:=λcp=>aj) (λcp ok=>aB) (λcp H=>aAE cp fu x1 x2 (u206 H.1)) h
def YY:TD:=zz [[5],[],[6],[],[8,9,10,11],[],[0,1,2,12]]
def Du:=Da (aC YY.eq_1)
theorem aov:au prog 306 YY=some ⟨ae Tryz.f306,[.tmp 5],[23]⟩:=fA Tryz.func306
def e306:Int->AV:=λr=> .v (.int .u32 r)
theorem aBJ(cp:af)(fu:Nat)(x1:Int)(x2:Int)(p2:Int→Int→Option Int)(fv_p2:FuncId)(ca_p2:List AV)(cap_p2:bf ca_p2)(hp_p2: ∀ (y0:Int) (y1:Int) r,p2 y0 y1=some r→cp fv_p2 ((.v (.int .u32 y0))::(.v (.int .u32 y1))::ca_p2)=some (.v (.int .u32 r)))(H130_0: ∀ (a0:Int) (a1:Int) r,iM fu a0 a1=some r→cp 130 [.v (.int .u32 a0),.v (.int .u32 a1)]=some (.v (.bool r))):J (go prog ak cp aj 0 [] YY fu (fin prog [.tmp 5] [23]) (ae Tryz.f306) (ay 0 [.v (.int .u32 x1),.v (.int .u32 x2),.aF [.fn fv_p2 [] ca_p2] 0]) [] []) (rF fu x1 x2 p2) e306:=by
 unfold rF e306
 have da:=Du
 have c4_p2:=λg=>(cap_p2.1 g).1;have c3_p2:=λg=>(cap_p2.1 g).2.1;have b4_p2:=λg=>(cap_p2.1 g).2.2.1;have b3_p2:=λg=>(cap_p2.1 g).2.2.2;have nm_p2:=cap_p2.2
 conv=>arg 1;simp (disch:=first|exact Zd|fail) only[ae,Tryz.f306,ZZ,Du,simprocAttr,c4_p2,c3_p2,b4_p2,b3_p2,nm_p2]
 refine J.eq dZ ?_
 refine J.bind λx4 h1=> ?_
 have e_h1:=H130_0 _ _ _ h1
 try simp only[NN,NT,LN,simprocAttr,DT]at e_h1
 conv=>arg 1;simp (disch:=first|exact Zd|fail) only[ZZ,Du,simprocAttr,c4_p2,c3_p2,b4_p2,b3_p2,nm_p2,e_h1]
 refine J.ite (λh2=> ?_) (λh2=> ?_)
 ·have h2':x4=true:=h2
  refine J.bind λx5 h3=> ?_
  have e_h3:=hp_p2 _ _ _ h3
  try simp only[NN,NT,LN,simprocAttr,DT]at e_h3
  refine J.some ?_
  simp (maxSteps:=20000000) (disch:=first|exact Zd|fail) only[ZZ,Du,simprocAttr,c4_p2,c3_p2,b4_p2,b3_p2,nm_p2,e_h1,h2',e_h3,FN]
 ·have h2':x4=false:=Bool.eq_false_iff.2 h2
  conv=>arg 1;simp (disch:=first|exact Zd|fail) only[ZZ,Du,simprocAttr,c4_p2,c3_p2,b4_p2,b3_p2,nm_p2,e_h1,h2']
  refine J.eq dS ?_
  refine J.some ?_
  simp (maxSteps:=20000000) (disch:=first|exact Zd|fail) only[ZZ,Du,simprocAttr,c4_p2,c3_p2,b4_p2,b3_p2,nm_p2,e_h1,h2',FN]
noncomputable def agi(fu:Nat)(x1:Int)(x2:Int)(p2:Int->Int->Option Int)(fv_p2:FuncId)(ca_p2:List AV):af:=gm 130 (gV (λ(t:Int×Int)=>([.v (.int .u32 t.1),.v (.int .u32 t.2)]:List AV)) (λt=>iM fu t.1 t.2) Gs) (gm fv_p2 (gV (λ(t:Int×Int)=>((.v (.int .u32 t.1))::(.v (.int .u32 t.2))::ca_p2:List AV)) (λt=>p2 t.1 t.2) (λr=> .v (.int .u32 r))) (mY))
theorem aAS(fu:Nat)(x1:Int)(x2:Int)(p2:Int->Int->Option Int)(fv_p2:FuncId)(ca_p2:List AV)(nc_p2:jw [130] fv_p2=false)(cap_p2:bf ca_p2)(hp_p2: ∀ (y0:Int) (y1:Int) r,p2 y0 y1=some r->aA prog fv_p2 ((.v (.int .u32 y0))::(.v (.int .u32 y1))::ca_p2) (.v (.int .u32 r))):aJ prog (agi fu x1 x2 p2 fv_p2 ca_p2):=jD (jD (nJ) (jE (λt b h=>hp_p2 t.1 t.2 b h))) (jE (λt b h=>agk fu t.1 t.2 b h))
theorem Xl(fu:Nat)(x1:Int)(x2:Int)(p2:Int→Int→Option Int)(fv_p2:FuncId)(ca_p2:List AV)(nc_p2:jw [130] fv_p2=false)(cap_p2:bf ca_p2)(hp_p2: ∀ (y0:Int) (y1:Int) r,p2 y0 y1=some r→aA prog fv_p2 ((.v (.int .u32 y0))::(.v (.int .u32 y1))::ca_p2) (.v (.int .u32 r)))(r)(h:rF fu x1 x2 p2=some r):aA prog 306 [.v (.int .u32 x1),.v (.int .u32 x2),.aF [.fn fv_p2 [] ca_p2] 0] (e306 r):=
  pJ mixed (cp:=agi fu x1 x2 p2 fv_p2 ca_p2) (aAS fu x1 x2 p2 fv_p2 ca_p2 nc_p2 cap_p2 hp_p2) aB aov (aBJ _ fu x1 x2 p2 fv_p2 ca_p2 cap_p2 (λy0 y1 r h=>MS (λhfv=>absurd nc_p2 (by first|(rw[hfv];decide)|(rw[← hfv];decide))) (jo (jv (a:=(y0,y1)) (by intro a b h;first|(exact rfl)|(simp only[gB,IJ]at h;first|exact h|(simp_all [Prod.ext_iff]))) h))) (λa0 a1 r h=>jo (jv (a:=(a0,a1)) (by intro a b h;first|(exact rfl)|(simp only[gB,IJ]at h;first|exact h|(simp_all [Prod.ext_iff]))) h))) h
def VY:TD:=zz [[1,5],[],[0,2,6,7,8,9]]
def aeb:=Da (aC VY.eq_1)
theorem i208:au prog 208 VY=some ⟨ae Tryz.f208,[.tmp 5],[23]⟩:=fA Tryz.func208
def e208:Int->AV:=λr=> .v (.int .u32 r)
theorem aoL(cp:af)(fu:Nat)(x1:Int)(x2:Int)(x3:T_Setting)(H1:pU fu cp):J (go prog ak cp aj 0 [] VY fu (fin prog [.tmp 5] [23]) (ae Tryz.f208) (ay 0 [.v (.int .u32 x1),.v (.int .u32 x2),.aF (dL x3) 0]) [] []) (DL fu x1 x2 x3) e208:=by
 unfold DL e208
 have da:=aeb
 conv=>arg 1;simp only[ae,Tryz.f208]
 have z0:=aeb
 exact Wk
theorem aIZ(fu:Nat)(x1:Int)(x2:Int)(x3:T_Setting)(r)(h:DL fu x1 x2 x3=some r):aA prog 208 [.v (.int .u32 x1),.v (.int .u32 x2),.aF (dL x3) 0] (e208 r):=aH mixed [(oq fu).ct] (ids:=[209]) rfl (by decide) i208 (C:=ak) (ci:=λcp=>aj) (λcp ok=>aB) (λcp H=>aoL cp fu x1 x2 x3 (qG H.1)) h
def X9:TD:=[(0,[1,5]),(0,[]),(7,[0,2,6,7,8,9,10,11])]
def adz:=Da (aC X9.eq_1)
theorem aEW:au prog 211 X9=some ⟨ae Tryz.f211,[.tmp 5],[23]⟩:=fA Tryz.func211
def e211:Int->AV:=λr=> .v (.int .u32 r)
theorem aux(cp:af)(fu:Nat)(x1:Int)(x2:Int)(x3:T_Setting)(H1:AL fu cp)(H2:IC fu cp)(H3:pU fu cp):J (go prog ak cp aj 0 [] X9 fu (fin prog [.tmp 5] [23]) (ae Tryz.f211) (ay 0 [.v (.int .u32 x1),.v (.int .u32 x2),.aF (dL x3) 0]) [] []) (BX fu x1 x2 x3) e211:=by
 unfold BX e211
 have da:=adz
 conv=>arg 1;simp only[ae,Tryz.f211]
 have z0:=adz
 exact Wk
theorem aso(fu:Nat)(x1:Int)(x2:Int)(x3:T_Setting)(r)(h:BX fu x1 x2 x3=some r):aA prog 211 [.v (.int .u32 x1),.v (.int .u32 x2),.aF (dL x3) 0] (e211 r):=aH mixed [(yT fu).ct,(Ap fu).ct,(oq fu).ct] (ids:=[213,212,209]) rfl (by decide) aEW (C:=ak) (ci:=λcp=>aj) (λcp ok=>aB) (λcp H=>aux cp fu x1 x2 x3 (EI H.1) (Gz H.2.1) (qG H.2.2.1)) h
def ZV:TD:=[(0,[1,5]),(0,[]),(10,[0,2,6,7,8,9,10,11,12,13,14])]
def ai2:=Da (aC ZV.eq_1)
theorem aKR:au prog 214 ZV=some ⟨ae Tryz.f214,[.tmp 5],[23]⟩:=fA Tryz.func214
def e214:Int->AV:=λr=> .v (.int .u32 r)
theorem asv(cp:af)(fu:Nat)(x1:Int)(x2:Int)(x3:T_Setting)(H1:pU fu cp)(H2:BU fu cp)(H3:OH fu cp)(H4:Cj fu cp):J (go prog ak cp aj 0 [] ZV fu (fin prog [.tmp 5] [23]) (ae Tryz.f214) (ay 0 [.v (.int .u32 x1),.v (.int .u32 x2),.aF (dL x3) 0]) [] []) (EN fu x1 x2 x3) e214:=by
 unfold EN e214
 have da:=ai2
 conv=>arg 1;simp only[ae,Tryz.f214]
 have z0:=ai2
 exact Wk
theorem aBO(fu:Nat)(x1:Int)(x2:Int)(x3:T_Setting)(r)(h:EN fu x1 x2 x3=some r):aA prog 214 [.v (.int .u32 x1),.v (.int .u32 x2),.aF (dL x3) 0] (e214 r):=aH mixed [(oq fu).ct,(xG fu).ct,(Fp fu).ct,(zh fu).ct] (ids:=[209,216,215,206]) rfl (by decide) aKR (C:=ak) (ci:=λcp=>aj) (λcp ok=>aB) (λcp H=>asv cp fu x1 x2 x3 (qG H.1) (BL H.2.1) (KC H.2.2.1) (u206 H.2.2.2.1)) h
def Tj:TD:=zz [[2],[],[3],[],[],[],[0,5,6,7,8,9,10,11,12,13]]
def aca:=Da (aC Tj.eq_1)
theorem arP:au prog 321 Tj=some ⟨ae Tryz.f321,[.tmp 2],[23]⟩:=fA Tryz.func321
def e321:Int->AV:=λr=> .v (.int .u32 r)
structure Yq (fu:Nat) (cp:af):Prop where
 ap: ∀ {a0:Int} {r},lX fu a0=some r->cp 315 [.v (.int .u32 a0)]=some (.v (.int .u32 r))
noncomputable def J4(fu:Nat):Cm prog Int Int:=⟨315,λt=>[.v (.int .u32 t)],λt=>lX fu t,e315,λt b h=>ahQ fu t b h,Zi⟩
theorem aiO(H:aI cp (J4 fu).ct):Yq fu cp:=⟨λ {a0 r} h=>(J4 fu).at H a0 r h⟩
theorem aFv(cp:af)(fu:Nat)(x1:Int)(H1:jd fu cp)(H2:Cj fu cp)(H3:oV fu cp)(H4:wG fu cp)(H5:AL fu cp)(H6:BU fu cp)(H7:Yq fu cp):J (go prog ak cp aj 0 [] Tj fu (fin prog [.tmp 2] [23]) (ae Tryz.f321) (ay 0 [.v (.int .u32 x1)]) [] []) (D5 fu x1) e321:=by
 unfold D5 e321
 have da:=aca
 conv=>arg 1;simp only[ae,Tryz.f321]
 have z0:=aca
 exact Wk
theorem aLX(fu:Nat)(x1:Int)(r)(h:D5 fu x1=some r):aA prog 321 [.v (.int .u32 x1)] (e321 r):=aH mixed [(iY fu).ct,(zh fu).ct,(oC fu).ct,(uD fu).ct,(yT fu).ct,(xG fu).ct,(J4 fu).ct] (ids:=[124,206,140,197,213,216,315]) rfl (by decide) arP (C:=ak) (ci:=λcp=>aj) (λcp ok=>aB) (λcp H=>aFv cp fu x1 (u124 H.1) (u206 H.2.1) (pV H.2.2.1) (zB H.2.2.2.1) (EI H.2.2.2.2.1) (BL H.2.2.2.2.2.1) (aiO H.2.2.2.2.2.2.1)) h
def RS:TD:=zz [[2],[],[0,3]]
def acD:=Da (aC RS.eq_1)
theorem apn:au prog 322 RS=some ⟨ae Tryz.f322,[.tmp 2],[23]⟩:=fA Tryz.func322
def TW:Int->AV:=λr=> .v (.int .u32 r)
theorem an1(cp:af)(fu:Nat)(x1:Int):J (go prog ak cp aj 0 [] RS fu (fin prog [.tmp 2] [23]) (ae Tryz.f322) (ay 0 [.v (.int .u32 x1)]) [] []) (QT fu x1) TW:=by
 unfold QT TW
 have da:=acD
 conv=>arg 1;simp only[ae,Tryz.f322]
 have z0:=acD
 exact Wk
theorem aGF(fu:Nat)(x1:Int)(r)(h:QT fu x1=some r):aA prog 322 [.v (.int .u32 x1)] (TW r):=aH mixed [] (ids:=[]) rfl (by decide) apn (C:=ak) (ci:=λcp=>aj) (λcp ok=>aB) (λcp H=>an1 cp fu x1) h
def D8:TD:=zz [[2,3],[],[6,7,8,9],[],[0,10,11,12],[],[13],[],[15],[],[4,5,16,17,18]]
def aiF:=Da (aC D8.eq_1)
theorem RD:au prog 312 D8=some ⟨ae Tryz.f312,[.tmp 2,.tmp 3],[172,3]⟩:=fA Tryz.func312
def e312:(Int×Int)->AV:=λr=> .tuple [.v (.int .u64 r.1),.v (.int .i64 r.2)]
theorem aCX(cp:af)(fu:Nat)(x1:Int):J (go prog ak cp aj 0 [] D8 fu (fin prog [.tmp 2,.tmp 3] [172,3]) (ae Tryz.f312) (ay 0 [.v (.int .u32 x1)]) [] []) (xy fu x1) e312:=by
 unfold xy e312
 have da:=aiF
 conv=>arg 1;simp only[ae,Tryz.f312]
 have z0:=aiF
 exact Wk
theorem ava(fu:Nat)(x1:Int)(r)(h:xy fu x1=some r):aA prog 312 [.v (.int .u32 x1)] (e312 r):=aH mixed [] (ids:=[]) rfl (by decide) RD (C:=ak) (ci:=λcp=>aj) (λcp ok=>aB) (λcp H=>aCX cp fu x1) h
def FZ:TD:=zz [[4],[],[10,11,12,13,14,15,16,17,18,19,20,21,22,23,24],[6,7],[],[],[26,27],[],[28],[],[29,30,31,32,33],[],[1,34,35,36,37,38],[],[39,40],[],[42,43,44],[],[46],[],[47,48,49,50,51],[],[52],[],[53,54,55],[],[56,57],[],[59,60],[],[61,62,63,64],[],[0,5,8,65,66,67,68,69,70,71]]
def agj:=Da (aC FZ.eq_1)
theorem aad:au prog 217 FZ=some ⟨ae Tryz.f217,[.tmp 4],[23]⟩:=fA Tryz.func217
def e217:Int->AV:=λr=> .v (.int .u32 r)
structure abM (fu:Nat) (cp:af):Prop where
 ap: ∀ {a0:Int} {r},xy fu a0=some r->cp 312 [.v (.int .u32 a0)]=some (.tuple [.v (.int .u64 r.1),.v (.int .i64 r.2)])
noncomputable def WA(fu:Nat):Cm prog Int (Int×Int):=⟨312,λt=>[.v (.int .u32 t)],λt=>xy fu t,e312,λt b h=>ava fu t b h,Zi⟩
theorem aKd(H:aI cp (WA fu).ct):abM fu cp:=⟨λ {a0 r} h=>(WA fu).at H a0 r h⟩
def fP.m1:LJ 1 26 Unit (Int×Int):=⟨λr s e=>[(0,er e 0),(5,.v (.int .u64 s.1)),(6,.v (.int .i64 s.2)),(7,er e 7),(8,er e 8)],λr s h=>[]⟩
def fP.j3:LJ 3 32 Unit Int:=⟨λr t e=>[(0,er e 0),(5,.v (.int .u64 t)),(8,er e 8)],λr t h=>[]⟩
def fP.j2:LJ 2 24 Unit (Int×Int):=⟨λr t e=>[(0,er e 0),(5,er e 5),(6,er e 6),(7,.v (.int .u64 t.1)),(8,.v (.int .i64 t.2))],λr t h=>[]⟩
def fP.j1:LJ 1 10 Unit Unit:=⟨λr t e=>[(0,er e 0),(1,er e 1)],λr t h=>[]⟩
open fP in
theorem axO(cp:af)(fu:Nat)(x1:Int)(x2:Int)(H1:jd fu cp)(H2:qL fu cp)(H3:oV fu cp)(H4:abM fu cp)(H5:ql fu cp):J (go prog ak cp aj 0 [] FZ fu (fin prog [.tmp 4] [23]) (ae Tryz.f217) (ay 0 [.v (.int .u32 x1),.v (.int .u32 x2)]) [] []) (fP fu x1 x2) e217:=by
 unfold fP e217
 have da:=agj
 conv=>arg 1;simp only[ae,Tryz.f217]
 have z0:=agj
 exact Wk
theorem aJp(fu:Nat)(x1:Int)(x2:Int)(r)(h:fP fu x1 x2=some r):aA prog 217 [.v (.int .u32 x1),.v (.int .u32 x2)] (e217 r):=aH mixed [(iY fu).ct,(qw fu).ct,(oC fu).ct,(WA fu).ct,(pG fu).ct] (ids:=[124,126,140,312,313]) rfl (by decide) aad (C:=ak) (ci:=λcp=>aj) (λcp ok=>aB) (λcp H=>axO cp fu x1 x2 (u124 H.1) (rW H.2.1) (pV H.2.2.1) (aKd H.2.2.2.1) (rC H.2.2.2.2.1)) h
def OI:TD:=zz [[2],[],[0,3,4,5,6,7,8,9,10,11]]
def aFf:=Da (aC OI.eq_1)
noncomputable def MX:Code:=ae Tryz.f314
theorem aDV{C:bn}{cp:af}{ci:bg}{lvl:Nat}{prot:List Id}{D:TD}{n:Nat}{K:KK}{e:Env}{h:Heap}{fs:List Fr}:go prog C cp ci lvl prot D n K MX e h fs=go prog C cp ci lvl prot D n K (ae Tryz.f314) e h fs:=rfl
theorem aqP:au prog 314 OI=some ⟨MX,[.tmp 2],[4]⟩:=fA Tryz.func314
def Yr:TD:=zz [[4],[],[7,8,9,10,11,12,13],[],[],[],[15,16,17,18,19,20],[],[],[],[22,23,24,25,26,27],[],[],[],[29,30,31,32,33,34,35,36,37,38,39,40],[],[],[],[41,42,43,44,45,46],[],[0,1,47,48,49,50,51,52,53,54,55,56,57,58,59,60,61,62,63],[],[65,66],[],[5,67]]
def ahs:=Da (aC Yr.eq_1)
theorem i218:au prog 218 Yr=some ⟨ae Tryz.f218,[.tmp 4],[23]⟩:=fA Tryz.func218
def Nl:Int->AV:=λr=> .v (.int .u32 r)
def lw.j1:LJ 1 18 Unit Unit:=⟨λr t e=>[(0,er e 0),(1,er e 1)],λr t h=>[]⟩
open lw in
theorem axY(cp:af)(fu:Nat)(x1:Int)(x2:Int)(H1:oV fu cp)(H2:jd fu cp)(H3:qL fu cp)(H4:qc fu cp)(H5:Nq fu cp)(H6:AB fu cp)(H7:Yq fu cp)(H8:pU fu cp)(H9:AL fu cp)(H10:Dn fu cp)(H11:wG fu cp):J (go prog (bH [314]) cp (dO prog (bH [314]) cp aj fu 314 OI ⟨MX,[.tmp 2],[4]⟩ aj) 0 [] Yr fu (fin prog [.tmp 4] [23]) (ae Tryz.f218) (ay 0 [.v (.int .u32 x1),.v (.int .u32 x2)]) [] []) (lw fu x1 x2) Nl:=by
 unfold lw Nl
 have da:=ahs
 conv=>arg 1;simp only[ae,Tryz.f218]
 have z0:=ahs
 have z1:=aFf
 have z2:=Tryz.f314.eq_1
 have z3:= @aDV
 have z4:=RI
 have z5:=iO
 have z6:= @ae.eq_1
 exact Wk
theorem ath(fu:Nat)(x1:Int)(x2:Int)(r)(h:lw fu x1 x2=some r):aA prog 218 [.v (.int .u32 x1),.v (.int .u32 x2)] (Nl r):=aH mixed [(oC fu).ct,(iY fu).ct,(qw fu).ct,(nZ fu).ct,(Gq fu).ct,(wL fu).ct,(J4 fu).ct,(oq fu).ct,(yT fu).ct,(Az fu).ct,(uD fu).ct] (ids:=[140,124,126,130,201,128,315,209,213,139,197]) rfl (by decide) i218 (C:=(bH [314])) (ci:=λcp=>(dO prog (bH [314]) cp aj fu 314 OI ⟨MX,[.tmp 2],[4]⟩ aj)) (λcp ok=>(iF mixed ok aB aqP aB)) (λcp H=>axY cp fu x1 x2 (pV H.1) (u124 H.2.1) (rW H.2.2.1) (qp H.2.2.2.1) (u201 H.2.2.2.2.1) (zX H.2.2.2.2.2.1) (aiO H.2.2.2.2.2.2.1) (qG H.2.2.2.2.2.2.2.1) (EI H.2.2.2.2.2.2.2.2.1) (u139 H.2.2.2.2.2.2.2.2.2.1) (zB H.2.2.2.2.2.2.2.2.2.2.1)) h
def ZQ:TD:=zz [[4],[],[0,1,5,6,7]]
def afy:=Da (aC ZQ.eq_1)
theorem i210:au prog 210 ZQ=some ⟨ae Tryz.f210,[.tmp 4],[23]⟩:=fA Tryz.func210
def e210:Int->AV:=λr=> .v (.int .u32 r)
theorem aB6(cp:af)(fu:Nat)(x1:Int)(x2:Int)(H1:pU fu cp):J (go prog ak cp aj 0 [] ZQ fu (fin prog [.tmp 4] [23]) (ae Tryz.f210) (ay 0 [.v (.int .u32 x1),.v (.int .u32 x2)]) [] []) (DX fu x1 x2) e210:=by
 unfold DX e210
 have da:=afy
 conv=>arg 1;simp only[ae,Tryz.f210]
 have z0:=afy
 exact Wk
theorem aGC(fu:Nat)(x1:Int)(x2:Int)(r)(h:DX fu x1 x2=some r):aA prog 210 [.v (.int .u32 x1),.v (.int .u32 x2)] (e210 r):=aH mixed [(oq fu).ct] (ids:=[209]) rfl (by decide) i210 (C:=ak) (ci:=λcp=>aj) (λcp ok=>aB) (λcp H=>aB6 cp fu x1 x2 (qG H.1)) h
def Vw:TD:=zz [[1,4],[],[0,5,6,7,8]]
def akt:=Da (aC Vw.eq_1)
theorem aBe:au prog 220 Vw=some ⟨ae Tryz.f220,[.tmp 4],[2]⟩:=fA Tryz.func220
def e220:Int->AV:=λr=> .v (.int .i64 r)
theorem asC(cp:af)(fu:Nat)(x1:Int)(x2:Int):J (go prog ak cp aj 0 [] Vw fu (fin prog [.tmp 4] [2]) (ae Tryz.f220) (ay 0 [.v (.int .i64 x1),.v (.int .i64 x2)]) [] []) (Cf fu x1 x2) e220:=by
 unfold Cf e220
 have da:=akt
 conv=>arg 1;simp only[ae,Tryz.f220]
 have z0:=akt
 exact Wk
theorem axq(fu:Nat)(x1:Int)(x2:Int)(r)(h:Cf fu x1 x2=some r):aA prog 220 [.v (.int .i64 x1),.v (.int .i64 x2)] (e220 r):=aH mixed [] (ids:=[]) rfl (by decide) aBe (C:=ak) (ci:=λcp=>aj) (λcp ok=>aB) (λcp H=>asC cp fu x1 x2) h
def Ua:TD:=zz [[1,4],[],[0,5,6]]
def ahu:=Da (aC Ua.eq_1)
theorem aLt:au prog 221 Ua=some ⟨ae Tryz.f221,[.tmp 4],[2]⟩:=fA Tryz.func221
def e221:Int->AV:=λr=> .v (.int .i64 r)
theorem apZ(cp:af)(fu:Nat)(x1:Int)(x2:Int):J (go prog ak cp aj 0 [] Ua fu (fin prog [.tmp 4] [2]) (ae Tryz.f221) (ay 0 [.v (.int .i64 x1),.v (.int .i64 x2)]) [] []) (FM fu x1 x2) e221:=by
 unfold FM e221
 have da:=ahu
 conv=>arg 1;simp only[ae,Tryz.f221]
 have z0:=ahu
 exact Wk
theorem aBo(fu:Nat)(x1:Int)(x2:Int)(r)(h:FM fu x1 x2=some r):aA prog 221 [.v (.int .i64 x1),.v (.int .i64 x2)] (e221 r):=aH mixed [] (ids:=[]) rfl (by decide) aLt (C:=ak) (ci:=λcp=>aj) (λcp ok=>aB) (λcp H=>apZ cp fu x1 x2) h
def Y3:TD:=zz [[2],[0],[4,5],[],[],[],[7,8],[],[],[],[]]
def acp:=Da (aC Y3.eq_1)
theorem au5:au prog 223 Y3=some ⟨ae Tryz.f223,[.tmp 2],[2]⟩:=fA Tryz.func223
def e223:Int->AV:=λr=> .v (.int .i64 r)
theorem aBD(cp:af)(fu:Nat)(x1:Int):J (go prog ak cp aj 0 [] Y3 fu (fin prog [.tmp 2] [2]) (ae Tryz.f223) (ay 0 [.v (.int .i64 x1)]) [] []) (zU fu x1) e223:=by
 unfold zU e223
 have da:=acp
 conv=>arg 1;simp only[ae,Tryz.f223]
 have z0:=acp
 exact Wk
theorem ao3(fu:Nat)(x1:Int)(r)(h:zU fu x1=some r):aA prog 223 [.v (.int .i64 x1)] (e223 r):=aH mixed [] (ids:=[]) rfl (by decide) au5 (C:=ak) (ci:=λcp=>aj) (λcp ok=>aB) (λcp H=>aBD cp fu x1) h
def WT:TD:=zz [[1,4],[],[0,5,6]]
def adL:=Da (aC WT.eq_1)
theorem i222:au prog 222 WT=some ⟨ae Tryz.f222,[.tmp 4],[2]⟩:=fA Tryz.func222
def e222:Int->AV:=λr=> .v (.int .i64 r)
structure abJ (fu:Nat) (cp:af):Prop where
 ap: ∀ {a0:Int} {r},zU fu a0=some r->cp 223 [.v (.int .i64 a0)]=some (.v (.int .i64 r))
noncomputable def WY(fu:Nat):Cm prog Int Int:=⟨223,λt=>[.v (.int .i64 t)],λt=>zU fu t,e223,λt b h=>ao3 fu t b h,Zi⟩
theorem aGw(H:aI cp (WY fu).ct):abJ fu cp:=⟨λ {a0 r} h=>(WY fu).at H a0 r h⟩
theorem auD(cp:af)(fu:Nat)(x1:Int)(x2:Int)(H1:abJ fu cp):J (go prog ak cp aj 0 [] WT fu (fin prog [.tmp 4] [2]) (ae Tryz.f222) (ay 0 [.v (.int .i64 x1),.v (.int .i64 x2)]) [] []) (AC fu x1 x2) e222:=by
 unfold AC e222
 have da:=adL
 conv=>arg 1;simp only[ae,Tryz.f222]
 have z0:=adL
 exact Wk
theorem aIf(fu:Nat)(x1:Int)(x2:Int)(r)(h:AC fu x1 x2=some r):aA prog 222 [.v (.int .i64 x1),.v (.int .i64 x2)] (e222 r):=aH mixed [(WY fu).ct] (ids:=[223]) rfl (by decide) i222 (C:=ak) (ci:=λcp=>aj) (λcp ok=>aB) (λcp H=>auD cp fu x1 x2 (aGw H.1)) h
def Zb:TD:=zz [[1,4],[],[0,5]]
def afF:=Da (aC Zb.eq_1)
theorem aCJ:au prog 231 Zb=some ⟨ae Tryz.f231,[.tmp 4],[2]⟩:=fA Tryz.func231
def e231:Int->AV:=λr=> .v (.int .i64 r)
theorem aFp(cp:af)(fu:Nat)(x1:Int)(x2:Int):J (go prog ak cp aj 0 [] Zb fu (fin prog [.tmp 4] [2]) (ae Tryz.f231) (ay 0 [.v (.int .i64 x1),.v (.int .i64 x2)]) [] []) (EY fu x1 x2) e231:=by
 unfold EY e231
 have da:=afF
 conv=>arg 1;simp only[ae,Tryz.f231]
 have z0:=afF
 exact Wk
theorem aoz(fu:Nat)(x1:Int)(x2:Int)(r)(h:EY fu x1 x2=some r):aA prog 231 [.v (.int .i64 x1),.v (.int .i64 x2)] (e231 r):=aH mixed [] (ids:=[]) rfl (by decide) aCJ (C:=ak) (ci:=λcp=>aj) (λcp ok=>aB) (λcp H=>aFp cp fu x1 x2) h
def WI:TD:=zz [[4],[],[0,1,5,6,7]]
def agn:=Da (aC WI.eq_1)
theorem auB:au prog 224 WI=some ⟨ae Tryz.f224,[.tmp 4],[2]⟩:=fA Tryz.func224
def e224:Int->AV:=λr=> .v (.int .i64 r)
theorem aok(cp:af)(fu:Nat)(x1:Int)(x2:Int):J (go prog ak cp aj 0 [] WI fu (fin prog [.tmp 4] [2]) (ae Tryz.f224) (ay 0 [.v (.int .i64 x1),.v (.int .i64 x2)]) [] []) (Em fu x1 x2) e224:=by
 unfold Em e224
 have da:=agn
 conv=>arg 1;simp only[ae,Tryz.f224]
 have z0:=agn
 exact Wk
theorem apV(fu:Nat)(x1:Int)(x2:Int)(r)(h:Em fu x1 x2=some r):aA prog 224 [.v (.int .i64 x1),.v (.int .i64 x2)] (e224 r):=aH mixed [] (ids:=[]) rfl (by decide) auB (C:=ak) (ci:=λcp=>aj) (λcp ok=>aB) (λcp H=>aok cp fu x1 x2) h
def UG:TD:=zz [[4],[],[0,1,5,6,7]]
def afD:=Da (aC UG.eq_1)
theorem aKV:au prog 225 UG=some ⟨ae Tryz.f225,[.tmp 4],[2]⟩:=fA Tryz.func225
def PN:Int->AV:=λr=> .v (.int .i64 r)
theorem aEO(cp:af)(fu:Nat)(x1:Int)(x2:Int):J (go prog ak cp aj 0 [] UG fu (fin prog [.tmp 4] [2]) (ae Tryz.f225) (ay 0 [.v (.int .i64 x1),.v (.int .i64 x2)]) [] []) (FD fu x1 x2) PN:=by
 unfold FD PN
 have da:=afD
 conv=>arg 1;simp only[ae,Tryz.f225]
 have z0:=afD
 exact Wk
theorem aq8(fu:Nat)(x1:Int)(x2:Int)(r)(h:FD fu x1 x2=some r):aA prog 225 [.v (.int .i64 x1),.v (.int .i64 x2)] (PN r):=aH mixed [] (ids:=[]) rfl (by decide) aKV (C:=ak) (ci:=λcp=>aj) (λcp ok=>aB) (λcp H=>aEO cp fu x1 x2) h
def abA:TD:=zz [[4],[],[0,1,5,6,7]]
def ajl:=Da (aC abA.eq_1)
theorem i226:au prog 226 abA=some ⟨ae Tryz.f226,[.tmp 4],[2]⟩:=fA Tryz.func226
def e226:Int->AV:=λr=> .v (.int .i64 r)
theorem arO(cp:af)(fu:Nat)(x1:Int)(x2:Int):J (go prog ak cp aj 0 [] abA fu (fin prog [.tmp 4] [2]) (ae Tryz.f226) (ay 0 [.v (.int .i64 x1),.v (.int .i64 x2)]) [] []) (Cb fu x1 x2) e226:=by
 unfold Cb e226
 have da:=ajl
 conv=>arg 1;simp only[ae,Tryz.f226]
 have z0:=ajl
 exact Wk
theorem aCz(fu:Nat)(x1:Int)(x2:Int)(r)(h:Cb fu x1 x2=some r):aA prog 226 [.v (.int .i64 x1),.v (.int .i64 x2)] (e226 r):=aH mixed [] (ids:=[]) rfl (by decide) i226 (C:=ak) (ci:=λcp=>aj) (λcp ok=>aB) (λcp H=>arO cp fu x1 x2) h
def F7:TD:=zz [[4],[],[5],[],[7,8],[],[0,1,9,10,11]]
def ajF:=Da (aC F7.eq_1)
theorem i227:au prog 227 F7=some ⟨ae Tryz.f227,[.tmp 4],[2]⟩:=fA Tryz.func227
def e227:Int->AV:=λr=> .v (.int .i64 r)
theorem arB(cp:af)(fu:Nat)(x1:Int)(x2:Int):J (go prog ak cp aj 0 [] F7 fu (fin prog [.tmp 4] [2]) (ae Tryz.f227) (ay 0 [.v (.int .i64 x1),.v (.int .i64 x2)]) [] []) (xO fu x1 x2) e227:=by
 unfold xO e227
 have da:=ajF
 conv=>arg 1;simp only[ae,Tryz.f227]
 have z0:=ajF
 exact Wk
theorem aqD(fu:Nat)(x1:Int)(x2:Int)(r)(h:xO fu x1 x2=some r):aA prog 227 [.v (.int .i64 x1),.v (.int .i64 x2)] (e227 r):=aH mixed [] (ids:=[]) rfl (by decide) i227 (C:=ak) (ci:=λcp=>aj) (λcp ok=>aB) (λcp H=>arB cp fu x1 x2) h
def ED:TD:=zz [[5],[],[0,7,8,9,10,11,12,13],[],[2,14,15,16,17,18,19,20,21,22,23,24],[],[26,27,28],[],[1,6,29]]
def als:=Da (aC ED.eq_1)
theorem aaU:au prog 323 ED=some ⟨ae Tryz.f323,[.tmp 5],[2]⟩:=fA Tryz.func323
def e323:Int->AV:=λr=> .v (.int .i64 r)
structure Xq (fu:Nat) (cp:af):Prop where
 ap: ∀ {a0:Int} {a1:Int} {r},xO fu a0 a1=some r->cp 227 [.v (.int .i64 a0),.v (.int .i64 a1)]=some (.v (.int .i64 r))
noncomputable def IW(fu:Nat):Cm prog (Int×Int) Int:=⟨227,λt=>[.v (.int .i64 t.1),.v (.int .i64 t.2)],λt=>xO fu t.1 t.2,e227,λt b h=>aqD fu t.1 t.2 b h,Zi⟩
theorem U4(H:aI cp (IW fu).ct):Xq fu cp:=⟨λ {a0 a1 r} h=>(IW fu).at H (a0,a1) r h⟩
theorem auu(cp:af)(fu:Nat)(x1:Int)(x2:Int)(x3:Bool)(H1:Xq fu cp):J (go prog ak cp aj 0 [] ED fu (fin prog [.tmp 5] [2]) (ae Tryz.f323) (ay 0 [.v (.int .i64 x1),.v (.int .i64 x2),.aF [.v (.bool x3)] 0]) [] []) (xZ fu x1 x2 x3) e323:=by
 unfold xZ e323
 have da:=als
 conv=>arg 1;simp only[ae,Tryz.f323]
 have z0:=als
 exact Wk
theorem awn(fu:Nat)(x1:Int)(x2:Int)(x3:Bool)(r)(h:xZ fu x1 x2 x3=some r):aA prog 323 [.v (.int .i64 x1),.v (.int .i64 x2),.aF [.v (.bool x3)] 0] (e323 r):=aH mixed [(IW fu).ct] (ids:=[227]) rfl (by decide) aaU (C:=ak) (ci:=λcp=>aj) (λcp ok=>aB) (λcp H=>auu cp fu x1 x2 x3 (U4 H.1)) h
def aaj:TD:=zz [[4],[],[0,1,5,6,7]]
def amG:=Da (aC aaj.eq_1)
theorem i229:au prog 229 aaj=some ⟨ae Tryz.f229,[.tmp 4],[2]⟩:=fA Tryz.func229
def e229:Int->AV:=λr=> .v (.int .i64 r)
theorem avT(cp:af)(fu:Nat)(x1:Int)(x2:Int):J (go prog ak cp aj 0 [] aaj fu (fin prog [.tmp 4] [2]) (ae Tryz.f229) (ay 0 [.v (.int .i64 x1),.v (.int .i64 x2)]) [] []) (DW fu x1 x2) e229:=by
 unfold DW e229
 have da:=amG
 conv=>arg 1;simp only[ae,Tryz.f229]
 have z0:=amG
 exact Wk
theorem awD(fu:Nat)(x1:Int)(x2:Int)(r)(h:DW fu x1 x2=some r):aA prog 229 [.v (.int .i64 x1),.v (.int .i64 x2)] (e229 r):=aH mixed [] (ids:=[]) rfl (by decide) i229 (C:=ak) (ci:=λcp=>aj) (λcp ok=>aB) (λcp H=>avT cp fu x1 x2) h
def Wl:TD:=zz [[4],[],[0,1,5,6,7]]
def aft:=Da (aC Wl.eq_1)
theorem aAo:au prog 230 Wl=some ⟨ae Tryz.f230,[.tmp 4],[2]⟩:=fA Tryz.func230
def e230:Int->AV:=λr=> .v (.int .i64 r)
theorem aqb(cp:af)(fu:Nat)(x1:Int)(x2:Int):J (go prog ak cp aj 0 [] Wl fu (fin prog [.tmp 4] [2]) (ae Tryz.f230) (ay 0 [.v (.int .i64 x1),.v (.int .i64 x2)]) [] []) (EP fu x1 x2) e230:=by
 unfold EP e230
 have da:=aft
 conv=>arg 1;simp only[ae,Tryz.f230]
 have z0:=aft
 exact Wk
theorem ayo(fu:Nat)(x1:Int)(x2:Int)(r)(h:EP fu x1 x2=some r):aA prog 230 [.v (.int .i64 x1),.v (.int .i64 x2)] (e230 r):=aH mixed [] (ids:=[]) rfl (by decide) aAo (C:=ak) (ci:=λcp=>aj) (λcp ok=>aB) (λcp H=>aqb cp fu x1 x2) h
def aaF:TD:=zz [[1,4],[],[0,5]]
def ad2:=Da (aC aaF.eq_1)
theorem ayw:au prog 118 aaF=some ⟨ae Tryz.f118,[.tmp 4],[4]⟩:=fA Tryz.func118
def e118:Bool->AV:=λr=> .v (.bool r)
theorem aL2(cp:af)(fu:Nat)(x1:Bool)(x2:Bool):J (go prog ak cp aj 0 [] aaF fu (fin prog [.tmp 4] [4]) (ae Tryz.f118) (ay 0 [.v (.bool x1),.v (.bool x2)]) [] []) (Ey fu x1 x2) e118:=by
 unfold Ey e118
 have da:=ad2
 conv=>arg 1;simp only[ae,Tryz.f118]
 have z0:=ad2
 exact Wk
theorem aDE(fu:Nat)(x1:Bool)(x2:Bool)(r)(h:Ey fu x1 x2=some r):aA prog 118 [.v (.bool x1),.v (.bool x2)] (e118 r):=aH mixed [] (ids:=[]) rfl (by decide) ayw (C:=ak) (ci:=λcp=>aj) (λcp ok=>aB) (λcp H=>aL2 cp fu x1 x2) h
def Sj:TD:=zz [[1,4],[],[0,5,6]]
def alL:=Da (aC Sj.eq_1)
theorem aH1:au prog 119 Sj=some ⟨ae Tryz.f119,[.tmp 4],[4]⟩:=fA Tryz.func119
def e119:Bool->AV:=λr=> .v (.bool r)
theorem aFT(cp:af)(fu:Nat)(x1:Bool)(x2:Bool):J (go prog ak cp aj 0 [] Sj fu (fin prog [.tmp 4] [4]) (ae Tryz.f119) (ay 0 [.v (.bool x1),.v (.bool x2)]) [] []) (FB fu x1 x2) e119:=by
 unfold FB e119
 have da:=alL
 conv=>arg 1;simp only[ae,Tryz.f119]
 have z0:=alL
 exact Wk
theorem am3(fu:Nat)(x1:Bool)(x2:Bool)(r)(h:FB fu x1 x2=some r):aA prog 119 [.v (.bool x1),.v (.bool x2)] (e119 r):=aH mixed [] (ids:=[]) rfl (by decide) aH1 (C:=ak) (ci:=λcp=>aj) (λcp ok=>aB) (λcp H=>aFT cp fu x1 x2) h
def Xu:TD:=zz [[4],[],[0,1,5,6,7,8]]
def aiP:=Da (aC Xu.eq_1)
theorem aEQ:au prog 120 Xu=some ⟨ae Tryz.f120,[.tmp 4],[4]⟩:=fA Tryz.func120
def e120:Bool->AV:=λr=> .v (.bool r)
theorem azI(cp:af)(fu:Nat)(x1:Bool)(x2:Bool):J (go prog ak cp aj 0 [] Xu fu (fin prog [.tmp 4] [4]) (ae Tryz.f120) (ay 0 [.v (.bool x1),.v (.bool x2)]) [] []) (Ak fu x1 x2) e120:=by
 unfold Ak e120
 have da:=aiP
 conv=>arg 1;simp only[ae,Tryz.f120]
 have z0:=aiP
 exact Wk
theorem aIr(fu:Nat)(x1:Bool)(x2:Bool)(r)(h:Ak fu x1 x2=some r):aA prog 120 [.v (.bool x1),.v (.bool x2)] (e120 r):=aH mixed [] (ids:=[]) rfl (by decide) aEQ (C:=ak) (ci:=λcp=>aj) (λcp ok=>aB) (λcp H=>azI cp fu x1 x2) h
def abg:TD:=zz [[4],[],[0,1,5,6,7,8]]
def aiy:=Da (aC abg.eq_1)
theorem aKw:au prog 121 abg=some ⟨ae Tryz.f121,[.tmp 4],[4]⟩:=fA Tryz.func121
def Jp:Bool->AV:=λr=> .v (.bool r)
theorem awx(cp:af)(fu:Nat)(x1:Bool)(x2:Bool):J (go prog ak cp aj 0 [] abg fu (fin prog [.tmp 4] [4]) (ae Tryz.f121) (ay 0 [.v (.bool x1),.v (.bool x2)]) [] []) (AY fu x1 x2) Jp:=by
 unfold AY Jp
 have da:=aiy
 conv=>arg 1;simp only[ae,Tryz.f121]
 have z0:=aiy
 exact Wk
theorem aEt(fu:Nat)(x1:Bool)(x2:Bool)(r)(h:AY fu x1 x2=some r):aA prog 121 [.v (.bool x1),.v (.bool x2)] (Jp r):=aH mixed [] (ids:=[]) rfl (by decide) aKw (C:=ak) (ci:=λcp=>aj) (λcp ok=>aB) (λcp H=>awx cp fu x1 x2) h
def W9:TD:=zz [[4],[],[0,1,5,6,7]]
def ado:=Da (aC W9.eq_1)
theorem aHZ:au prog 122 W9=some ⟨ae Tryz.f122,[.tmp 4],[4]⟩:=fA Tryz.func122
def JV:Bool->AV:=λr=> .v (.bool r)
theorem aG9(cp:af)(fu:Nat)(x1:Bool)(x2:Bool):J (go prog ak cp aj 0 [] W9 fu (fin prog [.tmp 4] [4]) (ae Tryz.f122) (ay 0 [.v (.bool x1),.v (.bool x2)]) [] []) (EF fu x1 x2) JV:=by
 unfold EF JV
 have da:=ado
 conv=>arg 1;simp only[ae,Tryz.f122]
 have z0:=ado
 exact Wk
theorem aBW(fu:Nat)(x1:Bool)(x2:Bool)(r)(h:EF fu x1 x2=some r):aA prog 122 [.v (.bool x1),.v (.bool x2)] (JV r):=aH mixed [] (ids:=[]) rfl (by decide) aHZ (C:=ak) (ci:=λcp=>aj) (λcp ok=>aB) (λcp H=>aG9 cp fu x1 x2) h
def Wy:TD:=zz [[4],[],[0,1,5,6,7]]
def agq:=Da (aC Wy.eq_1)
theorem i127:au prog 127 Wy=some ⟨ae Tryz.f127,[.tmp 4],[4]⟩:=fA Tryz.func127
def e127:Bool->AV:=λr=> .v (.bool r)
theorem aAi(cp:af)(fu:Nat)(x1:Bool)(x2:Bool):J (go prog ak cp aj 0 [] Wy fu (fin prog [.tmp 4] [4]) (ae Tryz.f127) (ay 0 [.v (.bool x1),.v (.bool x2)]) [] []) (BZ fu x1 x2) e127:=by
 unfold BZ e127
 have da:=agq
 conv=>arg 1;simp only[ae,Tryz.f127]
 have z0:=agq
 exact Wk
theorem aEV(fu:Nat)(x1:Bool)(x2:Bool)(r)(h:BZ fu x1 x2=some r):aA prog 127 [.v (.bool x1),.v (.bool x2)] (e127 r):=aH mixed [] (ids:=[]) rfl (by decide) i127 (C:=ak) (ci:=λcp=>aj) (λcp ok=>aB) (λcp H=>aAi cp fu x1 x2) h
def UO:TD:=zz [[1,4],[],[0,5,6]]
def ag2:=Da (aC UO.eq_1)
theorem aEk:au prog 123 UO=some ⟨ae Tryz.f123,[.tmp 4],[4]⟩:=fA Tryz.func123
def KI:Bool->AV:=λr=> .v (.bool r)
theorem aq1(cp:af)(fu:Nat)(x1:Int)(x2:Int)(H1:jd fu cp):J (go prog ak cp aj 0 [] UO fu (fin prog [.tmp 4] [4]) (ae Tryz.f123) (ay 0 [.v (.int .u32 x1),.v (.int .u32 x2)]) [] []) (zl fu x1 x2) KI:=by
 unfold zl KI
 have da:=ag2
 conv=>arg 1;simp only[ae,Tryz.f123]
 have z0:=ag2
 exact Wk
theorem aLL(fu:Nat)(x1:Int)(x2:Int)(r)(h:zl fu x1 x2=some r):aA prog 123 [.v (.int .u32 x1),.v (.int .u32 x2)] (KI r):=aH mixed [(iY fu).ct] (ids:=[124]) rfl (by decide) aEk (C:=ak) (ci:=λcp=>aj) (λcp ok=>aB) (λcp H=>aq1 cp fu x1 x2 (u124 H.1)) h
def Yz:TD:=zz [[1,5],[],[0,2,6,7,8,9,10,11,12,13,14,15,16,17,18,19,20,21,22,23,24,25]]
def afV:=Da (aC Yz.eq_1)
theorem aEy:au prog 125 Yz=some ⟨ae Tryz.f125,[.tmp 5],[4]⟩:=fA Tryz.func125
def e125:Bool->AV:=λr=> .v (.bool r)
theorem aLR(cp:af)(fu:Nat)(x1:Int)(x2:Int)(x3:T_Setting)(H1:qL fu cp):J (go prog ak cp aj 0 [] Yz fu (fin prog [.tmp 5] [4]) (ae Tryz.f125) (ay 0 [.v (.int .u32 x1),.v (.int .u32 x2),.aF (dL x3) 0]) [] []) (yI fu x1 x2 x3) e125:=by
 unfold yI e125
 have da:=afV
 conv=>arg 1;simp only[ae,Tryz.f125]
 have z0:=afV
 exact Wk
theorem aH2(fu:Nat)(x1:Int)(x2:Int)(x3:T_Setting)(r)(h:yI fu x1 x2 x3=some r):aA prog 125 [.v (.int .u32 x1),.v (.int .u32 x2),.aF (dL x3) 0] (e125 r):=aH mixed [(qw fu).ct] (ids:=[126]) rfl (by decide) aEy (C:=ak) (ci:=λcp=>aj) (λcp ok=>aB) (λcp H=>aLR cp fu x1 x2 x3 (rW H.1)) h
def abb:TD:=zz [[4],[],[0,1,5,6,7,8,9,10,11,12]]
def aim:=Da (aC abb.eq_1)
theorem aMd:au prog 132 abb=some ⟨ae Tryz.f132,[.tmp 4],[4]⟩:=fA Tryz.func132
def Oq:Bool->AV:=λr=> .v (.bool r)
theorem anw(cp:af)(fu:Nat)(x1:Int)(x2:Int)(H1:qc fu cp)(H2:AB fu cp):J (go prog ak cp aj 0 [] abb fu (fin prog [.tmp 4] [4]) (ae Tryz.f132) (ay 0 [.v (.int .u32 x1),.v (.int .u32 x2)]) [] []) (zy fu x1 x2) Oq:=by
 unfold zy Oq
 have da:=aim
 conv=>arg 1;simp only[ae,Tryz.f132]
 have z0:=aim
 exact Wk
theorem aJt(fu:Nat)(x1:Int)(x2:Int)(r)(h:zy fu x1 x2=some r):aA prog 132 [.v (.int .u32 x1),.v (.int .u32 x2)] (Oq r):=aH mixed [(nZ fu).ct,(wL fu).ct] (ids:=[130,128]) rfl (by decide) aMd (C:=ak) (ci:=λcp=>aj) (λcp ok=>aB) (λcp H=>anw cp fu x1 x2 (qp H.1) (zX H.2.1)) h
def Xf:TD:=zz [[4],[],[0,1,5,6,7]]
def ae5:=Da (aC Xf.eq_1)
theorem awZ:au prog 134 Xf=some ⟨ae Tryz.f134,[.tmp 4],[4]⟩:=fA Tryz.func134
def Jo:Bool->AV:=λr=> .v (.bool r)
theorem aqo(cp:af)(fu:Nat)(x1:Int)(x2:Int)(H1:qc fu cp):J (go prog ak cp aj 0 [] Xf fu (fin prog [.tmp 4] [4]) (ae Tryz.f134) (ay 0 [.v (.int .u32 x1),.v (.int .u32 x2)]) [] []) (zn fu x1 x2) Jo:=by
 unfold zn Jo
 have da:=ae5
 conv=>arg 1;simp only[ae,Tryz.f134]
 have z0:=ae5
 exact Wk
theorem amX(fu:Nat)(x1:Int)(x2:Int)(r)(h:zn fu x1 x2=some r):aA prog 134 [.v (.int .u32 x1),.v (.int .u32 x2)] (Jo r):=aH mixed [(nZ fu).ct] (ids:=[130]) rfl (by decide) awZ (C:=ak) (ci:=λcp=>aj) (λcp ok=>aB) (λcp H=>aqo cp fu x1 x2 (qp H.1)) h
def X0:TD:=zz [[4],[],[0,1,5,6,7,8,9,10,11,12]]
def ahb:=Da (aC X0.eq_1)
theorem av7:au prog 136 X0=some ⟨ae Tryz.f136,[.tmp 4],[4]⟩:=fA Tryz.func136
def Kw:Bool->AV:=λr=> .v (.bool r)
theorem ayW(cp:af)(fu:Nat)(x1:Int)(x2:Int)(H1:qc fu cp)(H2:AB fu cp):J (go prog ak cp aj 0 [] X0 fu (fin prog [.tmp 4] [4]) (ae Tryz.f136) (ay 0 [.v (.int .u32 x1),.v (.int .u32 x2)]) [] []) (yK fu x1 x2) Kw:=by
 unfold yK Kw
 have da:=ahb
 conv=>arg 1;simp only[ae,Tryz.f136]
 have z0:=ahb
 exact Wk
theorem ayy(fu:Nat)(x1:Int)(x2:Int)(r)(h:yK fu x1 x2=some r):aA prog 136 [.v (.int .u32 x1),.v (.int .u32 x2)] (Kw r):=aH mixed [(nZ fu).ct,(wL fu).ct] (ids:=[130,128]) rfl (by decide) av7 (C:=ak) (ci:=λcp=>aj) (λcp ok=>aB) (λcp H=>ayW cp fu x1 x2 (qp H.1) (zX H.2.1)) h
def YA:TD:=zz [[4],[],[0,1,5,6,7]]
def amg:=Da (aC YA.eq_1)
theorem aMi:au prog 129 YA=some ⟨ae Tryz.f129,[.tmp 4],[4]⟩:=fA Tryz.func129
def e129:Bool->AV:=λr=> .v (.bool r)
theorem aLU(cp:af)(fu:Nat)(x1:Int)(x2:Int):J (go prog ak cp aj 0 [] YA fu (fin prog [.tmp 4] [4]) (ae Tryz.f129) (ay 0 [.v (.int .i64 x1),.v (.int .i64 x2)]) [] []) (EE fu x1 x2) e129:=by
 unfold EE e129
 have da:=amg
 conv=>arg 1;simp only[ae,Tryz.f129]
 have z0:=amg
 exact Wk
theorem azJ(fu:Nat)(x1:Int)(x2:Int)(r)(h:EE fu x1 x2=some r):aA prog 129 [.v (.int .i64 x1),.v (.int .i64 x2)] (e129 r):=aH mixed [] (ids:=[]) rfl (by decide) aMi (C:=ak) (ci:=λcp=>aj) (λcp ok=>aB) (λcp H=>aLU cp fu x1 x2) h
def TQ:TD:=zz [[4],[],[0,1,5,6,7]]
def amc:=Da (aC TQ.eq_1)
theorem i131:au prog 131 TQ=some ⟨ae Tryz.f131,[.tmp 4],[4]⟩:=fA Tryz.func131
def KN:Bool->AV:=λr=> .v (.bool r)
theorem aLD(cp:af)(fu:Nat)(x1:Int)(x2:Int):J (go prog ak cp aj 0 [] TQ fu (fin prog [.tmp 4] [4]) (ae Tryz.f131) (ay 0 [.v (.int .i64 x1),.v (.int .i64 x2)]) [] []) (ER fu x1 x2) KN:=by
 unfold ER KN
 have da:=amc
 conv=>arg 1;simp only[ae,Tryz.f131]
 have z0:=amc
 exact Wk
theorem ayl(fu:Nat)(x1:Int)(x2:Int)(r)(h:ER fu x1 x2=some r):aA prog 131 [.v (.int .i64 x1),.v (.int .i64 x2)] (KN r):=aH mixed [] (ids:=[]) rfl (by decide) i131 (C:=ak) (ci:=λcp=>aj) (λcp ok=>aB) (λcp H=>aLD cp fu x1 x2) h
def Yp:TD:=zz [[4],[],[0,1,5,6,7]]
def akW:=Da (aC Yp.eq_1)
theorem avQ:au prog 133 Yp=some ⟨ae Tryz.f133,[.tmp 4],[4]⟩:=fA Tryz.func133
def Ko:Bool->AV:=λr=> .v (.bool r)
theorem awe(cp:af)(fu:Nat)(x1:Int)(x2:Int):J (go prog ak cp aj 0 [] Yp fu (fin prog [.tmp 4] [4]) (ae Tryz.f133) (ay 0 [.v (.int .i64 x1),.v (.int .i64 x2)]) [] []) (ES fu x1 x2) Ko:=by
 unfold ES Ko
 have da:=akW
 conv=>arg 1;simp only[ae,Tryz.f133]
 have z0:=akW
 exact Wk
theorem aMF(fu:Nat)(x1:Int)(x2:Int)(r)(h:ES fu x1 x2=some r):aA prog 133 [.v (.int .i64 x1),.v (.int .i64 x2)] (Ko r):=aH mixed [] (ids:=[]) rfl (by decide) avQ (C:=ak) (ci:=λcp=>aj) (λcp ok=>aB) (λcp H=>awe cp fu x1 x2) h
def Vs:TD:=zz [[4],[],[0,1,5,6,7]]
def alx:=Da (aC Vs.eq_1)
theorem aCh:au prog 135 Vs=some ⟨ae Tryz.f135,[.tmp 4],[4]⟩:=fA Tryz.func135
def J8:Bool->AV:=λr=> .v (.bool r)
theorem aJ5(cp:af)(fu:Nat)(x1:Int)(x2:Int):J (go prog ak cp aj 0 [] Vs fu (fin prog [.tmp 4] [4]) (ae Tryz.f135) (ay 0 [.v (.int .i64 x1),.v (.int .i64 x2)]) [] []) (Ce fu x1 x2) J8:=by
 unfold Ce J8
 have da:=alx
 conv=>arg 1;simp only[ae,Tryz.f135]
 have z0:=alx
 exact Wk
theorem aKx(fu:Nat)(x1:Int)(x2:Int)(r)(h:Ce fu x1 x2=some r):aA prog 135 [.v (.int .i64 x1),.v (.int .i64 x2)] (J8 r):=aH mixed [] (ids:=[]) rfl (by decide) aCh (C:=ak) (ci:=λcp=>aj) (λcp ok=>aB) (λcp H=>aJ5 cp fu x1 x2) h
def YZ:TD:=zz [[4],[],[0,1,5,6,7]]
def ad8:=Da (aC YZ.eq_1)
theorem aCg:au prog 137 YZ=some ⟨ae Tryz.f137,[.tmp 4],[4]⟩:=fA Tryz.func137
def e137:Bool->AV:=λr=> .v (.bool r)
theorem aGK(cp:af)(fu:Nat)(x1:Int)(x2:Int):J (go prog ak cp aj 0 [] YZ fu (fin prog [.tmp 4] [4]) (ae Tryz.f137) (ay 0 [.v (.int .i64 x1),.v (.int .i64 x2)]) [] []) (CV fu x1 x2) e137:=by
 unfold CV e137
 have da:=ad8
 conv=>arg 1;simp only[ae,Tryz.f137]
 have z0:=ad8
 exact Wk
theorem aqp(fu:Nat)(x1:Int)(x2:Int)(r)(h:CV fu x1 x2=some r):aA prog 137 [.v (.int .i64 x1),.v (.int .i64 x2)] (e137 r):=aH mixed [] (ids:=[]) rfl (by decide) aCg (C:=ak) (ci:=λcp=>aj) (λcp ok=>aB) (λcp H=>aGK cp fu x1 x2) h
def kZ(x:Int)(s:T_Setting):AV:=if x=1 then .fn 299 [] [.aF [.fn 140 [] []] 0]else if x=2 then .fn 299 [] [.aF [.fn 197 [] []] 0]else if x=3 then .fn 299 [] [.aF [.fn 198 [] []] 0]else if x=4 then .fn 299 [] [.aF [.fn 199 [] []] 0]else if x=5 then .fn 299 [] [.aF [.fn 200 [] []] 0]else if x=6 then .fn 299 [] [.aF [.fn 201 [] []] 0]else if x=7 then .fn 299 [] [.aF [.fn 202 [] []] 0]else if x=8 then .fn 203 [] []else if x=9 then .fn 299 [] [.aF [.fn 213 [] []] 0]else if x=10 then .fn 299 [] [.aF [.fn 315 [] []] 0]else if x=11 then .fn 299 [] [.aF [.fn 316 [] []] 0]else if x=12 then .fn 299 [] [.aF [.fn 317 [] []] 0]else if x=13 then .fn 299 [] [.aF [.fn 318 [] []] 0]else if x=14 then .fn 299 [] [.aF [.fn 319 [] []] 0]else if x=15 then .fn 299 [] [.aF [.fn 320 [] []] 0]else if x=16 then .fn 205 [] []else if x=17 then .fn 306 [] [.aF [.fn 208 [] [.aF (dL s) 0]] 0]else if x=18 then .fn 306 [] [.aF [.fn 211 [] [.aF (dL s) 0]] 0]else if x=19 then .fn 214 [] [.aF (dL s) 0]else if x=20 then .fn 299 [] [.aF [.fn 321 [] []] 0]else if x=28 then .fn 216 [] []else if x=29 then .fn 212 [] []else if x=30 then .fn 209 [] []else if x=31 then .fn 204 [] []else if x=32 then .fn 217 [] []else if x=33 then .fn 218 [] []else if x=34 then .fn 215 [] []else if x=35 then .fn 206 [] []else if x=36 then .fn 306 [] [.aF [.fn 210 [] []] 0]else .fn 299 [] [.aF [.fn 322 [] []] 0]
def lg(x:Int)(s:T_Setting):AV:=if x=1 then .fn 220 [] []else if x=2 then .fn 221 [] []else if x=3 then .fn 222 [] []else if x=28 then .fn 224 [] []else if x=29 then .fn 225 [] []else if x=30 then .fn 226 [] []else if x=31 then .fn 227 [] []else if x=32 then .fn 323 [] [.aF [.v (.bool s.fFmod)] 0]else if x=34 then .fn 229 [] []else if x=35 then .fn 230 [] []else .fn 231 [] []
def lu(x:Int)(s:T_Setting):AV:=if x=22 then .fn 119 [] []else if x=23 then .fn 120 [] []else if x=24 then .fn 121 [] []else if x=25 then .fn 122 [] []else if x=37 then .fn 127 [] []else .fn 118 [] []
def kR(x:Int)(s:T_Setting):AV:=if x=26 then .fn 123 [] []else if x=27 then .fn 125 [] [.aF (dL s) 0]else if x=37 then .fn 128 [] []else if x=38 then .fn 130 [] []else if x=39 then .fn 132 [] []else if x=40 then .fn 134 [] []else if x=41 then .fn 136 [] []else .v .nilFunc
def lq(x:Int)(s:T_Setting):AV:=if x=37 then .fn 129 [] []else if x=38 then .fn 131 [] []else if x=39 then .fn 133 [] []else if x=40 then .fn 135 [] []else if x=41 then .fn 137 [] []else .v .nilFunc
def e56:(Int×T_Setting)->AV:=λr=> .agg [kZ r.1 r.2,lg r.1 r.2,lu r.1 r.2,kR r.1 r.2,lq r.1 r.2]
theorem aLj(fu:Nat)(x1:Int)(x2:T_Setting)(r)(h:mV fu x1 x2=some r):aA prog 56 [.v (.int .i64 x1),.agg (dL x2)] (e56 r):=by
  unfold mV chk at h;split at h
  · rename_i hx;injection h with h;subst h
    rcases(by omega:x1=1∨2<=x1/\x1<=44)with rfl|hx
    · exact Aw.dK 56 _ _ (by kernel_rfl)
    rcases(by omega:x1=2∨3<=x1/\x1<=44)with rfl|hx
    · exact Aw.dK 56 _ _ (by kernel_rfl)
    rcases(by omega:x1=3∨4<=x1/\x1<=44)with rfl|hx
    · exact Aw.dK 56 _ _ (by kernel_rfl)
    rcases(by omega:x1=4∨5<=x1/\x1<=44)with rfl|hx
    · exact Aw.dK 56 _ _ (by kernel_rfl)
    rcases(by omega:x1=5∨6<=x1/\x1<=44)with rfl|hx
    · exact Aw.dK 56 _ _ (by kernel_rfl)
    rcases(by omega:x1=6∨7<=x1/\x1<=44)with rfl|hx
    · exact Aw.dK 56 _ _ (by kernel_rfl)
    rcases(by omega:x1=7∨8<=x1/\x1<=44)with rfl|hx
    · exact Aw.dK 56 _ _ (by kernel_rfl)
    rcases(by omega:x1=8∨9<=x1/\x1<=44)with rfl|hx
    · exact Aw.dK 56 _ _ (by kernel_rfl)
    rcases(by omega:x1=9∨10<=x1/\x1<=44)with rfl|hx
    · exact Aw.dK 56 _ _ (by kernel_rfl)
    rcases(by omega:x1=10∨11<=x1/\x1<=44)with rfl|hx
    · exact Aw.dK 56 _ _ (by kernel_rfl)
    rcases(by omega:x1=11∨12<=x1/\x1<=44)with rfl|hx
    · exact Aw.dK 56 _ _ (by kernel_rfl)
    rcases(by omega:x1=12∨13<=x1/\x1<=44)with rfl|hx
    · exact Aw.dK 56 _ _ (by kernel_rfl)
    rcases(by omega:x1=13∨14<=x1/\x1<=44)with rfl|hx
    · exact Aw.dK 56 _ _ (by kernel_rfl)
    rcases(by omega:x1=14∨15<=x1/\x1<=44)with rfl|hx
    · exact Aw.dK 56 _ _ (by kernel_rfl)
    rcases(by omega:x1=15∨16<=x1/\x1<=44)with rfl|hx
    · exact Aw.dK 56 _ _ (by kernel_rfl)
    rcases(by omega:x1=16∨17<=x1/\x1<=44)with rfl|hx
    · exact Aw.dK 56 _ _ (by kernel_rfl)
    rcases(by omega:x1=17∨18<=x1/\x1<=44)with rfl|hx
    · exact Aw.dK 56 _ _ (by kernel_rfl)
    rcases(by omega:x1=18∨19<=x1/\x1<=44)with rfl|hx
    · exact Aw.dK 56 _ _ (by kernel_rfl)
    rcases(by omega:x1=19∨20<=x1/\x1<=44)with rfl|hx
    · exact Aw.dK 56 _ _ (by kernel_rfl)
    rcases(by omega:x1=20∨21<=x1/\x1<=44)with rfl|hx
    · exact Aw.dK 56 _ _ (by kernel_rfl)
    rcases(by omega:x1=21∨22<=x1/\x1<=44)with rfl|hx
    · exact Aw.dK 56 _ _ (by kernel_rfl)
    rcases(by omega:x1=22∨23<=x1/\x1<=44)with rfl|hx
    · exact Aw.dK 56 _ _ (by kernel_rfl)
    rcases(by omega:x1=23∨24<=x1/\x1<=44)with rfl|hx
    · exact Aw.dK 56 _ _ (by kernel_rfl)
    rcases(by omega:x1=24∨25<=x1/\x1<=44)with rfl|hx
    · exact Aw.dK 56 _ _ (by kernel_rfl)
    rcases(by omega:x1=25∨26<=x1/\x1<=44)with rfl|hx
    · exact Aw.dK 56 _ _ (by kernel_rfl)
    rcases(by omega:x1=26∨27<=x1/\x1<=44)with rfl|hx
    · exact Aw.dK 56 _ _ (by kernel_rfl)
    rcases(by omega:x1=27∨28<=x1/\x1<=44)with rfl|hx
    · exact Aw.dK 56 _ _ (by kernel_rfl)
    rcases(by omega:x1=28∨29<=x1/\x1<=44)with rfl|hx
    · exact Aw.dK 56 _ _ (by kernel_rfl)
    rcases(by omega:x1=29∨30<=x1/\x1<=44)with rfl|hx
    · exact Aw.dK 56 _ _ (by kernel_rfl)
    rcases(by omega:x1=30∨31<=x1/\x1<=44)with rfl|hx
    · exact Aw.dK 56 _ _ (by kernel_rfl)
    rcases(by omega:x1=31∨32<=x1/\x1<=44)with rfl|hx
    · exact Aw.dK 56 _ _ (by kernel_rfl)
    rcases(by omega:x1=32∨33<=x1/\x1<=44)with rfl|hx
    · exact Aw.dK 56 _ _ (by kernel_rfl)
    rcases(by omega:x1=33∨34<=x1/\x1<=44)with rfl|hx
    · exact Aw.dK 56 _ _ (by kernel_rfl)
    rcases(by omega:x1=34∨35<=x1/\x1<=44)with rfl|hx
    · exact Aw.dK 56 _ _ (by kernel_rfl)
    rcases(by omega:x1=35∨36<=x1/\x1<=44)with rfl|hx
    · exact Aw.dK 56 _ _ (by kernel_rfl)
    rcases(by omega:x1=36∨37<=x1/\x1<=44)with rfl|hx
    · exact Aw.dK 56 _ _ (by kernel_rfl)
    rcases(by omega:x1=37∨38<=x1/\x1<=44)with rfl|hx
    · exact Aw.dK 56 _ _ (by kernel_rfl)
    rcases(by omega:x1=38∨39<=x1/\x1<=44)with rfl|hx
    · exact Aw.dK 56 _ _ (by kernel_rfl)
    rcases(by omega:x1=39∨40<=x1/\x1<=44)with rfl|hx
    · exact Aw.dK 56 _ _ (by kernel_rfl)
    rcases(by omega:x1=40∨41<=x1/\x1<=44)with rfl|hx
    · exact Aw.dK 56 _ _ (by kernel_rfl)
    rcases(by omega:x1=41∨42<=x1/\x1<=44)with rfl|hx
    · exact Aw.dK 56 _ _ (by kernel_rfl)
    rcases(by omega:x1=42∨43<=x1/\x1<=44)with rfl|hx
    · exact Aw.dK 56 _ _ (by kernel_rfl)
    rcases(by omega:x1=43∨44<=x1/\x1<=44)with rfl|hx
    · exact Aw.dK 56 _ _ (by kernel_rfl)
    obtain rfl:x1=44:=by omega
    exact Aw.dK 56 _ _ (by kernel_rfl)
  · cases h
theorem ajM{x:Int}{s:T_Setting}:AV.one (kZ x s)=true:=by unfold kZ;repeat' first|refine iR (Q:=λf=>AV.one f=true) ?_ ?_ |rfl
theorem WV{x:Int}{s:T_Setting}{l d n:Nat}{t:Nat×Heap}:aT l d n (kZ x s) t=some (kZ x s,t):=by unfold kZ;repeat' first|refine iR (Q:=λf=>aT l d n f t=some (f,t)) ?_ ?_ |(cases n <;> rfl)
theorem ahj{x:Int}{s:T_Setting}:AV.one (lg x s)=true:=by unfold lg;repeat' first|refine iR (Q:=λf=>AV.one f=true) ?_ ?_ |rfl
theorem aaT{x:Int}{s:T_Setting}{l d n:Nat}{t:Nat×Heap}:aT l d n (lg x s) t=some (lg x s,t):=by unfold lg;repeat' first|refine iR (Q:=λf=>aT l d n f t=some (f,t)) ?_ ?_ |(cases n <;> rfl)
theorem abU{x:Int}{s:T_Setting}:AV.one (lu x s)=true:=by unfold lu;repeat' first|refine iR (Q:=λf=>AV.one f=true) ?_ ?_ |rfl
theorem Tq{x:Int}{s:T_Setting}{l d n:Nat}{t:Nat×Heap}:aT l d n (lu x s) t=some (lu x s,t):=by unfold lu;repeat' first|refine iR (Q:=λf=>aT l d n f t=some (f,t)) ?_ ?_ |(cases n <;> rfl)
theorem acI{x:Int}{s:T_Setting}:AV.one (kR x s)=true:=by unfold kR;repeat' first|refine iR (Q:=λf=>AV.one f=true) ?_ ?_ |rfl
theorem Zl{x:Int}{s:T_Setting}{l d n:Nat}{t:Nat×Heap}:aT l d n (kR x s) t=some (kR x s,t):=by unfold kR;repeat' first|refine iR (Q:=λf=>aT l d n f t=some (f,t)) ?_ ?_ |(cases n <;> rfl)
theorem adX{x:Int}{s:T_Setting}:AV.one (lq x s)=true:=by unfold lq;repeat' first|refine iR (Q:=λf=>AV.one f=true) ?_ ?_ |rfl
theorem aau{x:Int}{s:T_Setting}{l d n:Nat}{t:Nat×Heap}:aT l d n (lq x s) t=some (lq x s,t):=by unfold lq;repeat' first|refine iR (Q:=λf=>aT l d n f t=some (f,t)) ?_ ?_ |(cases n <;> rfl)
theorem ael{x:Int}{s:T_Setting}{id:Id}{d:Nat}:names id (d+1) (kZ x s)=false:=by unfold kZ;repeat' first|refine iR (Q:=λf=>names id (d+1) f=false) ?_ ?_ |rfl|(cases d <;> rfl)
theorem amm{x:Int}{s:T_Setting}{id:Id}{d:Nat}:names id (d+1) (lg x s)=false:=by unfold lg;repeat' first|refine iR (Q:=λf=>names id (d+1) f=false) ?_ ?_ |rfl|(cases d <;> rfl)
theorem abK{x:Int}{s:T_Setting}{id:Id}{d:Nat}:names id (d+1) (lu x s)=false:=by unfold lu;repeat' first|refine iR (Q:=λf=>names id (d+1) f=false) ?_ ?_ |rfl|(cases d <;> rfl)
theorem akP{x:Int}{s:T_Setting}{id:Id}{d:Nat}:names id (d+1) (kR x s)=false:=by unfold kR;repeat' first|refine iR (Q:=λf=>names id (d+1) f=false) ?_ ?_ |rfl|(cases d <;> rfl)
theorem amP{x:Int}{s:T_Setting}{id:Id}{d:Nat}:names id (d+1) (lq x s)=false:=by unfold lq;repeat' first|refine iR (Q:=λf=>names id (d+1) f=false) ?_ ?_ |rfl|(cases d <;> rfl)
theorem ahA{x:Int}{s:T_Setting}{l d:Nat}{h:Heap}:qo l d h (some (kZ x s))=some (kZ x s,h):=by show(aT l d 4 (kZ x s) (0,h)).bind _=_;rw[WV];rfl
theorem alX{x:Int}{s:T_Setting}{l d:Nat}{h:Heap}:qo l d h (some (lg x s))=some (lg x s,h):=by show(aT l d 4 (lg x s) (0,h)).bind _=_;rw[aaT];rfl
theorem abL{x:Int}{s:T_Setting}{l d:Nat}{h:Heap}:qo l d h (some (lu x s))=some (lu x s,h):=by show(aT l d 4 (lu x s) (0,h)).bind _=_;rw[Tq];rfl
theorem aks{x:Int}{s:T_Setting}{l d:Nat}{h:Heap}:qo l d h (some (kR x s))=some (kR x s,h):=by show(aT l d 4 (kR x s) (0,h)).bind _=_;rw[Zl];rfl
theorem acb{x:Int}{s:T_Setting}{l d:Nat}{h:Heap}:qo l d h (some (lq x s))=some (lq x s,h):=by show(aT l d 4 (lq x s) (0,h)).bind _=_;rw[aau];rfl
theorem ab6{C:bn}(hC:[299,203,205,306,214,216,212,209,204,217,218,215,206].all (fun k=>C.inl k==false)=true){cp:af}{ci:bg}{lvl dd:Nat}{h:Heap}{x:Int}{s:T_Setting}{a b:Int}:lG C cp ci lvl dd h (some [.v (.int .u32 a),.v (.int .u32 b)]) (kZ x s)=kG lvl dd h ((fQ cp [.v (.int .u32 a),.v (.int .u32 b)] (kZ x s)).map fun r=>(r,[])):=by
  simp only[List.all_cons,List.all_nil,Bool.and_true,Bool.and_eq_true,beq_iff_eq]at hC
  unfold kZ;repeat' first|refine iR (Q:=λf=>lG C cp ci lvl dd h (some [.v (.int .u32 a),.v (.int .u32 b)]) f=kG lvl dd h ((fQ cp [.v (.int .u32 a),.v (.int .u32 b)] f).map λr=>(r,[]))) ?_ ?_ |exact Hz (by simp only[hC]) (by first|exact bf.nil|exact bf.aF bf.nil)|rfl
theorem akz{C:bn}(hC:[220,221,222,224,225,226,227,323,229,230,231].all (fun k=>C.inl k==false)=true){cp:af}{ci:bg}{lvl dd:Nat}{h:Heap}{x:Int}{s:T_Setting}{a b:Int}:lG C cp ci lvl dd h (some [.v (.int .i64 a),.v (.int .i64 b)]) (lg x s)=kG lvl dd h ((fQ cp [.v (.int .i64 a),.v (.int .i64 b)] (lg x s)).map fun r=>(r,[])):=by
  simp only[List.all_cons,List.all_nil,Bool.and_true,Bool.and_eq_true,beq_iff_eq]at hC
  unfold lg;repeat' first|refine iR (Q:=λf=>lG C cp ci lvl dd h (some [.v (.int .i64 a),.v (.int .i64 b)]) f=kG lvl dd h ((fQ cp [.v (.int .i64 a),.v (.int .i64 b)] f).map λr=>(r,[]))) ?_ ?_ |exact Hz (by simp only[hC]) (by first|exact bf.nil|exact bf.aF bf.nil)|rfl
theorem acY{C:bn}(hC:[119,120,121,122,127,118].all (fun k=>C.inl k==false)=true){cp:af}{ci:bg}{lvl dd:Nat}{h:Heap}{x:Int}{s:T_Setting}{a b:Bool}:lG C cp ci lvl dd h (some [.v (.bool a),.v (.bool b)]) (lu x s)=kG lvl dd h ((fQ cp [.v (.bool a),.v (.bool b)] (lu x s)).map fun r=>(r,[])):=by
  simp only[List.all_cons,List.all_nil,Bool.and_true,Bool.and_eq_true,beq_iff_eq]at hC
  unfold lu;repeat' first|refine iR (Q:=λf=>lG C cp ci lvl dd h (some [.v (.bool a),.v (.bool b)]) f=kG lvl dd h ((fQ cp [.v (.bool a),.v (.bool b)] f).map λr=>(r,[]))) ?_ ?_ |exact Hz (by simp only[hC]) (by first|exact bf.nil|exact bf.aF bf.nil)|rfl
theorem ajL{C:bn}(hC:[123,125,128,130,132,134,136].all (fun k=>C.inl k==false)=true){cp:af}{ci:bg}{lvl dd:Nat}{h:Heap}{x:Int}{s:T_Setting}{a b:Int}:lG C cp ci lvl dd h (some [.v (.int .u32 a),.v (.int .u32 b)]) (kR x s)=kG lvl dd h ((fQ cp [.v (.int .u32 a),.v (.int .u32 b)] (kR x s)).map fun r=>(r,[])):=by
  simp only[List.all_cons,List.all_nil,Bool.and_true,Bool.and_eq_true,beq_iff_eq]at hC
  unfold kR;repeat' first|refine iR (Q:=λf=>lG C cp ci lvl dd h (some [.v (.int .u32 a),.v (.int .u32 b)]) f=kG lvl dd h ((fQ cp [.v (.int .u32 a),.v (.int .u32 b)] f).map λr=>(r,[]))) ?_ ?_ |exact Hz (by simp only[hC]) (by first|exact bf.nil|exact bf.aF bf.nil)|rfl
theorem afu{C:bn}(hC:[129,131,133,135,137].all (fun k=>C.inl k==false)=true){cp:af}{ci:bg}{lvl dd:Nat}{h:Heap}{x:Int}{s:T_Setting}{a b:Int}:lG C cp ci lvl dd h (some [.v (.int .i64 a),.v (.int .i64 b)]) (lq x s)=kG lvl dd h ((fQ cp [.v (.int .i64 a),.v (.int .i64 b)] (lq x s)).map fun r=>(r,[])):=by
  simp only[List.all_cons,List.all_nil,Bool.and_true,Bool.and_eq_true,beq_iff_eq]at hC
  unfold lq;repeat' first|refine iR (Q:=λf=>lG C cp ci lvl dd h (some [.v (.int .i64 a),.v (.int .i64 b)]) f=kG lvl dd h ((fQ cp [.v (.int .i64 a),.v (.int .i64 b)] f).map λr=>(r,[]))) ?_ ?_ |exact Hz (by simp only[hC]) (by first|exact bf.nil|exact bf.aF bf.nil)|rfl
theorem agF{C:bn}(hC:[299,203,205,306,214,216,212,209,204,217,218,215,206].all (fun k=>C.inl k==false)=true){cp:af}{g:Id→Option ax}{x:Int}{s:T_Setting}{a b:Int}:pY C cp g (some [.v (.int .u32 a),.v (.int .u32 b)]) (kZ x s)=fQ cp [.v (.int .u32 a),.v (.int .u32 b)] (kZ x s):=by
  simp only[List.all_cons,List.all_nil,Bool.and_true,Bool.and_eq_true,beq_iff_eq]at hC
  unfold kZ;repeat' first|refine iR (Q:=λf=>pY C cp g (some [.v (.int .u32 a),.v (.int .u32 b)]) f=fQ cp [.v (.int .u32 a),.v (.int .u32 b)] f) ?_ ?_ |exact IM (by simp only[hC]) (by first|exact bf.nil|exact bf.aF bf.nil)|rfl
theorem aew{C:bn}(hC:[220,221,222,224,225,226,227,323,229,230,231].all (fun k=>C.inl k==false)=true){cp:af}{g:Id→Option ax}{x:Int}{s:T_Setting}{a b:Int}:pY C cp g (some [.v (.int .i64 a),.v (.int .i64 b)]) (lg x s)=fQ cp [.v (.int .i64 a),.v (.int .i64 b)] (lg x s):=by
  simp only[List.all_cons,List.all_nil,Bool.and_true,Bool.and_eq_true,beq_iff_eq]at hC
  unfold lg;repeat' first|refine iR (Q:=λf=>pY C cp g (some [.v (.int .i64 a),.v (.int .i64 b)]) f=fQ cp [.v (.int .i64 a),.v (.int .i64 b)] f) ?_ ?_ |exact IM (by simp only[hC]) (by first|exact bf.nil|exact bf.aF bf.nil)|rfl
theorem aio{C:bn}(hC:[119,120,121,122,127,118].all (fun k=>C.inl k==false)=true){cp:af}{g:Id→Option ax}{x:Int}{s:T_Setting}{a b:Bool}:pY C cp g (some [.v (.bool a),.v (.bool b)]) (lu x s)=fQ cp [.v (.bool a),.v (.bool b)] (lu x s):=by
  simp only[List.all_cons,List.all_nil,Bool.and_true,Bool.and_eq_true,beq_iff_eq]at hC
  unfold lu;repeat' first|refine iR (Q:=λf=>pY C cp g (some [.v (.bool a),.v (.bool b)]) f=fQ cp [.v (.bool a),.v (.bool b)] f) ?_ ?_ |exact IM (by simp only[hC]) (by first|exact bf.nil|exact bf.aF bf.nil)|rfl
theorem adw{C:bn}(hC:[123,125,128,130,132,134,136].all (fun k=>C.inl k==false)=true){cp:af}{g:Id→Option ax}{x:Int}{s:T_Setting}{a b:Int}:pY C cp g (some [.v (.int .u32 a),.v (.int .u32 b)]) (kR x s)=fQ cp [.v (.int .u32 a),.v (.int .u32 b)] (kR x s):=by
  simp only[List.all_cons,List.all_nil,Bool.and_true,Bool.and_eq_true,beq_iff_eq]at hC
  unfold kR;repeat' first|refine iR (Q:=λf=>pY C cp g (some [.v (.int .u32 a),.v (.int .u32 b)]) f=fQ cp [.v (.int .u32 a),.v (.int .u32 b)] f) ?_ ?_ |exact IM (by simp only[hC]) (by first|exact bf.nil|exact bf.aF bf.nil)|rfl
theorem afJ{C:bn}(hC:[129,131,133,135,137].all (fun k=>C.inl k==false)=true){cp:af}{g:Id→Option ax}{x:Int}{s:T_Setting}{a b:Int}:pY C cp g (some [.v (.int .i64 a),.v (.int .i64 b)]) (lq x s)=fQ cp [.v (.int .i64 a),.v (.int .i64 b)] (lq x s):=by
  simp only[List.all_cons,List.all_nil,Bool.and_true,Bool.and_eq_true,beq_iff_eq]at hC
  unfold lq;repeat' first|refine iR (Q:=λf=>pY C cp g (some [.v (.int .i64 a),.v (.int .i64 b)]) f=fQ cp [.v (.int .i64 a),.v (.int .i64 b)] f) ?_ ?_ |exact IM (by simp only[hC]) (by first|exact bf.nil|exact bf.aF bf.nil)|rfl
theorem aMf(fu k:Nat)(x1:Int)(x2:Int)(r)(h:kC fu k x1 x2=some r):aA prog 299 [.v (.int .u32 x1),.v (.int .u32 x2),.aF [.fn k [] []] 0] (e299 r):=by
  unfold kC at h
  by_cases hk:k=140
  · subst hk;rw[if_pos rfl]at h;exact mW fu x1 x2 _ 140 _ bf.nil (λy0 r h=>aiS fu y0 r h) r h
  rw[if_neg hk]at h;clear hk
  by_cases hk:k=197
  · subst hk;rw[if_pos rfl]at h;exact mW fu x1 x2 _ 197 _ bf.nil (λy0 r h=>aiM fu y0 r h) r h
  rw[if_neg hk]at h;clear hk
  by_cases hk:k=198
  · subst hk;rw[if_pos rfl]at h;exact mW fu x1 x2 _ 198 _ bf.nil (λy0 r h=>aHN fu y0 r h) r h
  rw[if_neg hk]at h;clear hk
  by_cases hk:k=199
  · subst hk;rw[if_pos rfl]at h;exact mW fu x1 x2 _ 199 _ bf.nil (λy0 r h=>awi fu y0 r h) r h
  rw[if_neg hk]at h;clear hk
  by_cases hk:k=200
  · subst hk;rw[if_pos rfl]at h;exact mW fu x1 x2 _ 200 _ bf.nil (λy0 r h=>aJc fu y0 r h) r h
  rw[if_neg hk]at h;clear hk
  by_cases hk:k=201
  · subst hk;rw[if_pos rfl]at h;exact mW fu x1 x2 _ 201 _ bf.nil (λy0 r h=>akb fu y0 r h) r h
  rw[if_neg hk]at h;clear hk
  by_cases hk:k=202
  · subst hk;rw[if_pos rfl]at h;exact mW fu x1 x2 _ 202 _ bf.nil (λy0 r h=>avK fu y0 r h) r h
  rw[if_neg hk]at h;clear hk
  by_cases hk:k=213
  · subst hk;rw[if_pos rfl]at h;exact mW fu x1 x2 _ 213 _ bf.nil (λy0 r h=>ama fu y0 r h) r h
  rw[if_neg hk]at h;clear hk
  by_cases hk:k=315
  · subst hk;rw[if_pos rfl]at h;exact mW fu x1 x2 _ 315 _ bf.nil (λy0 r h=>ahQ fu y0 r h) r h
  rw[if_neg hk]at h;clear hk
  by_cases hk:k=316
  · subst hk;rw[if_pos rfl]at h;exact mW fu x1 x2 _ 316 _ bf.nil (λy0 r h=>apG fu y0 r h) r h
  rw[if_neg hk]at h;clear hk
  by_cases hk:k=317
  · subst hk;rw[if_pos rfl]at h;exact mW fu x1 x2 _ 317 _ bf.nil (λy0 r h=>aoR fu y0 r h) r h
  rw[if_neg hk]at h;clear hk
  by_cases hk:k=318
  · subst hk;rw[if_pos rfl]at h;exact mW fu x1 x2 _ 318 _ bf.nil (λy0 r h=>aqU fu y0 r h) r h
  rw[if_neg hk]at h;clear hk
  by_cases hk:k=319
  · subst hk;rw[if_pos rfl]at h;exact mW fu x1 x2 _ 319 _ bf.nil (λy0 r h=>asT fu y0 r h) r h
  rw[if_neg hk]at h;clear hk
  by_cases hk:k=320
  · subst hk;rw[if_pos rfl]at h;exact mW fu x1 x2 _ 320 _ bf.nil (λy0 r h=>azL fu y0 r h) r h
  rw[if_neg hk]at h;clear hk
  by_cases hk:k=321
  · subst hk;rw[if_pos rfl]at h;exact mW fu x1 x2 _ 321 _ bf.nil (λy0 r h=>aLX fu y0 r h) r h
  rw[if_neg hk]at h;clear hk
  by_cases hk:k=322
  · subst hk;rw[if_pos rfl]at h;exact mW fu x1 x2 _ 322 _ bf.nil (λy0 r h=>aGF fu y0 r h) r h
  rw[if_neg hk]at h;clear hk
  cases h
structure aeG (fu:Nat) (cp:af):Prop where
 ap: ∀ {k:Nat} {x1:Int} {x2:Int} {r},kC fu k x1 x2=some r->cp 299 [.v (.int .u32 x1),.v (.int .u32 x2),.aF [.fn k [] []] 0]=some (e299 r)
noncomputable def Pm(fu:Nat):Cm prog (Nat×Int×Int) Int:=⟨299,λt=>[.v (.int .u32 t.2.1),.v (.int .u32 t.2.2),.aF [.fn t.1 [] []] 0],λt=>kC fu t.1 t.2.1 t.2.2,e299,λt b h=>aMf fu t.1 t.2.1 t.2.2 b h,Zi⟩
theorem akI(H:aI cp (Pm fu).ct):aeG fu cp:=⟨λ {k x1 x2 r} h=>(Pm fu).at H (k,x1,x2) r h⟩
theorem art(fu k:Nat)(o:Option T_Setting)(x1:Int)(x2:Int)(r)(h:vH fu k o x1 x2=some r):aA prog 306 [.v (.int .u32 x1),.v (.int .u32 x2),.aF [.fn k [] (JB dL o)] 0] (e306 r):=by
  unfold vH at h;cases o with
  | none=>
    simp only at h
    by_cases hk:k=210
    · subst hk;rw[if_pos rfl]at h;exact Xl fu x1 x2 _ 210 _ rfl bf.nil (λy0 y1 r h=>aGC fu y0 y1 r h) r h
    rw[if_neg hk]at h;clear hk
    cases h
  | some s=>
    simp only at h
    by_cases hk:k=208
    · subst hk;rw[if_pos rfl]at h;exact Xl fu x1 x2 _ 208 _ rfl (bf.aF bf.nil) (λy0 y1 r h=>aIZ fu y0 y1 s r h) r h
    rw[if_neg hk]at h;clear hk
    by_cases hk:k=211
    · subst hk;rw[if_pos rfl]at h;exact Xl fu x1 x2 _ 211 _ rfl (bf.aF bf.nil) (λy0 y1 r h=>aso fu y0 y1 s r h) r h
    rw[if_neg hk]at h;clear hk
    cases h
structure ajD (fu:Nat) (cp:af):Prop where
 ap: ∀ {k:Nat} {o:Option T_Setting} {x1:Int} {x2:Int} {r},vH fu k o x1 x2=some r->cp 306 [.v (.int .u32 x1),.v (.int .u32 x2),.aF [.fn k [] (JB dL o)] 0]=some (e306 r)
noncomputable def Jr(fu:Nat):Cm prog (Nat×Option T_Setting×Int×Int) Int:=⟨306,λt=>[.v (.int .u32 t.2.2.1),.v (.int .u32 t.2.2.2),.aF [.fn t.1 [] (JB dL t.2.1)] 0],λt=>vH fu t.1 t.2.1 t.2.2.1 t.2.2.2,e306,λt b h=>art fu t.1 t.2.1 t.2.2.1 t.2.2.2 b h,by rintro⟨k,o,a⟩ ⟨k',o',a'⟩ h;cases o <;> cases o' <;> simp only[JB,gB,IJ,reduceCtorEq]at h ⊢ <;> simp_all [Prod.ext_iff]⟩
theorem aia(H:aI cp (Jr fu).ct):ajD fu cp:=⟨λ {k o x1 x2 r} h=>(Jr fu).at H (k,o,x1,x2) r h⟩
structure ajZ (fu:Nat) (cp:af):Prop where
 ap: ∀ {a0:Int} {a1:Int} {r},DY fu a0 a1=some r->cp 203 [.v (.int .u32 a0),.v (.int .u32 a1)]=some (.v (.int .u32 r))
noncomputable def QM(fu:Nat):Cm prog (Int×Int) Int:=⟨203,λt=>[.v (.int .u32 t.1),.v (.int .u32 t.2)],λt=>DY fu t.1 t.2,e203,λt b h=>azl fu t.1 t.2 b h,Zi⟩
theorem ai7(H:aI cp (QM fu).ct):ajZ fu cp:=⟨λ {a0 a1 r} h=>(QM fu).at H (a0,a1) r h⟩
structure amS (fu:Nat) (cp:af):Prop where
 ap: ∀ {a0:Int} {a1:Int} {r},Eb fu a0 a1=some r->cp 205 [.v (.int .u32 a0),.v (.int .u32 a1)]=some (.v (.int .u32 r))
noncomputable def Qj(fu:Nat):Cm prog (Int×Int) Int:=⟨205,λt=>[.v (.int .u32 t.1),.v (.int .u32 t.2)],λt=>Eb fu t.1 t.2,Le,λt b h=>aqC fu t.1 t.2 b h,Zi⟩
theorem agA(H:aI cp (Qj fu).ct):amS fu cp:=⟨λ {a0 a1 r} h=>(Qj fu).at H (a0,a1) r h⟩
structure ak1 (fu:Nat) (cp:af):Prop where
 ap: ∀ {a0:Int} {a1:Int} {a2:T_Setting} {r},EN fu a0 a1 a2=some r->cp 214 [.v (.int .u32 a0),.v (.int .u32 a1),.aF (dL a2) 0]=some (.v (.int .u32 r))
noncomputable def PK(fu:Nat):Cm prog (Int×Int×T_Setting) Int:=⟨214,λt=>[.v (.int .u32 t.1),.v (.int .u32 t.2.1),.aF (dL t.2.2) 0],λt=>EN fu t.1 t.2.1 t.2.2,e214,λt b h=>aBO fu t.1 t.2.1 t.2.2 b h,Zi⟩
theorem aho(H:aI cp (PK fu).ct):ak1 fu cp:=⟨λ {a0 a1 a2 r} h=>(PK fu).at H (a0,a1,a2) r h⟩
structure ac3 (fu:Nat) (cp:af):Prop where
 ap: ∀ {a0:Int} {a1:Int} {r},fP fu a0 a1=some r->cp 217 [.v (.int .u32 a0),.v (.int .u32 a1)]=some (.v (.int .u32 r))
noncomputable def Qq(fu:Nat):Cm prog (Int×Int) Int:=⟨217,λt=>[.v (.int .u32 t.1),.v (.int .u32 t.2)],λt=>fP fu t.1 t.2,e217,λt b h=>aJp fu t.1 t.2 b h,Zi⟩
theorem agI(H:aI cp (Qq fu).ct):ac3 fu cp:=⟨λ {a0 a1 r} h=>(Qq fu).at H (a0,a1) r h⟩
structure aiU (fu:Nat) (cp:af):Prop where
 ap: ∀ {a0:Int} {a1:Int} {r},lw fu a0 a1=some r->cp 218 [.v (.int .u32 a0),.v (.int .u32 a1)]=some (.v (.int .u32 r))
noncomputable def QX(fu:Nat):Cm prog (Int×Int) Int:=⟨218,λt=>[.v (.int .u32 t.1),.v (.int .u32 t.2)],λt=>lw fu t.1 t.2,Nl,λt b h=>ath fu t.1 t.2 b h,Zi⟩
theorem aix(H:aI cp (QX fu).ct):aiU fu cp:=⟨λ {a0 a1 r} h=>(QX fu).at H (a0,a1) r h⟩
def iw(cp:af)(a b:Int)(r:Int)(f:AV):Prop:=fQ cp [.v (.int .u32 a),.v (.int .u32 b)] f=some (.v (.int .u32 r))
structure WJ (fu:Nat) (cp:af):Prop where
 ap: ∀ {x:Int} {s:T_Setting} {a b:Int} {r:Int},sF fu x s a b=some r->fQ cp [.v (.int .u32 a),.v (.int .u32 b)] (kZ x s)=some (.v (.int .u32 r))
theorem aiV(H299:aeG fu cp)(H203:ajZ fu cp)(H205:amS fu cp)(H306:ajD fu cp)(H214:ak1 fu cp)(H216:BU fu cp)(H212:IC fu cp)(H209:pU fu cp)(H204:BF fu cp)(H217:ac3 fu cp)(H218:aiU fu cp)(H215:OH fu cp)(H206:Cj fu cp):WJ fu cp:=⟨fun {x s a b r} h=>by
  unfold sF at h
  exact bZ (Q:=iw cp a b r) (λh=>H299.ap h) (λh=>bZ (Q:=iw cp a b r) (λh=>H299.ap h) (λh=>bZ (Q:=iw cp a b r) (λh=>H299.ap h) (λh=>bZ (Q:=iw cp a b r) (λh=>H299.ap h) (λh=>bZ (Q:=iw cp a b r) (λh=>H299.ap h) (λh=>bZ (Q:=iw cp a b r) (λh=>H299.ap h) (λh=>bZ (Q:=iw cp a b r) (λh=>H299.ap h) (λh=>bZ (Q:=iw cp a b r) (λh=>H203.ap h) (λh=>bZ (Q:=iw cp a b r) (λh=>H299.ap h) (λh=>bZ (Q:=iw cp a b r) (λh=>H299.ap h) (λh=>bZ (Q:=iw cp a b r) (λh=>H299.ap h) (λh=>bZ (Q:=iw cp a b r) (λh=>H299.ap h) (λh=>bZ (Q:=iw cp a b r) (λh=>H299.ap h) (λh=>bZ (Q:=iw cp a b r) (λh=>H299.ap h) (λh=>bZ (Q:=iw cp a b r) (λh=>H299.ap h) (λh=>bZ (Q:=iw cp a b r) (λh=>H205.ap h) (λh=>bZ (Q:=iw cp a b r) (λh=>H306.ap (k:=208) (o:=some s) h) (λh=>bZ (Q:=iw cp a b r) (λh=>H306.ap (k:=211) (o:=some s) h) (λh=>bZ (Q:=iw cp a b r) (λh=>H214.ap h) (λh=>bZ (Q:=iw cp a b r) (λh=>H299.ap h) (λh=>bZ (Q:=iw cp a b r) (λh=>H216.ap h) (λh=>bZ (Q:=iw cp a b r) (λh=>H212.ap h) (λh=>bZ (Q:=iw cp a b r) (λh=>H209.ap h) (λh=>bZ (Q:=iw cp a b r) (λh=>H204.ap h) (λh=>bZ (Q:=iw cp a b r) (λh=>H217.ap h) (λh=>bZ (Q:=iw cp a b r) (λh=>H218.ap h) (λh=>bZ (Q:=iw cp a b r) (λh=>H215.ap h) (λh=>bZ (Q:=iw cp a b r) (λh=>H206.ap h) (λh=>bZ (Q:=iw cp a b r) (λh=>H306.ap (k:=210) (o:=none) h) (λh=>((λh=>H299.ap h) h)) h) h) h) h) h) h) h) h) h) h) h) h) h) h) h) h) h) h) h) h) h) h) h) h) h) h) h) h) h⟩
structure ac7 (fu:Nat) (cp:af):Prop where
 ap: ∀ {a0:Int} {a1:Int} {r},Cf fu a0 a1=some r->cp 220 [.v (.int .i64 a0),.v (.int .i64 a1)]=some (.v (.int .i64 r))
noncomputable def PD(fu:Nat):Cm prog (Int×Int) Int:=⟨220,λt=>[.v (.int .i64 t.1),.v (.int .i64 t.2)],λt=>Cf fu t.1 t.2,e220,λt b h=>axq fu t.1 t.2 b h,Zi⟩
theorem ai8(H:aI cp (PD fu).ct):ac7 fu cp:=⟨λ {a0 a1 r} h=>(PD fu).at H (a0,a1) r h⟩
structure aj6 (fu:Nat) (cp:af):Prop where
 ap: ∀ {a0:Int} {a1:Int} {r},FM fu a0 a1=some r->cp 221 [.v (.int .i64 a0),.v (.int .i64 a1)]=some (.v (.int .i64 r))
noncomputable def Jt(fu:Nat):Cm prog (Int×Int) Int:=⟨221,λt=>[.v (.int .i64 t.1),.v (.int .i64 t.2)],λt=>FM fu t.1 t.2,e221,λt b h=>aBo fu t.1 t.2 b h,Zi⟩
theorem amA(H:aI cp (Jt fu).ct):aj6 fu cp:=⟨λ {a0 a1 r} h=>(Jt fu).at H (a0,a1) r h⟩
structure acm (fu:Nat) (cp:af):Prop where
 ap: ∀ {a0:Int} {a1:Int} {r},AC fu a0 a1=some r->cp 222 [.v (.int .i64 a0),.v (.int .i64 a1)]=some (.v (.int .i64 r))
noncomputable def PL(fu:Nat):Cm prog (Int×Int) Int:=⟨222,λt=>[.v (.int .i64 t.1),.v (.int .i64 t.2)],λt=>AC fu t.1 t.2,e222,λt b h=>aIf fu t.1 t.2 b h,Zi⟩
theorem aga(H:aI cp (PL fu).ct):acm fu cp:=⟨λ {a0 a1 r} h=>(PL fu).at H (a0,a1) r h⟩
structure agS (fu:Nat) (cp:af):Prop where
 ap: ∀ {a0:Int} {a1:Int} {r},Em fu a0 a1=some r->cp 224 [.v (.int .i64 a0),.v (.int .i64 a1)]=some (.v (.int .i64 r))
noncomputable def KT(fu:Nat):Cm prog (Int×Int) Int:=⟨224,λt=>[.v (.int .i64 t.1),.v (.int .i64 t.2)],λt=>Em fu t.1 t.2,e224,λt b h=>apV fu t.1 t.2 b h,Zi⟩
theorem aeh(H:aI cp (KT fu).ct):agS fu cp:=⟨λ {a0 a1 r} h=>(KT fu).at H (a0,a1) r h⟩
structure aiX (fu:Nat) (cp:af):Prop where
 ap: ∀ {a0:Int} {a1:Int} {r},FD fu a0 a1=some r->cp 225 [.v (.int .i64 a0),.v (.int .i64 a1)]=some (.v (.int .i64 r))
noncomputable def Lu(fu:Nat):Cm prog (Int×Int) Int:=⟨225,λt=>[.v (.int .i64 t.1),.v (.int .i64 t.2)],λt=>FD fu t.1 t.2,PN,λt b h=>aq8 fu t.1 t.2 b h,Zi⟩
theorem ahY(H:aI cp (Lu fu).ct):aiX fu cp:=⟨λ {a0 a1 r} h=>(Lu fu).at H (a0,a1) r h⟩
structure ae6 (fu:Nat) (cp:af):Prop where
 ap: ∀ {a0:Int} {a1:Int} {r},Cb fu a0 a1=some r->cp 226 [.v (.int .i64 a0),.v (.int .i64 a1)]=some (.v (.int .i64 r))
noncomputable def Qc(fu:Nat):Cm prog (Int×Int) Int:=⟨226,λt=>[.v (.int .i64 t.1),.v (.int .i64 t.2)],λt=>Cb fu t.1 t.2,e226,λt b h=>aCz fu t.1 t.2 b h,Zi⟩
theorem agO(H:aI cp (Qc fu).ct):ae6 fu cp:=⟨λ {a0 a1 r} h=>(Qc fu).at H (a0,a1) r h⟩
structure ahr (fu:Nat) (cp:af):Prop where
 ap: ∀ {a0:Int} {a1:Int} {a2:Bool} {r},xZ fu a0 a1 a2=some r->cp 323 [.v (.int .i64 a0),.v (.int .i64 a1),.aF [.v (.bool a2)] 0]=some (.v (.int .i64 r))
noncomputable def Q3(fu:Nat):Cm prog (Int×Int×Bool) Int:=⟨323,λt=>[.v (.int .i64 t.1),.v (.int .i64 t.2.1),.aF [.v (.bool t.2.2)] 0],λt=>xZ fu t.1 t.2.1 t.2.2,e323,λt b h=>awn fu t.1 t.2.1 t.2.2 b h,Zi⟩
theorem aeL(H:aI cp (Q3 fu).ct):ahr fu cp:=⟨λ {a0 a1 a2 r} h=>(Q3 fu).at H (a0,a1,a2) r h⟩
structure akq (fu:Nat) (cp:af):Prop where
 ap: ∀ {a0:Int} {a1:Int} {r},DW fu a0 a1=some r->cp 229 [.v (.int .i64 a0),.v (.int .i64 a1)]=some (.v (.int .i64 r))
noncomputable def Qk(fu:Nat):Cm prog (Int×Int) Int:=⟨229,λt=>[.v (.int .i64 t.1),.v (.int .i64 t.2)],λt=>DW fu t.1 t.2,e229,λt b h=>awD fu t.1 t.2 b h,Zi⟩
theorem ahL(H:aI cp (Qk fu).ct):akq fu cp:=⟨λ {a0 a1 r} h=>(Qk fu).at H (a0,a1) r h⟩
structure aiR (fu:Nat) (cp:af):Prop where
 ap: ∀ {a0:Int} {a1:Int} {r},EP fu a0 a1=some r->cp 230 [.v (.int .i64 a0),.v (.int .i64 a1)]=some (.v (.int .i64 r))
noncomputable def QP(fu:Nat):Cm prog (Int×Int) Int:=⟨230,λt=>[.v (.int .i64 t.1),.v (.int .i64 t.2)],λt=>EP fu t.1 t.2,e230,λt b h=>ayo fu t.1 t.2 b h,Zi⟩
theorem adm(H:aI cp (QP fu).ct):aiR fu cp:=⟨λ {a0 a1 r} h=>(QP fu).at H (a0,a1) r h⟩
structure ahp (fu:Nat) (cp:af):Prop where
 ap: ∀ {a0:Int} {a1:Int} {r},EY fu a0 a1=some r->cp 231 [.v (.int .i64 a0),.v (.int .i64 a1)]=some (.v (.int .i64 r))
noncomputable def NM(fu:Nat):Cm prog (Int×Int) Int:=⟨231,λt=>[.v (.int .i64 t.1),.v (.int .i64 t.2)],λt=>EY fu t.1 t.2,e231,λt b h=>aoz fu t.1 t.2 b h,Zi⟩
theorem agX(H:aI cp (NM fu).ct):ahp fu cp:=⟨λ {a0 a1 r} h=>(NM fu).at H (a0,a1) r h⟩
def uU(cp:af)(a b:Int)(r:Int)(f:AV):Prop:=fQ cp [.v (.int .i64 a),.v (.int .i64 b)] f=some (.v (.int .i64 r))
structure Yo (fu:Nat) (cp:af):Prop where
 ap: ∀ {x:Int} {s:T_Setting} {a b:Int} {r:Int},qC fu x s a b=some r->fQ cp [.v (.int .i64 a),.v (.int .i64 b)] (lg x s)=some (.v (.int .i64 r))
theorem ahI(H220:ac7 fu cp)(H221:aj6 fu cp)(H222:acm fu cp)(H224:agS fu cp)(H225:aiX fu cp)(H226:ae6 fu cp)(H227:Xq fu cp)(H323:ahr fu cp)(H229:akq fu cp)(H230:aiR fu cp)(H231:ahp fu cp):Yo fu cp:=⟨fun {x s a b r} h=>by
  unfold qC at h
  exact bZ (Q:=uU cp a b r) (λh=>H220.ap h) (λh=>bZ (Q:=uU cp a b r) (λh=>H221.ap h) (λh=>bZ (Q:=uU cp a b r) (λh=>H222.ap h) (λh=>bZ (Q:=uU cp a b r) (λh=>H224.ap h) (λh=>bZ (Q:=uU cp a b r) (λh=>H225.ap h) (λh=>bZ (Q:=uU cp a b r) (λh=>H226.ap h) (λh=>bZ (Q:=uU cp a b r) (λh=>H227.ap h) (λh=>bZ (Q:=uU cp a b r) (λh=>H323.ap h) (λh=>bZ (Q:=uU cp a b r) (λh=>H229.ap h) (λh=>bZ (Q:=uU cp a b r) (λh=>H230.ap h) (λh=>((λh=>H231.ap h) h)) h) h) h) h) h) h) h) h) h) h⟩
structure ajP (fu:Nat) (cp:af):Prop where
 ap: ∀ {a0:Bool} {a1:Bool} {r},FB fu a0 a1=some r->cp 119 [.v (.bool a0),.v (.bool a1)]=some (.v (.bool r))
noncomputable def KY(fu:Nat):Cm prog (Bool×Bool) Bool:=⟨119,λt=>[.v (.bool t.1),.v (.bool t.2)],λt=>FB fu t.1 t.2,e119,λt b h=>am3 fu t.1 t.2 b h,Zi⟩
theorem u119(H:aI cp (KY fu).ct):ajP fu cp:=⟨λ {a0 a1 r} h=>(KY fu).at H (a0,a1) r h⟩
structure ak8 (fu:Nat) (cp:af):Prop where
 ap: ∀ {a0:Bool} {a1:Bool} {r},Ak fu a0 a1=some r->cp 120 [.v (.bool a0),.v (.bool a1)]=some (.v (.bool r))
noncomputable def MP(fu:Nat):Cm prog (Bool×Bool) Bool:=⟨120,λt=>[.v (.bool t.1),.v (.bool t.2)],λt=>Ak fu t.1 t.2,e120,λt b h=>aIr fu t.1 t.2 b h,Zi⟩
theorem aeK(H:aI cp (MP fu).ct):ak8 fu cp:=⟨λ {a0 a1 r} h=>(MP fu).at H (a0,a1) r h⟩
structure acP (fu:Nat) (cp:af):Prop where
 ap: ∀ {a0:Bool} {a1:Bool} {r},AY fu a0 a1=some r->cp 121 [.v (.bool a0),.v (.bool a1)]=some (.v (.bool r))
noncomputable def NS(fu:Nat):Cm prog (Bool×Bool) Bool:=⟨121,λt=>[.v (.bool t.1),.v (.bool t.2)],λt=>AY fu t.1 t.2,Jp,λt b h=>aEt fu t.1 t.2 b h,Zi⟩
theorem agy(H:aI cp (NS fu).ct):acP fu cp:=⟨λ {a0 a1 r} h=>(NS fu).at H (a0,a1) r h⟩
structure afN (fu:Nat) (cp:af):Prop where
 ap: ∀ {a0:Bool} {a1:Bool} {r},EF fu a0 a1=some r->cp 122 [.v (.bool a0),.v (.bool a1)]=some (.v (.bool r))
noncomputable def Pj(fu:Nat):Cm prog (Bool×Bool) Bool:=⟨122,λt=>[.v (.bool t.1),.v (.bool t.2)],λt=>EF fu t.1 t.2,JV,λt b h=>aBW fu t.1 t.2 b h,Zi⟩
theorem acH(H:aI cp (Pj fu).ct):afN fu cp:=⟨λ {a0 a1 r} h=>(Pj fu).at H (a0,a1) r h⟩
structure akN (fu:Nat) (cp:af):Prop where
 ap: ∀ {a0:Bool} {a1:Bool} {r},BZ fu a0 a1=some r->cp 127 [.v (.bool a0),.v (.bool a1)]=some (.v (.bool r))
noncomputable def Ri(fu:Nat):Cm prog (Bool×Bool) Bool:=⟨127,λt=>[.v (.bool t.1),.v (.bool t.2)],λt=>BZ fu t.1 t.2,e127,λt b h=>aEV fu t.1 t.2 b h,Zi⟩
theorem u127(H:aI cp (Ri fu).ct):akN fu cp:=⟨λ {a0 a1 r} h=>(Ri fu).at H (a0,a1) r h⟩
structure agM (fu:Nat) (cp:af):Prop where
 ap: ∀ {a0:Bool} {a1:Bool} {r},Ey fu a0 a1=some r->cp 118 [.v (.bool a0),.v (.bool a1)]=some (.v (.bool r))
noncomputable def MO(fu:Nat):Cm prog (Bool×Bool) Bool:=⟨118,λt=>[.v (.bool t.1),.v (.bool t.2)],λt=>Ey fu t.1 t.2,e118,λt b h=>aDE fu t.1 t.2 b h,Zi⟩
theorem ahR(H:aI cp (MO fu).ct):agM fu cp:=⟨λ {a0 a1 r} h=>(MO fu).at H (a0,a1) r h⟩
def GU(cp:af)(a b:Bool)(r:Bool)(f:AV):Prop:=fQ cp [.v (.bool a),.v (.bool b)] f=some (.v (.bool r))
structure YV (fu:Nat) (cp:af):Prop where
 ap: ∀ {x:Int} {s:T_Setting} {a b:Bool} {r:Bool},Be fu x s a b=some r->fQ cp [.v (.bool a),.v (.bool b)] (lu x s)=some (.v (.bool r))
theorem ahK(H119:ajP fu cp)(H120:ak8 fu cp)(H121:acP fu cp)(H122:afN fu cp)(H127:akN fu cp)(H118:agM fu cp):YV fu cp:=⟨fun {x s a b r} h=>by
  unfold Be at h
  exact bZ (Q:=GU cp a b r) (λh=>H119.ap h) (λh=>bZ (Q:=GU cp a b r) (λh=>H120.ap h) (λh=>bZ (Q:=GU cp a b r) (λh=>H121.ap h) (λh=>bZ (Q:=GU cp a b r) (λh=>H122.ap h) (λh=>bZ (Q:=GU cp a b r) (λh=>H127.ap h) (λh=>((λh=>H118.ap h) h)) h) h) h) h) h⟩
structure ahz (fu:Nat) (cp:af):Prop where
 ap: ∀ {a0:Int} {a1:Int} {r},zl fu a0 a1=some r->cp 123 [.v (.int .u32 a0),.v (.int .u32 a1)]=some (.v (.bool r))
noncomputable def Lr(fu:Nat):Cm prog (Int×Int) Bool:=⟨123,λt=>[.v (.int .u32 t.1),.v (.int .u32 t.2)],λt=>zl fu t.1 t.2,KI,λt b h=>aLL fu t.1 t.2 b h,Zi⟩
theorem agf(H:aI cp (Lr fu).ct):ahz fu cp:=⟨λ {a0 a1 r} h=>(Lr fu).at H (a0,a1) r h⟩
structure akr (fu:Nat) (cp:af):Prop where
 ap: ∀ {a0:Int} {a1:Int} {a2:T_Setting} {r},yI fu a0 a1 a2=some r->cp 125 [.v (.int .u32 a0),.v (.int .u32 a1),.aF (dL a2) 0]=some (.v (.bool r))
noncomputable def Lc(fu:Nat):Cm prog (Int×Int×T_Setting) Bool:=⟨125,λt=>[.v (.int .u32 t.1),.v (.int .u32 t.2.1),.aF (dL t.2.2) 0],λt=>yI fu t.1 t.2.1 t.2.2,e125,λt b h=>aH2 fu t.1 t.2.1 t.2.2 b h,Zi⟩
theorem ahi(H:aI cp (Lc fu).ct):akr fu cp:=⟨λ {a0 a1 a2 r} h=>(Lc fu).at H (a0,a1,a2) r h⟩
structure ak5 (fu:Nat) (cp:af):Prop where
 ap: ∀ {a0:Int} {a1:Int} {r},zy fu a0 a1=some r->cp 132 [.v (.int .u32 a0),.v (.int .u32 a1)]=some (.v (.bool r))
noncomputable def Lp(fu:Nat):Cm prog (Int×Int) Bool:=⟨132,λt=>[.v (.int .u32 t.1),.v (.int .u32 t.2)],λt=>zy fu t.1 t.2,Oq,λt b h=>aJt fu t.1 t.2 b h,Zi⟩
theorem afH(H:aI cp (Lp fu).ct):ak5 fu cp:=⟨λ {a0 a1 r} h=>(Lp fu).at H (a0,a1) r h⟩
structure acE (fu:Nat) (cp:af):Prop where
 ap: ∀ {a0:Int} {a1:Int} {r},zn fu a0 a1=some r->cp 134 [.v (.int .u32 a0),.v (.int .u32 a1)]=some (.v (.bool r))
noncomputable def Rl(fu:Nat):Cm prog (Int×Int) Bool:=⟨134,λt=>[.v (.int .u32 t.1),.v (.int .u32 t.2)],λt=>zn fu t.1 t.2,Jo,λt b h=>amX fu t.1 t.2 b h,Zi⟩
theorem ajX(H:aI cp (Rl fu).ct):acE fu cp:=⟨λ {a0 a1 r} h=>(Rl fu).at H (a0,a1) r h⟩
structure aen (fu:Nat) (cp:af):Prop where
 ap: ∀ {a0:Int} {a1:Int} {r},yK fu a0 a1=some r->cp 136 [.v (.int .u32 a0),.v (.int .u32 a1)]=some (.v (.bool r))
noncomputable def NQ(fu:Nat):Cm prog (Int×Int) Bool:=⟨136,λt=>[.v (.int .u32 t.1),.v (.int .u32 t.2)],λt=>yK fu t.1 t.2,Kw,λt b h=>ayy fu t.1 t.2 b h,Zi⟩
theorem acX(H:aI cp (NQ fu).ct):aen fu cp:=⟨λ {a0 a1 r} h=>(NQ fu).at H (a0,a1) r h⟩
def zK(cp:af)(a b:Int)(r:Bool)(f:AV):Prop:=fQ cp [.v (.int .u32 a),.v (.int .u32 b)] f=some (.v (.bool r))
structure abu (fu:Nat) (cp:af):Prop where
 ap: ∀ {x:Int} {s:T_Setting} {a b:Int} {r:Bool},FQ fu x s a b=some r->fQ cp [.v (.int .u32 a),.v (.int .u32 b)] (kR x s)=some (.v (.bool r))
theorem ahX(H123:ahz fu cp)(H125:akr fu cp)(H128:AB fu cp)(H130:qc fu cp)(H132:ak5 fu cp)(H134:acE fu cp)(H136:aen fu cp):abu fu cp:=⟨fun {x s a b r} h=>by
  unfold FQ at h
  exact bZ (Q:=zK cp a b r) (λh=>H123.ap h) (λh=>bZ (Q:=zK cp a b r) (λh=>H125.ap h) (λh=>bZ (Q:=zK cp a b r) (λh=>H128.ap h) (λh=>bZ (Q:=zK cp a b r) (λh=>H130.ap h) (λh=>bZ (Q:=zK cp a b r) (λh=>H132.ap h) (λh=>bZ (Q:=zK cp a b r) (λh=>H134.ap h) (λh=>bZ (Q:=zK cp a b r) (λh=>H136.ap h) (λh=>((λh=>nomatch h) h)) h) h) h) h) h) h) h⟩
structure afT (fu:Nat) (cp:af):Prop where
 ap: ∀ {a0:Int} {a1:Int} {r},EE fu a0 a1=some r->cp 129 [.v (.int .i64 a0),.v (.int .i64 a1)]=some (.v (.bool r))
noncomputable def Ql(fu:Nat):Cm prog (Int×Int) Bool:=⟨129,λt=>[.v (.int .i64 t.1),.v (.int .i64 t.2)],λt=>EE fu t.1 t.2,e129,λt b h=>azJ fu t.1 t.2 b h,Zi⟩
theorem agC(H:aI cp (Ql fu).ct):afT fu cp:=⟨λ {a0 a1 r} h=>(Ql fu).at H (a0,a1) r h⟩
structure alk (fu:Nat) (cp:af):Prop where
 ap: ∀ {a0:Int} {a1:Int} {r},ER fu a0 a1=some r->cp 131 [.v (.int .i64 a0),.v (.int .i64 a1)]=some (.v (.bool r))
noncomputable def Jm(fu:Nat):Cm prog (Int×Int) Bool:=⟨131,λt=>[.v (.int .i64 t.1),.v (.int .i64 t.2)],λt=>ER fu t.1 t.2,KN,λt b h=>ayl fu t.1 t.2 b h,Zi⟩
theorem u131(H:aI cp (Jm fu).ct):alk fu cp:=⟨λ {a0 a1 r} h=>(Jm fu).at H (a0,a1) r h⟩
structure ac5 (fu:Nat) (cp:af):Prop where
 ap: ∀ {a0:Int} {a1:Int} {r},ES fu a0 a1=some r->cp 133 [.v (.int .i64 a0),.v (.int .i64 a1)]=some (.v (.bool r))
noncomputable def Nh(fu:Nat):Cm prog (Int×Int) Bool:=⟨133,λt=>[.v (.int .i64 t.1),.v (.int .i64 t.2)],λt=>ES fu t.1 t.2,Ko,λt b h=>aMF fu t.1 t.2 b h,Zi⟩
theorem ajs(H:aI cp (Nh fu).ct):ac5 fu cp:=⟨λ {a0 a1 r} h=>(Nh fu).at H (a0,a1) r h⟩
structure aiD (fu:Nat) (cp:af):Prop where
 ap: ∀ {a0:Int} {a1:Int} {r},Ce fu a0 a1=some r->cp 135 [.v (.int .i64 a0),.v (.int .i64 a1)]=some (.v (.bool r))
noncomputable def Nu(fu:Nat):Cm prog (Int×Int) Bool:=⟨135,λt=>[.v (.int .i64 t.1),.v (.int .i64 t.2)],λt=>Ce fu t.1 t.2,J8,λt b h=>aKx fu t.1 t.2 b h,Zi⟩
theorem amn(H:aI cp (Nu fu).ct):aiD fu cp:=⟨λ {a0 a1 r} h=>(Nu fu).at H (a0,a1) r h⟩
structure afP (fu:Nat) (cp:af):Prop where
 ap: ∀ {a0:Int} {a1:Int} {r},CV fu a0 a1=some r->cp 137 [.v (.int .i64 a0),.v (.int .i64 a1)]=some (.v (.bool r))
noncomputable def Oz(fu:Nat):Cm prog (Int×Int) Bool:=⟨137,λt=>[.v (.int .i64 t.1),.v (.int .i64 t.2)],λt=>CV fu t.1 t.2,e137,λt b h=>aqp fu t.1 t.2 b h,Zi⟩
theorem ak2(H:aI cp (Oz fu).ct):afP fu cp:=⟨λ {a0 a1 r} h=>(Oz fu).at H (a0,a1) r h⟩
def Hw(cp:af)(a b:Int)(r:Bool)(f:AV):Prop:=fQ cp [.v (.int .i64 a),.v (.int .i64 b)] f=some (.v (.bool r))
structure abG (fu:Nat) (cp:af):Prop where
 ap: ∀ {x:Int} {s:T_Setting} {a b:Int} {r:Bool},Ei fu x s a b=some r->fQ cp [.v (.int .i64 a),.v (.int .i64 b)] (lq x s)=some (.v (.bool r))
theorem ag4(H129:afT fu cp)(H131:alk fu cp)(H133:ac5 fu cp)(H135:aiD fu cp)(H137:afP fu cp):abG fu cp:=⟨fun {x s a b r} h=>by
  unfold Ei at h
  exact bZ (Q:=Hw cp a b r) (λh=>H129.ap h) (λh=>bZ (Q:=Hw cp a b r) (λh=>H131.ap h) (λh=>bZ (Q:=Hw cp a b r) (λh=>H133.ap h) (λh=>bZ (Q:=Hw cp a b r) (λh=>H135.ap h) (λh=>bZ (Q:=Hw cp a b r) (λh=>H137.ap h) (λh=>((λh=>nomatch h) h)) h) h) h) h) h⟩
def UW:TD:=zz [[4],[],[0,1,5,6,7,8,9,10,11,12,13,14,15,16,17,18,19,20,21,22]]
def aff:=Da (aC UW.eq_1)
theorem i138:au prog 138 UW=some ⟨ae Tryz.f138,[.tmp 4],[4]⟩:=fA Tryz.func138
def e138:Bool->AV:=λr=> .v (.bool r)
theorem aEY(cp:af)(fu:Nat)(x1:dN)(x2:Int):J (go prog ak cp aj 0 [] UW fu (fin prog [.tmp 4] [4]) (ae Tryz.f138) (ay 0 [.aF (kN x1) 0,.v (.int .i64 x2)]) [] []) (oL fu x1 x2) e138:=by
 unfold oL e138
 have da:=aff
 conv=>arg 1;simp only[ae,Tryz.f138]
 have z0:=aff
 exact Wk
theorem aDq(fu:Nat)(x1:dN)(x2:Int)(r)(h:oL fu x1 x2=some r):aA prog 138 [.aF (kN x1) 0,.v (.int .i64 x2)] (e138 r):=aH mixed [] (ids:=[]) rfl (by decide) i138 (C:=ak) (ci:=λcp=>aj) (λcp ok=>aB) (λcp H=>aEY cp fu x1 x2) h
open Aw (qR)
def aeB:=Da (aC Aw.qR.eq_1)
noncomputable def b25:Code:=ae Tryz.f25
theorem amh{C:bn}{cp:af}{ci:bg}{lvl:Nat}{prot:List Id}{D:TD}{n:Nat}{K:KK}{e:Env}{h:Heap}{fs:List Fr}:go prog C cp ci lvl prot D n K b25 e h fs=go prog C cp ci lvl prot D n K (ae Tryz.f25) e h fs:=rfl
theorem i25:au prog 25 qR=some ⟨b25,[.tmp 6,.tmp 7],[56,34]⟩:=fA Tryz.func25
open Aw (tC)
def agd:=Da (aC Aw.tC.eq_1)
noncomputable def b27:Code:=ae Tryz.f27
theorem akS{C:bn}{cp:af}{ci:bg}{lvl:Nat}{prot:List Id}{D:TD}{n:Nat}{K:KK}{e:Env}{h:Heap}{fs:List Fr}:go prog C cp ci lvl prot D n K b27 e h fs=go prog C cp ci lvl prot D n K (ae Tryz.f27) e h fs:=rfl
theorem i27:au prog 27 tC=some ⟨b27,[],[]⟩:=fA Tryz.func27
def MN:TD:=[(0,[5,6,7,8,9,10]),(0,[0,1,4]),(9,[12,13,14,15,16,17,18,19]),(0,[]),(0,[20,21,22]),(0,[]),(0,[24,25,26,27,28,29,30,31,32,33,34]),(0,[]),(13,[35,36,37,38,39,40,41,42,43,44,45,46,47]),(0,[]),(0,[49,50,51]),(0,[]),(14,[52,53,54,55,56,57,58,59,60,61,62,63,64,65]),(0,[]),(0,[67,68,69,70,71,72,73,74,75,76,77]),(0,[]),(13,[78,79,80,81,82,83,84,85,86,87,88,89,90]),(0,[]),(0,[92,93,94]),(0,[]),(13,[95,96,97,98,99,100,101,102,103,104,105,106,107]),(0,[]),(0,[109,110,111,112,113,114,115,116,117,118,119,120,121]),(0,[]),(0,[122,123,124,125,126,127,128]),(0,[]),(0,[130,131,132,133,134]),(0,[]),(0,[135,136,137,138,139,140,141])]
def amv:=Da (aC MN.eq_1)
noncomputable def OQ:Code:=ae Tryz.f59
theorem akx{C:bn}{cp:af}{ci:bg}{lvl:Nat}{prot:List Id}{D:TD}{n:Nat}{K:KK}{e:Env}{h:Heap}{fs:List Fr}:go prog C cp ci lvl prot D n K OQ e h fs=go prog C cp ci lvl prot D n K (ae Tryz.f59) e h fs:=rfl
theorem i59:au prog 59 MN=some ⟨OQ,[],[]⟩:=fA Tryz.func59
def KR:TD:=[(0,[7,8,9]),(0,[0,1,10,11,12]),(0,[]),(0,[4,5,6]),(0,[]),(0,[]),(0,[14,15,16]),(0,[]),(0,[17,18,19,20]),(0,[]),(0,[5,22,23,24,25,26,27]),(0,[]),(0,[28,29,30,31,32]),(0,[]),(29,[34,35,36,37,38,39,40,41,42,43,44,45,46,47,48,49,50,51,52,53,54,55,56,57,58,59,60,61,62]),(0,[]),(29,[63,64,65,66,67,68,69,70,71,72,73,74,75,76,77,78,79,80,81,82,83,84,85,86,87,88,89,90,91]),(0,[]),(0,[92])]
def amR:=Da (aC KR.eq_1)
noncomputable def NE:Code:=ae Tryz.f58
theorem alg{C:bn}{cp:af}{ci:bg}{lvl:Nat}{prot:List Id}{D:TD}{n:Nat}{K:KK}{e:Env}{h:Heap}{fs:List Fr}:go prog C cp ci lvl prot D n K NE e h fs=go prog C cp ci lvl prot D n K (ae Tryz.f58) e h fs:=rfl
theorem i58:au prog 58 KR=some ⟨NE,[],[]⟩:=fA Tryz.func58
def Py:TD:=[(0,[7,8,9,10]),(0,[0,1,2,6,15]),(0,[11,12,13,14]),(0,[]),(18,[16,17,18,19,20,21,22,23,24,25,26,27,28,29,30,31,32,33]),(0,[]),(0,[35]),(0,[]),(18,[36,37,38,39,40,41,42,43,44,45,46,47,48,49,50,51,52,53]),(0,[]),(0,[55]),(0,[]),(18,[56,57,58,59,60,61,62,63,64,65,66,67,68,69,70,71,72,73])]
def adf:=Da (aC Py.eq_1)
noncomputable def NJ:Code:=ae Tryz.f57
theorem acQ{C:bn}{cp:af}{ci:bg}{lvl:Nat}{prot:List Id}{D:TD}{n:Nat}{K:KK}{e:Env}{h:Heap}{fs:List Fr}:go prog C cp ci lvl prot D n K NJ e h fs=go prog C cp ci lvl prot D n K (ae Tryz.f57) e h fs:=rfl
theorem i57:au prog 57 Py=some ⟨NJ,[],[]⟩:=fA Tryz.func57
def AU:TD:=[(0,[1]),(0,[0,2,4,6,7,8,9]),(1766847064778384329583328192277302464788767441907706228294420472581489728,[10,11,12,13,14,15,16,17,18,19,20,21,22,23,24,25,26,27]),(0,[]),(14,[28,29,30,31,32,33,34,35,36,37,38,39]),(0,[]),(20,[40,41,42,43,44,45,46,47,48,49,50,51,52,53,54,55,56,57,58,59]),(0,[]),(0,[61,62,63,64,65,66,67,68,69,70,71]),(0,[]),(21,[72,73,74,75,76,77,78,79,80,81,82,83,84,85,86,87,88,89,90,91,92]),(0,[]),(0,[94,95,96]),(0,[]),(20,[97,98,99,100,101,102,103,104,105,106,107,108,109,110,111,112,113,114,115,116]),(0,[]),(0,[118,119,120,121,122,123,124,125,126,127,128]),(0,[]),(20,[129,130,131,132,133,134,135,136,137,138,139,140,141,142,143,144,145,146,147,148]),(0,[]),(0,[150,151,152]),(0,[]),(20,[153,154,155,156,157,158,159,160,161,162,163,164,165,166,167,168,169,170,171,172])]
def adp:=Da (aC AU.eq_1)
noncomputable def LD:Code:=ae Tryz.f60
theorem ai9{C:bn}{cp:af}{ci:bg}{lvl:Nat}{prot:List Id}{D:TD}{n:Nat}{K:KK}{e:Env}{h:Heap}{fs:List Fr}:go prog C cp ci lvl prot D n K LD e h fs=go prog C cp ci lvl prot D n K (ae Tryz.f60) e h fs:=rfl
theorem i60:au prog 60 AU=some ⟨LD,[],[]⟩:=fA Tryz.func60
end Go.Av
