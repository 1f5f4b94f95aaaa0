/- The walks of the plain functions. Made by a program of mine. Conditions: none. -/
import Derived.Test.YtiagecndhhinfaaGreatQ4W1
set_option linter.unusedVariables false
set_option linter.unusedSimpArgs false
set_option linter.defProp false
set_option maxRecDepth 20000
set_option maxHeartbeats 20000000
open Go Go.Proofs
open Tryz (prog)
namespace Go.Av
open Aw (wM wO wP Ba yG yH yI Bc yJ yK yL yM wQ yN yO yP yQ yR yS yT)
noncomputable abbrev Hm(fu:Nat):Cm prog Int Bool:=⟨10,fun t=>[.v (.int .i64 t)],ut fu,fun r=> .v (.bool r),by
 rintro x1
 refine pT fu Aw.d10 Tryz.func10 [.tmp 2] [4] [] [] (λcp H=> ?_)
 unfold ut
 have z0:=Da (aJ Aw.d10.eq_1)
 exact Wk,Zi⟩
def Yw:TD:=zz [[2],[],[0,3,4]]
noncomputable abbrev ajl(fu:Nat):Cm prog Int Int:=⟨175,fun t=>[.v (.int .u32 t)],Nr fu,fun r=> .v (.int .u32 r),by
 rintro x1
 refine pT fu Yw Tryz.func175 [.tmp 2] [23] [] [] (λcp H=> ?_)
 unfold Nr
 have z0:=Da (aJ Yw.eq_1)
 exact Wk,Zi⟩
def Zr:TD:=zz [[2],[],[0,3,4,5]]
noncomputable abbrev akn(fu:Nat):Cm prog Int Bool:=⟨86,fun t=>[.v (.int .u32 t)],Ns fu,fun r=> .v (.bool r),by
 rintro x1
 refine pT fu Zr Tryz.func86 [.tmp 2] [4] [(ajl fu).ct] [175] (λcp H=> ?_)
 obtain⟨H1, -⟩:=H
 unfold Ns
 have z0:=Da (aJ Zr.eq_1)
 exact Wk,Zi⟩
def Zf:TD:=zz [[2],[],[3],[],[],[],[0,5]]
noncomputable abbrev aj2(fu:Nat):Cm prog Int Int:=⟨37,fun t=>[.v (.int .u32 t)],Fj fu,fun r=> .v (.int .u32 r),by
 rintro x1
 refine pT fu Zf Tryz.func37 [.tmp 2] [23] [(akn fu).ct] [86] (λcp H=> ?_)
 obtain⟨H1, -⟩:=H
 unfold Fj
 have z0:=Da (aJ Zf.eq_1)
 exact Wk,Zi⟩
def jI.m1:LJ 1 6 Unit ((List Int)×Int):=⟨λr s e=>[(2,er e 2),(3,er e 3),(9,.own (0,7,1) 0 s.1.length s.1.length),(10,er e 10),(11,.v (.int .i64 s.2))],λr s h=>[((0,2,0),hr h (0,2,0)),((0,7,0),hr h (0,7,0)),((0,7,1),.sl true true 1 s.1.length (lm (ik .u32) s.1)),((0,7,2),hr h (0,7,2)),((0,7,3),hr h (0,7,3)),((0,3,0),bs (hr h (0,3,0)) 2 (.own (0,7,1) 0 s.1.length s.1.length))]⟩
open jI in
noncomputable abbrev AZ(fu:Nat):Cm prog aj aj:=⟨18,fun t=>[.agg (bT t)],jI fu,fun r=> .agg [.v (.int .i64 r.fType),.fresh 1 r.fDims.length (lm (ik .i64) r.fDims),.fresh 1 r.fF.length (lm (ik .u32) r.fF),.fresh 1 r.fI.length (lm (ik .i64) r.fI),.fresh 1 r.fB.length (lm (bk) r.fB)],by
 rintro x1
 refine pT fu Aw.IB Tryz.func18 [.cell 2 28] [28] [(XN fu).ct,(aj2 fu).ct] [36,37] (λcp H=> ?_)
 obtain⟨H1,H2, -⟩:=H
 unfold jI
 have z0:=Da (aJ Aw.IB.eq_1)
 exact Wk,Zi⟩
def oP.j1:LJ 1 6 Unit Int:=⟨λr t e=>[(0,.v (.int .i64 t)),(1,er e 1)],λr t h=>[]⟩
open oP in
noncomputable abbrev aj9(fu:Nat):Cm prog (Int×Int) Int:=⟨43,fun t=>[.v (.int .i64 t.1),.v (.int .i64 t.2)],fun t=>oP fu t.1 t.2,fun r=> .v (.int .i64 r),by
 rintro⟨x1,x2⟩
 refine pT fu Aw.Jj Tryz.func43 [.tmp 4] [3] [] [] (λcp H=> ?_)
 unfold oP
 have z0:=Da (aJ Aw.Jj.eq_1)
 exact Wk,Zi⟩
def jX.m1:LJ 1 6 Unit ((List Int)×Int):=⟨λr s e=>[(0,er e 0),(4,.own (0,4,77) 0 s.1.length s.1.length),(14,er e 14),(15,er e 15),(16,.v (.int .i64 s.2))],λr s h=>[((0,4,77),.sl true true 1 s.1.length (lm (ik .i64) s.1))]⟩
open jX in
noncomputable abbrev Ht(fu:Nat):Cm prog aV ((List Int)×Bool):=⟨22,fun t=>[.ay (dJ t) 0],jX fu,fun r=> .tuple [.fresh 1 r.1.length (lm (ik .i64) r.1),.v (.bool r.2)],by
 rintro x1
 refine pT fu Aw.I5 Tryz.func22 [.tmp 2,.tmp 3] [22,4] [(aj9 fu).ct] [43] (λcp H=> ?_)
 obtain⟨H1, -⟩:=H
 unfold jX
 have z0:=Da (aJ Aw.I5.eq_1)
 exact Wk,Zi⟩
def qH.m1:LJ 1 8 Unit ((List Int)×Int×Int):=⟨λr s e=>[(0,er e 0),(3,.own (0,8,0) 0 s.1.length s.1.length),(4,.v (.int .i64 s.2.1)),(5,.v (.int .i64 s.2.2))],λr s h=>[((0,8,0),.sl true true 1 s.1.length (lm (ik .i64) s.1))]⟩
open qH in
noncomputable abbrev ajI(fu:Nat):Cm prog (List Int) (List Int):=⟨208,fun t=>[.arr t.length (lm (ik .i64) t)],qH fu,fun r=> .fresh 1 r.length (lm (ik .i64) r),by
 rintro x1
 refine pT fu Aw.IZ Tryz.func208 [.tmp 2] [22] [] [] (λcp H=> ?_)
 unfold qH
 have z0:=Da (aJ Aw.IZ.eq_1)
 exact Wk,Zi⟩
noncomputable abbrev ai6(fu:Nat):Cm prog (List Int) ((List Int)×Int):=⟨105,fun t=>[.arr t.length (lm (ik .i64) t)],Nl fu,fun r=> .tuple [.fresh 1 r.1.length (lm (ik .i64) r.1),.v (.int .i64 r.2)],by
 rintro x1
 refine pT fu Aw.Ih Tryz.func105 [.tmp 2,.tmp 3] [22,34] [(pJ fu).ct,(ajI fu).ct] [35,208] (λcp H=> ?_)
 obtain⟨H1,H2, -⟩:=H
 unfold Nl
 have z0:=Da (aJ Aw.Ih.eq_1)
 exact Wk,Zi⟩
noncomputable abbrev pK(fu:Nat):Cm prog (List Int) (List Int):=⟨44,fun t=>[.arr t.length (lm (ik .i64) t)],jA fu,fun r=> .fresh 1 r.length (lm (ik .i64) r),by
 rintro x1
 refine pT fu Aw.Jm Tryz.func44 [.tmp 2] [22] [(ai6 fu).ct] [105] (λcp H=> ?_)
 obtain⟨H1, -⟩:=H
 unfold jA
 have z0:=Da (aJ Aw.Jm.eq_1)
 exact Wk,Zi⟩
noncomputable abbrev XD(fu:Nat):Cm prog (Int×(List Int)) (aj×Int):=⟨118,fun t=>[.v (.int .i64 t.1),.arr t.2.length (lm (ik .i64) t.2)],fun t=>Df fu t.1 t.2,fun r=> .tuple [.agg [.v (.int .i64 r.1.fType),.fresh 1 r.1.fDims.length (lm (ik .i64) r.1.fDims),.fresh 1 r.1.fF.length (lm (ik .u32) r.1.fF),.fresh 1 r.1.fI.length (lm (ik .i64) r.1.fI),.fresh 1 r.1.fB.length (lm (bk) r.1.fB)],.v (.int .i64 r.2)],by
 rintro⟨x1,x2⟩
 refine pT fu Aw.Io Tryz.func118 [.cell 4 28,.tmp 5] [28,34] [(XM fu).ct,(pJ fu).ct,(sG fu).ct] [34,35,42] (λcp H=> ?_)
 obtain⟨H1,H2,H3, -⟩:=H
 unfold Df
 have z0:=Da (aJ Aw.Io.eq_1)
 exact Wk,Zi⟩
noncomputable abbrev ajb(fu:Nat):Cm prog (Int×Int) Bool:=⟨119,fun t=>[.v (.int .i64 t.1),.ay [.v (.int .i64 t.2)] 0],fun t=>vT fu t.1 t.2,fun r=> .v (.bool r),by
 rintro⟨x1,x2⟩
 refine pT fu Aw.Ip Tryz.func119 [.tmp 3] [4] [] [] (λcp H=> ?_)
 unfold vT
 have z0:=Da (aJ Aw.Ip.eq_1)
 exact Wk,Zi⟩
def alr:=Da (aJ Aw.yG.eq_1)
noncomputable def Px:Code:=az Tryz.f120
theorem go_b120{C:bG}{cp:aC}{ci:bz}{lvl:Nat}{prot:List Id}{D:List (Nat×List Nat)}{n:Nat}{K:KK}{e:Env}{h:Heap}{fs:List Fr}:go prog C cp ci lvl prot D n K Px e h fs=go prog C cp ci lvl prot D n K (az Tryz.f120) e h fs:=rfl
theorem SA:aN prog 120 yG=some ⟨Px,[],[]⟩:=fA Tryz.func120
def als:=Da (aJ Aw.yH.eq_1)
noncomputable def Py:Code:=az Tryz.f121
theorem go_b121{C:bG}{cp:aC}{ci:bz}{lvl:Nat}{prot:List Id}{D:List (Nat×List Nat)}{n:Nat}{K:KK}{e:Env}{h:Heap}{fs:List Fr}:go prog C cp ci lvl prot D n K Py e h fs=go prog C cp ci lvl prot D n K (az Tryz.f121) e h fs:=rfl
theorem SB:aN prog 121 yH=some ⟨Py,[],[]⟩:=fA Tryz.func121
def alu:=Da (aJ Aw.yI.eq_1)
noncomputable def Pz:Code:=az Tryz.f122
theorem go_b122{C:bG}{cp:aC}{ci:bz}{lvl:Nat}{prot:List Id}{D:List (Nat×List Nat)}{n:Nat}{K:KK}{e:Env}{h:Heap}{fs:List Fr}:go prog C cp ci lvl prot D n K Pz e h fs=go prog C cp ci lvl prot D n K (az Tryz.f122) e h fs:=rfl
theorem SC:aN prog 122 yI=some ⟨Pz,[],[]⟩:=fA Tryz.func122
noncomputable abbrev X7(fu:Nat):Cm prog ((List Int)×Int) Bool:=⟨78,λt=>[.arr t.1.length (lm (ik .i64) t.1),.fn 119 [] [.ay [.v (.int .i64 t.2)] 0]],λt=>kY fu t.1 (λy0=>vT fu y0 t.2),λr=> .v (.bool r),λt b h=>EU fu t.1 (λy0=>vT fu y0 t.2) 119 [.ay [.v (.int .i64 t.2)] 0] (bK.ay bK.nil) (λy0 r h=>(ajb fu).ok (y0,t.2) r h) b h,Zi⟩
def df.m1:LJ 1 4 Unit ((List Bool)×Int):=⟨λr s e=>[(0,er e 0),(1,er e 1),(11,er e 11),(12,er e 12),(13,.v (.int .i64 s.2))],λr s h=>[((0,3,0),hr h (0,3,0)),((0,6,0),hr h (0,6,0)),((0,22,0),hr h (0,22,0)),((0,22,1),hr h (0,22,1)),((0,22,2),hr h (0,22,2)),((0,22,3),.sl true true 1 (hx h (0,22,3)) (lm (bk) s.1)),((0,9,0),hr h (0,9,0))]⟩
def df.q3:LC 3 Unit (List Bool):=⟨λr t=> .tuple [],λr t h=>[((0,3,0),hr h (0,3,0)),((0,6,0),hr h (0,6,0)),((0,22,0),hr h (0,22,0)),((0,22,1),hr h (0,22,1)),((0,22,2),hr h (0,22,2)),((0,22,3),.sl true true 1 (hx h (0,22,3)) (lm (bk) t)),((0,9,0),hr h (0,9,0))]⟩
def df.m2:LJ 2 4 Unit ((List Int)×Int):=⟨λr s e=>[(0,er e 0),(1,er e 1),(11,er e 11),(12,er e 12),(13,.v (.int .i64 s.2))],λr s h=>[((0,3,0),hr h (0,3,0)),((0,6,0),hr h (0,6,0)),((0,22,0),hr h (0,22,0)),((0,22,1),hr h (0,22,1)),((0,22,2),.sl true true 1 (hx h (0,22,2)) (lm (ik .i64) s.1)),((0,22,3),hr h (0,22,3)),((0,9,0),hr h (0,9,0))]⟩
def df.q2:LC 2 Unit (List Int):=⟨λr t=> .tuple [],λr t h=>[((0,3,0),hr h (0,3,0)),((0,6,0),hr h (0,6,0)),((0,22,0),hr h (0,22,0)),((0,22,1),hr h (0,22,1)),((0,22,2),.sl true true 1 (hx h (0,22,2)) (lm (ik .i64) t)),((0,22,3),hr h (0,22,3)),((0,9,0),hr h (0,9,0))]⟩
def df.m3:LJ 3 4 Unit ((List Int)×Int):=⟨λr s e=>[(0,er e 0),(1,er e 1),(11,er e 11),(12,er e 12),(13,.v (.int .i64 s.2))],λr s h=>[((0,3,0),hr h (0,3,0)),((0,6,0),hr h (0,6,0)),((0,22,0),hr h (0,22,0)),((0,22,1),.sl true true 1 (hx h (0,22,1)) (lm (ik .u32) s.1)),((0,22,2),hr h (0,22,2)),((0,22,3),hr h (0,22,3)),((0,9,0),hr h (0,9,0))]⟩
def df.q1:LC 1 Unit (List Int):=⟨λr t=> .tuple [],λr t h=>[((0,3,0),hr h (0,3,0)),((0,6,0),hr h (0,6,0)),((0,22,0),hr h (0,22,0)),((0,22,1),.sl true true 1 (hx h (0,22,1)) (lm (ik .u32) t)),((0,22,2),hr h (0,22,2)),((0,22,3),hr h (0,22,3)),((0,9,0),hr h (0,9,0))]⟩
noncomputable def Gj(cp:aC)(fu:Nat):bz:=iE prog (jb [120,121,122]) cp fH fu 122 yI ⟨Pz,[],[]⟩ fH
theorem Va{cp:aC}{fu:Nat}(ok:aK prog cp):eH prog (Gj cp fu):=je mixed ok eY SC eY
noncomputable def Gl(cp:aC)(fu:Nat):bz:=iE prog (jb [120,121,122]) cp (Gj cp fu) fu 121 yH ⟨Py,[],[]⟩ (Gj cp fu)
theorem Vb{cp:aC}{fu:Nat}(ok:aK prog cp):eH prog (Gl cp fu):=je mixed ok (Va ok) SB (Va ok)
noncomputable def N7(cp:aC)(fu:Nat):bz:=iE prog (jb [120,121,122]) cp (Gl cp fu) fu 120 yG ⟨Px,[],[]⟩ (Gl cp fu)
theorem aea{cp:aC}{fu:Nat}(ok:aK prog cp):eH prog (N7 cp fu):=je mixed ok (Vb ok) SA (Vb ok)
open df in
noncomputable abbrev QR(fu:Nat):Cm prog (aj×(List Int)×(List Int)) (aj×Int):=⟨52,fun t=>[.agg (bT t.1),.arr t.2.1.length (lm (ik .i64) t.2.1),.arr t.2.2.length (lm (ik .i64) t.2.2)],fun t=>df fu t.1 t.2.1 t.2.2,fun r=> .tuple [.agg [.v (.int .i64 r.1.fType),.fresh 1 r.1.fDims.length (lm (ik .i64) r.1.fDims),.fresh 1 r.1.fF.length (lm (ik .u32) r.1.fF),.fresh 1 r.1.fI.length (lm (ik .i64) r.1.fI),.fresh 1 r.1.fB.length (lm (bk) r.1.fB)],.v (.int .i64 r.2)],by
 rintro⟨x1,x2,x3⟩
 refine pG fu (jb [120,121,122]) (λcp=>(N7 cp fu)) (λcp ok=>aea ok) Aw.Jr Tryz.func52 [.cell 6 28,.tmp 7] [28,34] [(wJ fu).ct,(XD fu).ct,(X7 fu).ct] [17,118,78] (λcp H=> ?_)
 obtain⟨H1,H2,H3, -⟩:=H
 have F1: ∀ {a0:aj} {r},jY fu a0=some r->cp 17 [.agg (bT a0)]=some (.v (.int .i64 r)):=λ {a0} {r} h=>(wJ fu).at H1 a0 r h
 have F2: ∀ {a0:Int} {a1:List Int} {r},Df fu a0 a1=some r->cp 118 [.v (.int .i64 a0),.arr a1.length (lm (ik .i64) a1)]=some (.tuple [.agg [.v (.int .i64 r.1.fType),.fresh 1 r.1.fDims.length (lm (ik .i64) r.1.fDims),.fresh 1 r.1.fF.length (lm (ik .u32) r.1.fF),.fresh 1 r.1.fI.length (lm (ik .i64) r.1.fI),.fresh 1 r.1.fB.length (lm (bk) r.1.fB)],.v (.int .i64 r.2)]):=λ {a0} {a1} {r} h=>(XD fu).at H2 (a0,a1) r h
 have F3: ∀ {a0:List Int} {c1:Int} {r},kY fu a0 (λy0=>vT fu y0 c1)=some r->cp 78 [.arr a0.length (lm (ik .i64) a0),.fn 119 [] [.ay [.v (.int .i64 c1)] 0]]=some (.v (.bool r)):=λ {a0} {c1} {r} h=>(X7 fu).at H3 (a0,c1) r h
 unfold df N7 Gl Gj
 have z0:=Da (aJ Aw.Jr.eq_1)
 have z1:=alr
 have z2:=Tryz.f120.eq_1
 have z3:=als
 have z4:=Tryz.f121.eq_1
 have z5:=alu
 have z6:=Tryz.f122.eq_1
 have z7:=RI
 have z8:=ed
 have z9:= @az.eq_1
 exact Wk,Zi⟩
def lu:=Da (aJ Aw.wM.eq_1)
noncomputable def GR:Code:=az Tryz.f106
theorem lD{C:bG}{cp:aC}{ci:bz}{lvl:Nat}{prot:List Id}{D:List (Nat×List Nat)}{n:Nat}{K:KK}{e:Env}{h:Heap}{fs:List Fr}:go prog C cp ci lvl prot D n K GR e h fs=go prog C cp ci lvl prot D n K (az Tryz.f106) e h fs:=rfl
theorem La:aN prog 106 wM=some ⟨GR,[],[]⟩:=fA Tryz.func106
def qP:=Da (aJ Aw.wO.eq_1)
noncomputable def GU:Code:=az Tryz.f107
theorem rf{C:bG}{cp:aC}{ci:bz}{lvl:Nat}{prot:List Id}{D:List (Nat×List Nat)}{n:Nat}{K:KK}{e:Env}{h:Heap}{fs:List Fr}:go prog C cp ci lvl prot D n K GU e h fs=go prog C cp ci lvl prot D n K (az Tryz.f107) e h fs:=rfl
theorem i107:aN prog 107 wO=some ⟨GU,[],[]⟩:=fA Tryz.func107
def lw:=Da (aJ Aw.yQ.eq_1)
theorem i45:aN prog 45 yQ=some ⟨az Tryz.f45,[.cell 6 28],[28]⟩:=fA Tryz.func45
def e45:aj->AV:=λr=> .agg [.v (.int .i64 r.fType),.fresh 1 r.fDims.length (lm (ik .i64) r.fDims),.fresh 1 r.fF.length (lm (ik .u32) r.fF),.fresh 1 r.fI.length (lm (ik .i64) r.fI),.fresh 1 r.fB.length (lm (bk) r.fB)]
set_option maxHeartbeats 20000000 in
theorem w45(cp:aC)(fu:Nat)(x1:aj)(x2:List Int)(p2:(List Int)→Option Int)(fv_p2:FuncId)(ca_p2:List AV)(ni_p2:(jb [106,107]).inl fv_p2=false)(cap_p2:bK ca_p2)(hp_p2: ∀ (y0:List Int) r,p2 y0=some r→cp fv_p2 ((.arr y0.length (lm (ik .i64) y0))::ca_p2)=some (.v (.int .i64 r)))(H81_0: ∀ (a0:List Int) (a1:Int) r,slices_Contains_int fu a0 a1=some r→cp 81 [.arr a0.length (lm (ik .i64) a0),.v (.int .i64 a1)]=some (.v (.bool r)))(H52_0: ∀ (a0:aj) (a1:List Int) (a2:List Int) r,df fu a0 a1 a2=some r→cp 52 [.agg (bT a0),.arr a1.length (lm (ik .i64) a1),.arr a2.length (lm (ik .i64) a2)]=some (.tuple [.agg [.v (.int .i64 r.1.fType),.fresh 1 r.1.fDims.length (lm (ik .i64) r.1.fDims),.fresh 1 r.1.fF.length (lm (ik .u32) r.1.fF),.fresh 1 r.1.fI.length (lm (ik .i64) r.1.fI),.fresh 1 r.1.fB.length (lm (bk) r.1.fB)],.v (.int .i64 r.2)])):J (go prog (jb [106,107]) cp (iE prog (jb [106,107]) cp (iE prog (jb [106,107]) cp fH fu 107 wO ⟨GU,[],[]⟩ fH) fu 106 wM ⟨GR,[],[]⟩ (iE prog (jb [106,107]) cp fH fu 107 wO ⟨GU,[],[]⟩ fH)) 0 [] yQ fu (fin prog [.cell 6 28] [28]) (az Tryz.f45) (bW 0 [.agg (bT x1),.arr x2.length (lm (ik .i64) x2),.fn fv_p2 [] ca_p2]) [] []) (cO fu x1 x2 p2) e45:=by
 unfold cO e45
 have da:=lw
 have c4_p2:=λg=>(cap_p2.1 g).1;have c3_p2:=λg=>(cap_p2.1 g).2.1;have b4_p2:=λg=>(cap_p2.1 g).2.2.1;have b3_p2:=λg=>(cap_p2.1 g).2.2.2;have nm_p2:=cap_p2.2
 conv=>arg 1;simp (disch:=first|exact Zd|fail) only[az,Tryz.f45,ZZ,lw,simprocAttr,lD,az,Tryz.f106,lu,RI,ed,bW,c4_p2,c3_p2,b4_p2,b3_p2,nm_p2]
 refine J.eq gG ?_
 refine J.bind λx3 h1=> ?_
 have e_h1:=H81_0 _ _ _ h1
 try simp only[NN,NT,LN,simprocAttr,DT]at e_h1
 conv=>arg 1;simp (disch:=first|exact Zd|fail) only[ZZ,lw,simprocAttr,lD,az,Tryz.f106,lu,RI,ed,bW,c4_p2,c3_p2,b4_p2,b3_p2,nm_p2,e_h1]
 refine J.ite (λh2=> ?_) (λh2=> ?_)
 ·have h2':x3=true:=h2
  refine J.bind λx4 h3=> ?_
  have e_h3:=H52_0 _ _ _ _ h3
  try simp only[NN,NT,LN,simprocAttr,DT]at e_h3
  refine J.some ?_
  simp (maxSteps:=20000000) (disch:=first|exact Zd|fail) only[ZZ,lw,simprocAttr,lD,az,Tryz.f106,lu,RI,ed,bW,c4_p2,c3_p2,b4_p2,b3_p2,nm_p2,e_h1,h2',e_h3,FN]
 ·have h2':x3=false:=Bool.eq_false_iff.2 h2
  conv=>arg 1;simp (disch:=first|exact Zd|fail) only[ZZ,lw,simprocAttr,lD,az,Tryz.f106,lu,RI,ed,bW,c4_p2,c3_p2,b4_p2,b3_p2,nm_p2,e_h1,h2']
  refine J.eq gq ?_
  refine J.chk λh4=> ?_
  conv=>arg 1;simp (disch:=first|exact Zd|fail) only[ZZ,lw,simprocAttr,lD,az,Tryz.f106,lu,RI,ed,bW,c4_p2,c3_p2,b4_p2,b3_p2,nm_p2,e_h1,h2']
  refine J.eq gG ?_
  conv=>arg 1;simp (disch:=first|exact Zd|fail) only[ZZ,lw,simprocAttr,lD,az,Tryz.f106,lu,RI,ed,bW,c4_p2,c3_p2,b4_p2,b3_p2,nm_p2,e_h1,h2']
  refine J.eq gq ?_
  conv=>arg 1;simp (disch:=first|exact Zd|fail) only[ZZ,lw,simprocAttr,lD,az,Tryz.f106,lu,RI,ed,bW,c4_p2,c3_p2,b4_p2,b3_p2,nm_p2,e_h1,h2']
  unfold cO.W1
  refine J.loop (λ(s:(List Int)×(List Int))=>([(0,.arr x2.length (lm (ik .i64) x2)),(1,.fn 107 [] [.ptr (0,7,0) 0 0,.ptr (0,5,0) 0 0]),(4,.own (1,10,0) 0 s.2.length s.2.length)],[((0,3,0),.bx true ([.v (.int .i64 x1.fType),.arr x1.fDims.length (lm (ik .i64) x1.fDims),.arr x1.fF.length (lm (ik .u32) x1.fF),.arr x1.fI.length (lm (ik .i64) x1.fI),.arr x1.fB.length (lm (bk) x1.fB)])),((0,5,0),.bx true ([.fn fv_p2 [] ca_p2])),((0,6,0),.bx true ([.v (.int .i64 0),.v (.slice none 0 0),.v (.slice none 0 0),.v (.slice none 0 0),.v (.slice none 0 0)])),((0,7,0),.bx true ([.own (0,7,78) 0 s.1.length s.1.length])),((0,7,78),.sl true true 1 s.1.length (lm (ik .i64) s.1)),((1,10,0),.sl true true 1 s.2.length (lm (ik .i64) s.2))])) (λnext s=>cO.L1 fu p2 x1 x2 (λx17 x18=>next (x17,x18)) s.1 s.2) (s0:=(([]:List Int),List.replicate (x2.length:Int).toNat (0:Int))) ?_ ?_ ?_
  ·exact Ze
  ·exact Zh
  rintro next k1 hn1 ⟨x17,x18⟩
  let nx1:(List Int)->(List Int)->Option aj:=(λx17 x18=>next (x17,x18))
  show J _ (cO.L1 fu p2 x1 x2 nx1 x17 x18) _
  unfold cO.L1
  refine J.bind λx31 h5=> ?_
  have e_h5:=hp_p2 _ _ h5
  try simp only[NN,NT,LN,simprocAttr,DT]at e_h5
  refine J.chk λh6=> ?_
  conv=>arg 1;simp (disch:=first|exact Zd|fail) only[ZZ,lw,simprocAttr,lD,az,Tryz.f106,lu,rf,az,Tryz.f107,qP,RI,ed,bW,c4_p2,c3_p2,b4_p2,b3_p2,nm_p2,e_h1,h2',e_h5]
  refine J.eq gG ?_
  conv=>arg 1;simp (disch:=first|exact Zd|fail) only[ZZ,lw,simprocAttr,lD,az,Tryz.f106,lu,rf,az,Tryz.f107,qP,RI,ed,bW,c4_p2,c3_p2,b4_p2,b3_p2,nm_p2,e_h1,h2',e_h5]
  unfold cO.W2
  refine J.loop (λ(s:(List Int)×Int)=>([(0,.arr x2.length (lm (ik .i64) x2)),(1,.fn 107 [] [.ptr (0,7,0) 0 0,.ptr (0,5,0) 0 0]),(4,.own (1,10,0) 0 s.1.length s.1.length),(5,.v (.int .i64 s.2))],[((0,3,0),.bx true ([.v (.int .i64 x1.fType),.arr x1.fDims.length (lm (ik .i64) x1.fDims),.arr x1.fF.length (lm (ik .u32) x1.fF),.arr x1.fI.length (lm (ik .i64) x1.fI),.arr x1.fB.length (lm (bk) x1.fB)])),((0,5,0),.bx true ([.fn fv_p2 [] ca_p2])),((0,6,0),.bx true ([.v (.int .i64 0),.v (.slice none 0 0),.v (.slice none 0 0),.v (.slice none 0 0),.v (.slice none 0 0)])),((0,7,0),.bx true ([.own (0,7,78) 0 (x17.length+1) (x17.length+1)])),((0,7,78),.sl true true 1 (x17.length+1) (lm (ik .i64) (x17++([x31])))),((1,10,0),.sl true true 1 s.1.length (lm (ik .i64) s.1))])) (λnext s=>cO.L2 fu nx1 x1 x2 x17 x31 (λx35 x36=>next (x35,x36)) s.1 s.2) (s0:=(x18,wk .i64 ((x2.length:Int) - 1))) ?_ ?_ ?_
  ·exact Ze
  ·exact Zh
  rintro next k2 hn2 ⟨x35,x36⟩
  let nx2:(List Int)->Int->Option aj:=(λx35 x36=>next (x35,x36))
  show J _ (cO.L2 fu nx1 x1 x2 x17 x31 nx2 x35 x36) _
  unfold cO.L2
  refine J.eq gG ?_
  conv=>arg 1;simp (disch:=first|exact Zd|fail) only[ZZ,lw,simprocAttr,lD,az,Tryz.f106,lu,rf,az,Tryz.f107,qP,RI,ed,bW,c4_p2,c3_p2,b4_p2,b3_p2,nm_p2,e_h1,h2',e_h5]
  refine J.ite (λh7=> ?_) (λh7=> ?_)
  ·have h7':=decide_eq_true h7
   have h7'':decide (x36<0)=false:=decide_eq_false ae
   conv=>arg 1;simp (disch:=first|exact Zd|fail) only[ZZ,lw,simprocAttr,lD,az,Tryz.f106,lu,rf,az,Tryz.f107,qP,RI,ed,bW,c4_p2,c3_p2,b4_p2,b3_p2,nm_p2,e_h1,h2',e_h5,h7'',h7']
   refine J.eq gq ?_
   refine J.eq gG ?_
   refine J.at λx40 h8 h9 h10=> ?_
   refine J.chk λh11=> ?_
   conv=>arg 1;simp (disch:=first|exact Zd|fail) only[ZZ,lw,simprocAttr,lD,az,Tryz.f106,lu,rf,az,Tryz.f107,qP,RI,ed,bW,c4_p2,c3_p2,b4_p2,b3_p2,nm_p2,e_h1,h2',e_h5,h7'',h7',fD h10]
   refine J.eq gG ?_
   refine J.at λx41 h12 h13 h14=> ?_
   refine J.at λx42 h15 h16 h17=> ?_
   conv=>arg 1;simp (disch:=first|exact Zd|fail) only[ZZ,lw,simprocAttr,lD,az,Tryz.f106,lu,rf,az,Tryz.f107,qP,RI,ed,bW,c4_p2,c3_p2,b4_p2,b3_p2,nm_p2,e_h1,h2',e_h5,h7'',h7',fD h10,fD h14,fD h17]
   refine J.ite (λh18=> ?_) (λh18=> ?_)
   ·have h18':=decide_eq_true h18
    have h18'':decide (x42<=x41)=false:=decide_eq_false ae
    conv=>arg 1;simp (disch:=first|exact Zd|fail) only[ZZ,lw,simprocAttr,lD,az,Tryz.f106,lu,rf,az,Tryz.f107,qP,RI,ed,bW,c4_p2,c3_p2,b4_p2,b3_p2,nm_p2,e_h1,h2',e_h5,h7'',h7',fD h10,fD h14,fD h17,h18'',h18']
    refine J.next (s:=(x17++([x31]),x35.set x36.toNat (wk .i64 (x40+1)))) hn1 ?_ ?_
    ·exact Ze
    ·exact Zh
   ·have h18':=decide_eq_false h18
    have h18'':decide (x42<=x41)=true:=decide_eq_true ae
    conv=>arg 1;simp (disch:=first|exact Zd|fail) only[ZZ,lw,simprocAttr,lD,az,Tryz.f106,lu,rf,az,Tryz.f107,qP,RI,ed,bW,c4_p2,c3_p2,b4_p2,b3_p2,nm_p2,e_h1,h2',e_h5,h7'',h7',fD h10,fD h14,fD h17,h18'',h18']
    refine J.eq gq ?_
    refine J.chk λh19=> ?_
    conv=>arg 1;simp (disch:=first|exact Zd|fail) only[ZZ,lw,simprocAttr,lD,az,Tryz.f106,lu,rf,az,Tryz.f107,qP,RI,ed,bW,c4_p2,c3_p2,b4_p2,b3_p2,nm_p2,e_h1,h2',e_h5,h7'',h7',fD h10,fD h14,fD h17,h18'',h18']
    refine J.eq gq ?_
    conv=>arg 1;simp (disch:=first|exact Zd|fail) only[ZZ,lw,simprocAttr,lD,az,Tryz.f106,lu,rf,az,Tryz.f107,qP,RI,ed,bW,c4_p2,c3_p2,b4_p2,b3_p2,nm_p2,e_h1,h2',e_h5,h7'',h7',fD h10,fD h14,fD h17,h18'',h18']
    refine J.next (s:=((x35.set x36.toNat (wk .i64 (x40+1))).set x36.toNat 0,wk .i64 (x36 - 1))) hn2 ?_ ?_
    ·exact Ze
    ·exact Zh
  ·have h7':=decide_eq_false h7
   have h7'':decide (x36<0)=true:=decide_eq_true ae
   conv=>arg 1;simp (disch:=first|exact Zd|fail) only[ZZ,lw,simprocAttr,lD,az,Tryz.f106,lu,rf,az,Tryz.f107,qP,RI,ed,bW,c4_p2,c3_p2,b4_p2,b3_p2,nm_p2,e_h1,h2',e_h5,h7'',h7']
   refine J.eq gq ?_
   refine J.bind λx43 h20=> ?_
   have e_h20:=H52_0 _ _ _ _ h20
   try simp only[NN,NT,LN,simprocAttr,DT]at e_h20
   refine J.some ?_
   simp (maxSteps:=20000000) (disch:=first|exact Zd|fail) only[ZZ,lw,simprocAttr,lD,az,Tryz.f106,lu,rf,az,Tryz.f107,qP,RI,ed,bW,c4_p2,c3_p2,b4_p2,b3_p2,nm_p2,e_h1,h2',e_h5,h7'',h7',e_h20,FN]
noncomputable def t45(fu:Nat)(x1:aj)(x2:List Int)(p2:(List Int)->Option Int)(fv_p2:FuncId)(ca_p2:List AV):aC:=iI 81 (iU (λ(t:(List Int)×Int)=>([.arr t.1.length (lm (ik .i64) t.1),.v (.int .i64 t.2)]:List AV)) (λt=>slices_Contains_int fu t.1 t.2) (λr=> .v (.bool r))) (iI 52 (iU (λ(t:aj×(List Int)×(List Int))=>([.agg (bT t.1),.arr t.2.1.length (lm (ik .i64) t.2.1),.arr t.2.2.length (lm (ik .i64) t.2.2)]:List AV)) (λt=>df fu t.1 t.2.1 t.2.2) (λr=> .tuple [.agg [.v (.int .i64 r.1.fType),.fresh 1 r.1.fDims.length (lm (ik .i64) r.1.fDims),.fresh 1 r.1.fF.length (lm (ik .u32) r.1.fF),.fresh 1 r.1.fI.length (lm (ik .i64) r.1.fI),.fresh 1 r.1.fB.length (lm (bk) r.1.fB)],.v (.int .i64 r.2)])) (iI fv_p2 (iU (λ(t:List Int)=>((.arr t.length (lm (ik .i64) t))::ca_p2:List AV)) (λt=>p2 t) (λr=> .v (.int .i64 r))) (nX)))
theorem Nv(fu:Nat)(x1:aj)(x2:List Int)(p2:(List Int)->Option Int)(fv_p2:FuncId)(ca_p2:List AV)(nc_p2:jJ [52,81] fv_p2=false)(ni_p2:(jb [106,107]).inl fv_p2=false)(cap_p2:bK ca_p2)(hp_p2: ∀ (y0:List Int) r,p2 y0=some r->bH prog fv_p2 ((.arr y0.length (lm (ik .i64) y0))::ca_p2) (.v (.int .i64 r))):aK prog (t45 fu x1 x2 p2 fv_p2 ca_p2):=jO (jO (jO (oU) (jL (λt b h=>hp_p2 t b h))) (jL (λt b h=>(QR fu).ok (t.1,t.2.1,t.2.2) b h))) (jL (λt b h=>(Hy fu).ok (t.1,t.2) b h))
theorem vM(fu:Nat)(x1:aj)(x2:List Int)(p2:(List Int)→Option Int)(fv_p2:FuncId)(ca_p2:List AV)(nc_p2:jJ [52,81] fv_p2=false)(ni_p2:(jb [106,107]).inl fv_p2=false)(cap_p2:bK ca_p2)(hp_p2: ∀ (y0:List Int) r,p2 y0=some r→bH prog fv_p2 ((.arr y0.length (lm (ik .i64) y0))::ca_p2) (.v (.int .i64 r)))(r)(h:cO fu x1 x2 p2=some r):bH prog 45 [.agg (bT x1),.arr x2.length (lm (ik .i64) x2),.fn fv_p2 [] ca_p2] (e45 r):=
  qg mixed (cp:=t45 fu x1 x2 p2 fv_p2 ca_p2) (Nv fu x1 x2 p2 fv_p2 ca_p2 nc_p2 ni_p2 cap_p2 hp_p2) (je mixed (Nv fu x1 x2 p2 fv_p2 ca_p2 nc_p2 ni_p2 cap_p2 hp_p2) (je mixed (Nv fu x1 x2 p2 fv_p2 ca_p2 nc_p2 ni_p2 cap_p2 hp_p2) eY i107 eY) La (je mixed (Nv fu x1 x2 p2 fv_p2 ca_p2 nc_p2 ni_p2 cap_p2 hp_p2) eY i107 eY)) i45 (w45 _ fu x1 x2 p2 fv_p2 ca_p2 ni_p2 cap_p2 (λy0 r h=>EX (λhfv=>absurd nc_p2 (by first|(rw[hfv];decide)|(rw[← hfv];decide))) (EX (λhfv=>absurd nc_p2 (by first|(rw[hfv];decide)|(rw[← hfv];decide))) (jM (jK (a:=y0) (by intro a b h;first|(exact rfl)|(simp only[iY,IJ]at h;first|exact h|(simp_all [Prod.ext_iff]))) h)))) (λa0 a1 r h=>jM (jK (a:=(a0,a1)) (by intro a b h;first|(exact rfl)|(simp only[iY,IJ]at h;first|exact h|(simp_all [Prod.ext_iff]))) h)) (λa0 a1 a2 r h=>uz au (jM (jK (a:=(a0,a1,a2)) (by intro a b h;first|(exact rfl)|(simp only[iY,IJ]at h;first|exact h|(simp_all [Prod.ext_iff]))) h)))) h
def dY.m1:LJ 1 6 Unit (Int×Int):=⟨λr s e=>[(0,er e 0),(5,.v (.int .i64 s.1)),(8,er e 8),(9,er e 9),(10,.v (.int .i64 s.2))],λr s h=>[]⟩
open dY in
noncomputable abbrev yE(fu:Nat):Cm prog ((List Int)×(List Int)) Int:=⟨47,fun t=>[.arr t.1.length (lm (ik .i64) t.1),.arr t.2.length (lm (ik .i64) t.2)],fun t=>dY fu t.1 t.2,fun r=> .v (.int .i64 r),by
 rintro⟨x1,x2⟩
 refine pT fu Aw.Jo Tryz.func47 [.tmp 4] [3] [] [] (λcp H=> ?_)
 unfold dY
 have z0:=Da (aJ Aw.Jo.eq_1)
 exact Wk,Zi⟩
noncomputable abbrev ai7(fu:Nat):Cm prog ((List Int)×(List Int)) Int:=⟨109,fun t=>[.arr t.1.length (lm (ik .i64) t.1),.ay [.arr t.2.length (lm (ik .i64) t.2)] 0],fun t=>xu fu t.1 t.2,fun r=> .v (.int .i64 r),by
 rintro⟨x1,x2⟩
 refine pT fu Aw.Ii Tryz.func109 [.tmp 3] [3] [(yE fu).ct] [47] (λcp H=> ?_)
 obtain⟨H1, -⟩:=H
 unfold xu
 have z0:=Da (aJ Aw.Ii.eq_1)
 exact Wk,Zi⟩
def lW:=Da (aJ Aw.yR.eq_1)
theorem i48:aN prog 48 yR=some ⟨az Tryz.f48,[.cell 4 28],[28]⟩:=fA Tryz.func48
def e48:aj->AV:=λr=> .agg [.v (.int .i64 r.fType),.fresh 1 r.fDims.length (lm (ik .i64) r.fDims),.fresh 1 r.fF.length (lm (ik .u32) r.fF),.fresh 1 r.fI.length (lm (ik .i64) r.fI),.fresh 1 r.fB.length (lm (bk) r.fB)]
set_option maxHeartbeats 20000000 in
theorem w48(cp:aC)(fu:Nat)(x1:aV)(x2:List Int)(H44_0: ∀ (a0:List Int) r,jA fu a0=some r→cp 44 [.arr a0.length (lm (ik .i64) a0)]=some (.fresh 1 r.length (lm (ik .i64) r)))(H42_0: ∀ (a0:List Int) r,slices_Clone_int fu a0=some r→cp 42 [.arr a0.length (lm (ik .i64) a0)]=some (.fresh 1 r.length (lm (ik .i64) r)))(H45_0: ∀ (a0:aj) (a1:List Int) (c2:List Int) r,cO fu a0 a1 (fun y0=>xu fu y0 c2)=some r→cp 45 [.agg (bT a0),.arr a1.length (lm (ik .i64) a1),.fn 109 [] [.ay [.arr c2.length (lm (ik .i64) c2)] 0]]=some (.agg [.v (.int .i64 r.fType),.fresh 1 r.fDims.length (lm (ik .i64) r.fDims),.fresh 1 r.fF.length (lm (ik .u32) r.fF),.fresh 1 r.fI.length (lm (ik .i64) r.fI),.fresh 1 r.fB.length (lm (bk) r.fB)])):J (go prog (jb [108]) cp (iE prog (jb [108]) cp fH fu 108 wP ⟨GV,[],[]⟩ fH) 0 [] yR fu (fin prog [.cell 4 28] [28]) (az Tryz.f48) (bW 0 [.ay (dJ x1) 0,.arr x2.length (lm (ik .i64) x2)]) [] []) (gZ fu x1 x2) e48:=by
 unfold gZ e48
 have da:=lW
 refine J.bind λx3 h1=> ?_
 have e_h1:=H44_0 _ _ h1
 try simp only[NN,NT,LN,simprocAttr,DT]at e_h1
 refine J.bind λx4 h2=> ?_
 have e_h2:=H42_0 _ _ h2
 try simp only[NN,NT,LN,simprocAttr,DT]at e_h2
 conv=>arg 1;simp (disch:=first|exact Zd|fail) only[az,Tryz.f48,ZZ,lW,simprocAttr,lY,az,Tryz.f108,lV,RI,ed,bW,RL,e_h1,e_h2]
 unfold gZ.W1
 refine J.loop (λ(s:(List Int)×Int×Int)=>([(0,.own (0,16,0) 0 x4.length x4.length),(2,.v (.int .i64 s.2.1)),(3,.v (.int .i64 s.2.2))],[((0,4,0),.bx true ([.v (.int .i64 0),.v (.slice none 0 0),.v (.slice none 0 0),.v (.slice none 0 0),.v (.slice none 0 0)])),((0,14,0),.sl true true 1 x3.length (lm (ik .i64) x3)),((0,16,0),.sl true true 1 x4.length (lm (ik .i64) s.1)),((0,6,0),.bx true ([.own (0,16,0) 0 x4.length x4.length]))])) (λnext s=>gZ.L1 fu x1 x2 x3 x4 (λx7 x8 x9=>next (x7,x8,x9)) s.1 s.2.1 s.2.2) (s0:=(x4,0,wk .i64 ((x4.length:Int) - 1))) ?_ ?_ ?_
 ·exact Ze
 ·exact Zh
 rintro next k1 hn1 ⟨x7,x8,x9⟩
 let nx1:(List Int)->Int->Int->Option aj:=(λx7 x8 x9=>next (x7,x8,x9))
 show J _ (gZ.L1 fu x1 x2 x3 x4 nx1 x7 x8 x9) _
 unfold gZ.L1
 refine J.eq gG ?_
 conv=>arg 1;simp (disch:=first|exact Zd|fail) only[ZZ,lW,simprocAttr,lY,az,Tryz.f108,lV,RI,ed,bW,RL,e_h1,e_h2]
 refine J.ite (λh3=> ?_) (λh3=> ?_)
 ·have h3':=decide_eq_true h3
  have h3'':decide (x9<=x8)=false:=decide_eq_false ae
  conv=>arg 1;simp (disch:=first|exact Zd|fail) only[ZZ,lW,simprocAttr,lY,az,Tryz.f108,lV,RI,ed,bW,RL,e_h1,e_h2,h3'',h3']
  refine J.eq gq ?_
  refine J.eq gG ?_
  refine J.chk λh4=> ?_
  refine J.at λx12 h5 h6 h7=> ?_
  refine J.chk λh8=> ?_
  refine J.at λx13 h9 h10 h11=> ?_
  refine J.chk λh12=> ?_
  refine J.chk λh13=> ?_
  conv=>arg 1;simp (disch:=first|exact Zd|fail) only[ZZ,lW,simprocAttr,lY,az,Tryz.f108,lV,RI,ed,bW,RL,e_h1,e_h2,h3'',h3',fD h7,fD h11]
  refine J.eq gq ?_
  conv=>arg 1;simp (disch:=first|exact Zd|fail) only[ZZ,lW,simprocAttr,lY,az,Tryz.f108,lV,RI,ed,bW,RL,e_h1,e_h2,h3'',h3',fD h7,fD h11]
  refine J.next (s:=((x7.set x8.toNat x12).set x9.toNat x13,wk .i64 (x8+1),wk .i64 (x9 - 1))) hn1 ?_ ?_
  ·exact Ze
  ·exact Zh
 ·have h3':=decide_eq_false h3
  have h3'':decide (x9<=x8)=true:=decide_eq_true ae
  conv=>arg 1;simp (disch:=first|exact Zd|fail) only[ZZ,lW,simprocAttr,lY,az,Tryz.f108,lV,RI,bW,RL,e_h1,e_h2,h3'',h3']
  refine J.chk λh14=> ?_
  conv=>arg 1;simp (disch:=first|exact Zd|fail) only[ZZ,lW,simprocAttr,lY,az,Tryz.f108,lV,RI,ed,bW,RL,e_h1,e_h2,h3'',h3',h14]
  refine J.Ls (λ(t:(List Int)×Bool)=>([(0,.ay [.v (.int .i64 x1.fop),.v (.int .i64 x1.fs.fAxis),.arr x1.fs.fAxes.length (lm (ik .i64) x1.fs.fAxes),.v (.bool x1.fs.fHasAxes),.v (.bool x1.fs.fKeep),.v (.bool x1.fs.fNoop),.v (.bool x1.fs.fLast),.v (.bool x1.fs.fZero),.arr x1.fs.fPerm.length (lm (ik .i64) x1.fs.fPerm),.v (.bool t.2),.v (.int .u32 x1.fs.fAlpha),.v (.int .u32 x1.fs.fBeta),.v (.int .u32 x1.fs.fEpsilon),.v (.bool x1.fs.fLow),.v (.bool x1.fs.fHigh),.v (.bool x1.fs.fFmod),.v (.int .i64 x1.fs.fTo),.v (.int .i64 x1.fs.fMode),.v (.bool x1.fs.fTransA),.v (.bool x1.fs.fTransB),.v (.int .i64 x1.fs.fGroup),.arr x1.fs.fKernel.length (lm (ik .i64) x1.fs.fKernel),.arr x1.fs.fStrides.length (lm (ik .i64) x1.fs.fStrides),.arr x1.fs.fPads.length (lm (ik .i64) x1.fs.fPads),.arr x1.fs.fDilations.length (lm (ik .i64) x1.fs.fDilations),.v (.int .i64 x1.fs.fAuto),.v (.bool x1.fs.fCeil),.v (.bool x1.fs.fCount),.v (.int .i64 x1.fs.fBlock),.v (.int .i64 x1.fs.fStart),.v (.int .i64 x1.fs.fEnd),.v (.bool x1.fs.fHasEnd),.v (.int .i64 x1.fs.fValue.fType),.arr x1.fs.fValue.fDims.length (lm (ik .i64) x1.fs.fValue.fDims),.arr x1.fs.fValue.fF.length (lm (ik .u32) x1.fs.fValue.fF),.arr x1.fs.fValue.fI.length (lm (ik .i64) x1.fs.fValue.fI),.arr x1.fs.fValue.fB.length (lm (bk) x1.fs.fValue.fB),.arr x1.fin.length (fm bT x1.fin),.v (.int .i64 x1.fx.fType),.arr x1.fx.fDims.length (lm (ik .i64) x1.fx.fDims),.arr x1.fx.fF.length (lm (ik .u32) x1.fx.fF),.arr x1.fx.fI.length (lm (ik .i64) x1.fx.fI),.arr x1.fx.fB.length (lm (bk) x1.fx.fB),.v (.int .i64 x1.faxis)] 0),(1,.arr x2.length (lm (ik .i64) x2)),(4,.ptr (0,4,0) 0 0),(6,.ptr (0,6,0) 0 0)],[((0,4,0),.bx true ([.v (.int .i64 0),.v (.slice none 0 0),.v (.slice none 0 0),.v (.slice none 0 0),.v (.slice none 0 0)])),((0,14,0),.sl true true 1 x3.length (lm (ik .i64) x3)),((0,16,0),.sl true true 1 t.1.length (lm (ik .i64) t.1)),((0,6,0),.bx true ([.own (0,16,0) 0 t.1.length t.1.length]))])) (λt=>gZ.k1 fu x1 x2 t.1 t.2) ?_ (λhj1=> ?_)
  ·rintro⟨x14,x15⟩
   show J _ (gZ.k1 fu x1 x2 x14 x15) _
   unfold gZ.k1
   refine J.bind λx16 h15=> ?_
   have e_h15:=H45_0 _ _ _ _ h15
   try simp only[NN,NT,LN,simprocAttr,DT]at e_h15
   refine J.some ?_
   simp (maxSteps:=20000000) (disch:=first|exact Zd|fail) only[ZZ,lW,simprocAttr,lY,az,Tryz.f108,lV,RI,ed,bW,RL,e_h1,e_h2,h3'',h3',h14,e_h15,FN]
  ·refine J.hd dB ?_
   conv=>arg 1;simp (disch:=first|exact Zd|fail) only[ZZ,lW,simprocAttr,lY,az,Tryz.f108,lV,RI,ed,bW,RL,e_h1,e_h2,h3'',h3',h14]
   unfold gZ.W2
   refine J.loop (λ(s:(List Int)×Bool×Int)=>([(0,.ay [.v (.int .i64 x1.fop),.v (.int .i64 x1.fs.fAxis),.arr x1.fs.fAxes.length (lm (ik .i64) x1.fs.fAxes),.v (.bool x1.fs.fHasAxes),.v (.bool x1.fs.fKeep),.v (.bool x1.fs.fNoop),.v (.bool x1.fs.fLast),.v (.bool x1.fs.fZero),.arr x1.fs.fPerm.length (lm (ik .i64) x1.fs.fPerm),.v (.bool s.2.1),.v (.int .u32 x1.fs.fAlpha),.v (.int .u32 x1.fs.fBeta),.v (.int .u32 x1.fs.fEpsilon),.v (.bool x1.fs.fLow),.v (.bool x1.fs.fHigh),.v (.bool x1.fs.fFmod),.v (.int .i64 x1.fs.fTo),.v (.int .i64 x1.fs.fMode),.v (.bool x1.fs.fTransA),.v (.bool x1.fs.fTransB),.v (.int .i64 x1.fs.fGroup),.arr x1.fs.fKernel.length (lm (ik .i64) x1.fs.fKernel),.arr x1.fs.fStrides.length (lm (ik .i64) x1.fs.fStrides),.arr x1.fs.fPads.length (lm (ik .i64) x1.fs.fPads),.arr x1.fs.fDilations.length (lm (ik .i64) x1.fs.fDilations),.v (.int .i64 x1.fs.fAuto),.v (.bool x1.fs.fCeil),.v (.bool x1.fs.fCount),.v (.int .i64 x1.fs.fBlock),.v (.int .i64 x1.fs.fStart),.v (.int .i64 x1.fs.fEnd),.v (.bool x1.fs.fHasEnd),.v (.int .i64 x1.fs.fValue.fType),.arr x1.fs.fValue.fDims.length (lm (ik .i64) x1.fs.fValue.fDims),.arr x1.fs.fValue.fF.length (lm (ik .u32) x1.fs.fValue.fF),.arr x1.fs.fValue.fI.length (lm (ik .i64) x1.fs.fValue.fI),.arr x1.fs.fValue.fB.length (lm (bk) x1.fs.fValue.fB),.arr x1.fin.length (fm bT x1.fin),.v (.int .i64 x1.fx.fType),.arr x1.fx.fDims.length (lm (ik .i64) x1.fx.fDims),.arr x1.fx.fF.length (lm (ik .u32) x1.fx.fF),.arr x1.fx.fI.length (lm (ik .i64) x1.fx.fI),.arr x1.fx.fB.length (lm (bk) x1.fx.fB),.v (.int .i64 x1.faxis)] 0),(1,.arr x2.length (lm (ik .i64) x2)),(4,.ptr (0,4,0) 0 0),(5,.own (0,14,0) 0 x3.length x3.length),(6,.ptr (0,6,0) 0 0),(23,.arr x1.fs.fPerm.length (lm (ik .i64) x1.fs.fPerm)),(24,.v (.int .i64 (x1.fs.fPerm.length:Int))),(25,.v (.int .i64 s.2.2))],[((0,4,0),.bx true ([.v (.int .i64 0),.v (.slice none 0 0),.v (.slice none 0 0),.v (.slice none 0 0),.v (.slice none 0 0)])),((0,14,0),.sl true true 1 x3.length (lm (ik .i64) x3)),((0,16,0),.sl true true 1 s.1.length (lm (ik .i64) s.1)),((0,6,0),.bx true ([.own (0,16,0) 0 s.1.length s.1.length]))])) (λnext s=>gZ.L2 fu x1 x2 x3 (λx19 x20 x21=>next (x19,x20,x21)) s.1 s.2.1 s.2.2) (s0:=(x7,x1.fs.fHasPerm,0)) ?_ ?_ ?_
   ·exact Ze
   ·exact Zh
   rintro next k2 hn2 ⟨x19,x20,x21⟩
   let nx2:(List Int)->Bool->Int->Option aj:=(λx19 x20 x21=>next (x19,x20,x21))
   show J _ (gZ.L2 fu x1 x2 x3 nx2 x19 x20 x21) _
   unfold gZ.L2
   conv=>arg 1;simp (disch:=first|exact Zd|fail) only[ZZ,lW,simprocAttr,lY,az,Tryz.f108,lV,RI,ed,bW,RL,e_h1,e_h2,h3'',h3',h14]
   refine J.eq gG ?_
   conv=>arg 1;simp (disch:=first|exact Zd|fail) only[ZZ,lW,simprocAttr,lY,az,Tryz.f108,lV,RI,ed,bW,RL,e_h1,e_h2,h3'',h3',h14]
   refine J.ite (λh16=> ?_) (λh16=> ?_)
   ·have h16':=decide_eq_true h16
    have h16'':decide ((x1.fs.fPerm.length:Int)<=x21)=false:=decide_eq_false ae
    conv=>arg 1;simp (disch:=first|exact Zd|fail) only[ZZ,lW,simprocAttr,lY,az,Tryz.f108,lV,RI,ed,bW,RL,e_h1,e_h2,h3'',h3',h14,h16'',h16']
    refine J.eq gq ?_
    refine J.eq gG ?_
    refine J.at λx24 h17 h18 h19=> ?_
    conv=>arg 1;simp (disch:=first|exact Zd|fail) only[ZZ,lW,simprocAttr,lY,az,Tryz.f108,lV,RI,ed,bW,RL,e_h1,e_h2,h3'',h3',h14,h16'',h16',fD h19]
    refine J.ite (λh20=> ?_) (λh20=> ?_)
    ·have h20':x20=true:=h20
     refine J.at λx25 h21 h22 h23=> ?_
     refine J.chk λh24=> ?_
     conv=>arg 1;simp (disch:=first|exact Zd|fail) only[ZZ,lW,simprocAttr,lY,az,Tryz.f108,lV,RI,ed,bW,RL,e_h1,e_h2,h3'',h3',h14,h16'',h16',fD h19,h20',fD h23]
     refine J.eq gq ?_
     conv=>arg 1;simp (disch:=first|exact Zd|fail) only[ZZ,lW,simprocAttr,lY,az,Tryz.f108,lV,RI,ed,bW,RL,e_h1,e_h2,h3'',h3',h14,h16'',h16',fD h19,h20',fD h23]
     refine J.next (s:=(x19.set x21.toNat x25,true,wk .i64 (x21+1))) hn2 ?_ ?_
     ·exact Ze
     ·exact Zh
    ·have h20':x20=false:=Bool.eq_false_iff.2 h20
     conv=>arg 1;simp (disch:=first|exact Zd|fail) only[ZZ,lW,simprocAttr,lY,az,Tryz.f108,lV,RI,ed,bW,RL,e_h1,e_h2,h3'',h3',h14,h16'',h16',fD h19,h20']
     refine J.eq gq ?_
     conv=>arg 1;simp (disch:=first|exact Zd|fail) only[ZZ,lW,simprocAttr,lY,az,Tryz.f108,lV,RI,ed,bW,RL,e_h1,e_h2,h3'',h3',h14,h16'',h16',fD h19,h20']
     refine J.next (s:=(x19,false,wk .i64 (x21+1))) hn2 ?_ ?_
     ·exact Ze
     ·exact Zh
   ·have h16':=decide_eq_false h16
    have h16'':decide ((x1.fs.fPerm.length:Int)<=x21)=true:=decide_eq_true ae
    conv=>arg 1;simp (disch:=first|exact Zd|fail) only[ZZ,lW,simprocAttr,lY,az,Tryz.f108,lV,RI,ed,bW,RL,e_h1,e_h2,h3'',h3',h14,h16'',h16']
    refine J.S9 (t:=(x19,x20)) hj1 ?_ ?_
    ·exact Ze
    ·exact Zh
noncomputable def t48(fu:Nat):aC:=iI 44 (iU (λ(t:List Int)=>([.arr t.length (lm (ik .i64) t)]:List AV)) (λt=>jA fu t) (λr=> .fresh 1 r.length (lm (ik .i64) r))) (iI 42 (iU (λ(t:List Int)=>([.arr t.length (lm (ik .i64) t)]:List AV)) (λt=>slices_Clone_int fu t) e42) (iI 45 (iU (λ(t:aj×(List Int)×(List Int))=>([.agg (bT t.1),.arr t.2.1.length (lm (ik .i64) t.2.1),.fn 109 [] [.ay [.arr t.2.2.length (lm (ik .i64) t.2.2)] 0]]:List AV)) (λt=>cO fu t.1 t.2.1 (λy0=>xu fu y0 t.2.2)) e45) (nX)))
theorem adw(fu:Nat):aK prog (t48 fu):=jO (jO (jO (oU) (jL (λt b h=>vM fu t.1 t.2.1 (λy0=>xu fu y0 t.2.2) 109 [.ay [.arr t.2.2.length (lm (ik .i64) t.2.2)] 0] rfl rfl (bK.ay bK.nil) (λy0 r h=>(ai7 fu).ok (y0,t.2.2) r h) b h))) (jL (λt b h=>abl fu t b h))) (jL (λt b h=>(pK fu).ok t b h))
theorem avw(fu:Nat)(x1:aV)(x2:List Int)(r)(h:gZ fu x1 x2=some r):bH prog 48 [.ay (dJ x1) 0,.arr x2.length (lm (ik .i64) x2)] (e48 r):=
  qg mixed (cp:=t48 fu) (adw fu) (je mixed (adw fu) eY Lc eY) i48 (w48 _ fu x1 x2 (λa0 r h=>jM (jK (a:=a0) (by intro a b h;first|(exact rfl)|(simp only[iY,IJ]at h;first|exact h|(simp_all [Prod.ext_iff]))) h)) (λa0 r h=>uz au (jM (jK (a:=a0) (by intro a b h;first|(exact rfl)|(simp only[iY,IJ]at h;first|exact h|(simp_all [Prod.ext_iff]))) h))) (λa0 a1 c2 r h=>uz au (uz au (jM (jK (a:=(a0,a1,c2)) (by intro a b h;first|(exact rfl)|(simp only[iY,IJ]at h;first|exact h|(simp_all [Prod.ext_iff]))) h))))) h
def Q3:TD:=zz [[4],[],[5],[],[7],[],[8,9,10,11,12,13,14],[],[15],[],[17,18,19,20,21,22,23,24,25],[],[0,1,26,1000004]]
def alz:=Da (aJ Q3.eq_1)
noncomputable def PG:Code:=az Tryz.f282
theorem apy{C:bG}{cp:aC}{ci:bz}{lvl:Nat}{prot:List Id}{D:List (Nat×List Nat)}{n:Nat}{K:KK}{e:Env}{h:Heap}{fs:List Fr}:go prog C cp ci lvl prot D n K PG e h fs=go prog C cp ci lvl prot D n K (az Tryz.f282) e h fs:=rfl
theorem aq9:aN prog 282 Q3=some ⟨PG,[.tmp 4],[24]⟩:=fA Tryz.func282
open Aw (yP yQ yR yS yT wM wO wP yG yH yI yJ yK yL yM yN yO)
def YT:TD:=zz [[2],[9,10,11],[],[],[],[25,26,27],[],[],[13,14],[],[5,15,16,17,18],[],[19],[],[21],[],[22],[],[3,23,24,3000000006],[],[0],[],[],[],[29,30],[],[8,31,32,33],[],[34],[],[6,35]]
def dI.m1:LJ 1 22 Unit ((List Int)×Int):=⟨λr s e=>[(6,.own (1,22,0) 0 s.1.length s.1.length),(25,er e 25),(26,er e 26),(27,.v (.int .i64 s.2))],λr s h=>[((1,22,0),.sl true true 1 s.1.length (lm (ik .u32) s.1))]⟩
def dI.m2:LJ 2 22 Unit ((List Int)×Int):=⟨λr s e=>[(6,.own (1,4,77) 0 s.1.length s.1.length),(25,er e 25),(26,er e 26),(27,.v (.int .i64 s.2))],λr s h=>[((1,4,77),.sl true true 1 s.1.length (lm (ik .u32) s.1))]⟩
def dI.j2:LJ 2 6 Unit Unit:=⟨λr t e=>[(0,er e 0),(1,er e 1)],λr t h=>[]⟩
def dI.m3:LJ 3 6 Unit (Int×Int):=⟨λr s e=>[(0,er e 0),(3,.v (.int .i64 s.1)),(9,er e 9),(10,er e 10),(11,.v (.int .i64 s.2))],λr s h=>[]⟩
def dI.j1:LJ 1 18 Unit Int:=⟨λr t e=>[(0,er e 0),(3,.v (.int .i64 t))],λr t h=>[]⟩
open dI in
noncomputable abbrev ajQ(fu:Nat):Cm prog (List (List Int)) (List Int):=⟨249,fun t=>[.arr t.length (lm (eP (ik .u32)) t)],dI fu,fun r=> .arr r.length (lm (ik .u32) r),by
 rintro x1
 refine zG fu (jb [282]) (λcp=>(iE prog (jb [282]) cp fH fu 282 Q3 ⟨PG,[.tmp 4],[24]⟩ fH)) (λcp ok=>(je mixed ok eY aq9 eY)) YT Tryz.func249 [.tmp 2] [24] [] [] (λcp H=> ?_)
 unfold dI
 have z0:=Da (aJ YT.eq_1)
 have z1:=SE
 have z2:=alz
 have z3:=Tryz.f282.eq_1
 have z4:= @apy
 have z5:=RI
 have z6:=ed
 have z7:= @az.eq_1
 exact Wk,Zi⟩
def YJ:TD:=zz [[2],[],[0,3,4]]
noncomputable abbrev ajJ(fu:Nat):Cm prog (List (List Int)) (List Int):=⟨209,fun t=>[.arr t.length (lm (eP (ik .u32)) t)],EJ fu,fun r=> .arr r.length (lm (ik .u32) r),by
 rintro x1
 refine pT fu YJ Tryz.func209 [.tmp 2] [24] [(ajQ fu).ct] [249] (λcp H=> ?_)
 obtain⟨H1, -⟩:=H
 unfold EJ
 have z0:=Da (aJ YJ.eq_1)
 exact Wk,Zi⟩
def Q4:TD:=zz [[4],[],[5],[],[7],[],[8,9,10,11,12,13,14],[],[15],[],[17,18,19,20,21,22,23,24,25],[],[0,1,26,1000004]]
def alA:=Da (aJ Q4.eq_1)
noncomputable def PH:Code:=az Tryz.f283
theorem apz{C:bG}{cp:aC}{ci:bz}{lvl:Nat}{prot:List Id}{D:List (Nat×List Nat)}{n:Nat}{K:KK}{e:Env}{h:Heap}{fs:List Fr}:go prog C cp ci lvl prot D n K PH e h fs=go prog C cp ci lvl prot D n K (az Tryz.f283) e h fs:=rfl
theorem ara:aN prog 283 Q4=some ⟨PH,[.tmp 4],[25]⟩:=fA Tryz.func283
def YU:TD:=zz [[2],[9,10,11],[],[],[],[25,26,27],[],[],[13,14],[],[5,15,16,17,18],[],[19],[],[21],[],[22],[],[3,23,24,3000000006],[],[0],[],[],[],[29,30],[],[8,31,32,33],[],[34],[],[6,35]]
def dH.m1:LJ 1 22 Unit ((List Int)×Int):=⟨λr s e=>[(6,.own (1,22,0) 0 s.1.length s.1.length),(25,er e 25),(26,er e 26),(27,.v (.int .i64 s.2))],λr s h=>[((1,22,0),.sl true true 1 s.1.length (lm (ik .i64) s.1))]⟩
def dH.m2:LJ 2 22 Unit ((List Int)×Int):=⟨λr s e=>[(6,.own (1,4,77) 0 s.1.length s.1.length),(25,er e 25),(26,er e 26),(27,.v (.int .i64 s.2))],λr s h=>[((1,4,77),.sl true true 1 s.1.length (lm (ik .i64) s.1))]⟩
def dH.j2:LJ 2 6 Unit Unit:=⟨λr t e=>[(0,er e 0),(1,er e 1)],λr t h=>[]⟩
def dH.m3:LJ 3 6 Unit (Int×Int):=⟨λr s e=>[(0,er e 0),(3,.v (.int .i64 s.1)),(9,er e 9),(10,er e 10),(11,.v (.int .i64 s.2))],λr s h=>[]⟩
def dH.j1:LJ 1 18 Unit Int:=⟨λr t e=>[(0,er e 0),(3,.v (.int .i64 t))],λr t h=>[]⟩
open dH in
noncomputable abbrev ajR(fu:Nat):Cm prog (List (List Int)) (List Int):=⟨250,fun t=>[.arr t.length (lm (eP (ik .i64)) t)],dH fu,fun r=> .arr r.length (lm (ik .i64) r),by
 rintro x1
 refine zG fu (jb [283]) (λcp=>(iE prog (jb [283]) cp fH fu 283 Q4 ⟨PH,[.tmp 4],[25]⟩ fH)) (λcp ok=>(je mixed ok eY ara eY)) YU Tryz.func250 [.tmp 2] [25] [] [] (λcp H=> ?_)
 unfold dH
 have z0:=Da (aJ YU.eq_1)
 have z1:=SE
 have z2:=alA
 have z3:=Tryz.f283.eq_1
 have z4:= @apz
 have z5:=RI
 have z6:=ed
 have z7:= @az.eq_1
 exact Wk,Zi⟩
def YK:TD:=zz [[2],[],[0,3,4]]
noncomputable abbrev ajK(fu:Nat):Cm prog (List (List Int)) (List Int):=⟨210,fun t=>[.arr t.length (lm (eP (ik .i64)) t)],EI fu,fun r=> .arr r.length (lm (ik .i64) r),by
 rintro x1
 refine pT fu YK Tryz.func210 [.tmp 2] [25] [(ajR fu).ct] [250] (λcp H=> ?_)
 obtain⟨H1, -⟩:=H
 unfold EI
 have z0:=Da (aJ YK.eq_1)
 exact Wk,Zi⟩
def Q5:TD:=zz [[4],[],[5],[],[7],[],[8,9,10,11,12,13,14],[],[15],[],[17,18,19,20,21,22,23,24,25],[],[0,1,26,1000004]]
def alB:=Da (aJ Q5.eq_1)
noncomputable def PI:Code:=az Tryz.f284
theorem apA{C:bG}{cp:aC}{ci:bz}{lvl:Nat}{prot:List Id}{D:List (Nat×List Nat)}{n:Nat}{K:KK}{e:Env}{h:Heap}{fs:List Fr}:go prog C cp ci lvl prot D n K PI e h fs=go prog C cp ci lvl prot D n K (az Tryz.f284) e h fs:=rfl
theorem arb:aN prog 284 Q5=some ⟨PI,[.tmp 4],[26]⟩:=fA Tryz.func284
def YV:TD:=zz [[2],[9,10,11],[],[],[],[25,26,27],[],[],[13,14],[],[5,15,16,17,18],[],[19],[],[21],[],[22],[],[3,23,24,3000000006],[],[0],[],[],[],[29,30],[],[8,31,32,33],[],[34],[],[6,35]]
def dF.m1:LJ 1 22 Unit ((List Bool)×Int):=⟨λr s e=>[(6,.own (1,22,0) 0 s.1.length s.1.length),(25,er e 25),(26,er e 26),(27,.v (.int .i64 s.2))],λr s h=>[((1,22,0),.sl true true 1 s.1.length (lm (bk) s.1))]⟩
def dF.m2:LJ 2 22 Unit ((List Bool)×Int):=⟨λr s e=>[(6,.own (1,4,77) 0 s.1.length s.1.length),(25,er e 25),(26,er e 26),(27,.v (.int .i64 s.2))],λr s h=>[((1,4,77),.sl true true 1 s.1.length (lm (bk) s.1))]⟩
def dF.j2:LJ 2 6 Unit Unit:=⟨λr t e=>[(0,er e 0),(1,er e 1)],λr t h=>[]⟩
def dF.m3:LJ 3 6 Unit (Int×Int):=⟨λr s e=>[(0,er e 0),(3,.v (.int .i64 s.1)),(9,er e 9),(10,er e 10),(11,.v (.int .i64 s.2))],λr s h=>[]⟩
def dF.j1:LJ 1 18 Unit Int:=⟨λr t e=>[(0,er e 0),(3,.v (.int .i64 t))],λr t h=>[]⟩
open dF in
noncomputable abbrev ajS(fu:Nat):Cm prog (List (List Bool)) (List Bool):=⟨251,fun t=>[.arr t.length (lm (eP (bk)) t)],dF fu,fun r=> .arr r.length (lm (bk) r),by
 rintro x1
 refine zG fu (jb [284]) (λcp=>(iE prog (jb [284]) cp fH fu 284 Q5 ⟨PI,[.tmp 4],[26]⟩ fH)) (λcp ok=>(je mixed ok eY arb eY)) YV Tryz.func251 [.tmp 2] [26] [] [] (λcp H=> ?_)
 unfold dF
 have z0:=Da (aJ YV.eq_1)
 have z1:=SE
 have z2:=alB
 have z3:=Tryz.f284.eq_1
 have z4:= @apA
 have z5:=RI
 have z6:=ed
 have z7:= @az.eq_1
 exact Wk,Zi⟩
def YL:TD:=zz [[2],[],[0,3,4]]
noncomputable abbrev ajL(fu:Nat):Cm prog (List (List Bool)) (List Bool):=⟨211,fun t=>[.arr t.length (lm (eP (bk)) t)],EH fu,fun r=> .arr r.length (lm (bk) r),by
 rintro x1
 refine pT fu YL Tryz.func211 [.tmp 2] [26] [(ajS fu).ct] [251] (λcp H=> ?_)
 obtain⟨H1, -⟩:=H
 unfold EH
 have z0:=Da (aJ YL.eq_1)
 exact Wk,Zi⟩
def Yi:TD:=[(0,[]),(0,[11,12,13]),(0,[6,7,8,9,10,6000000003,7000000003,8000000003]),(0,[]),(0,[0]),(0,[]),(0,[]),(0,[]),(0,[15,16]),(0,[]),(19,[5,17,18,19,20,21,22,23,24,25,26,27,28,29,30,31,32,33,34,35,36,37]),(0,[]),(0,[38]),(0,[]),(0,[39,40,41,42,43,44,45,46,47,48,49,50,51]),(0,[]),(0,[3,52])]
def jE.m1:LJ 1 6 Unit ((List Int)×(List Int)×(List Bool)×Int):=⟨λr s e=>[(2,er e 2),(3,er e 3),(11,er e 11),(12,er e 12),(13,.v (.int .i64 s.2.2.2))],λr s h=>[((0,2,0),hr h (0,2,0)),((0,3,0),bs (bs (bs (hr h (0,3,0)) 2 (.arr s.1.length (lm (ik .u32) s.1))) 3 (.arr s.2.1.length (lm (ik .i64) s.2.1))) 4 (.arr s.2.2.1.length (lm (bk) s.2.2.1)))]⟩
def jE.j1:LJ 1 14 Unit ((List Int)×(List Int)×(List Bool)):=⟨λr t e=>[(2,er e 2),(3,er e 3)],λr t h=>[((0,2,0),hr h (0,2,0)),((0,3,0),bs (bs (bs (hr h (0,3,0)) 2 (.arr t.1.length (lm (ik .u32) t.1))) 3 (.arr t.2.1.length (lm (ik .i64) t.2.1))) 4 (.arr t.2.2.length (lm (bk) t.2.2)))]⟩
open jE in
noncomputable abbrev AY(fu:Nat):Cm prog (List aj) aj:=⟨110,fun t=>[.arr t.length (fm bT t)],jE fu,fun r=> .agg [.v (.int .i64 r.fType),.fresh 1 r.fDims.length (lm (ik .i64) r.fDims),.arr r.fF.length (lm (ik .u32) r.fF),.arr r.fI.length (lm (ik .i64) r.fI),.arr r.fB.length (lm (bk) r.fB)],by
 rintro x1
 refine pG fu ES (λcp=>fH) (λcp ok=>eY) Yi Tryz.func110 [.cell 2 28] [28] [(ajJ fu).ct,(ajK fu).ct,(ajL fu).ct] [209,210,211] (λcp H=> ?_)
 obtain⟨H1,H2,H3, -⟩:=H
 unfold jE
 have z0:=Da (aJ Yi.eq_1)
 have z1:= @yg
 have z2:= @yw
 exact Wk,Zi⟩
def Yj:TD:=[(0,[5]),(0,[]),(0,[8,9,10]),(0,[]),(29,[11,12,13,14,15,16,17,18,19,20,21,22,23,24,25,26,27,28,29,30,31,32,33,34,35,36,37,38]),(0,[]),(0,[40,41]),(0,[]),(0,[42,43,44,45,46,47,48,49,50]),(0,[]),(22,[0,1,2,3,6,7,51,52,53,54,55,56,57,58,59,60,61,62,63,64,65,66,67,68,69,70,71])]
def jW.m1:LJ 1 4 Unit Int:=⟨λr s e=>[(0,er e 0),(1,er e 1),(2,er e 2),(3,er e 3),(6,.v (.int .i64 s))],λr s h=>[]⟩
def jW.j1:LJ 1 8 Unit Int:=⟨λr t e=>[(0,er e 0),(1,er e 1),(2,er e 2),(3,er e 3),(6,.v (.int .i64 t))],λr t h=>[]⟩
open jW in
noncomputable abbrev ai8(fu:Nat):Cm prog ((List Int)×(List Int)×aV×(List Int)) Int:=⟨111,fun t=>[.arr t.1.length (lm (ik .i64) t.1),.ay [.arr t.2.1.length (lm (ik .i64) t.2.1)] 0,.ay [.ay (dJ t.2.2.1) 0] 0,.ay [.arr t.2.2.2.length (lm (ik .i64) t.2.2.2)] 0],fun t=>jW fu t.1 t.2.1 t.2.2.1 t.2.2.2,fun r=> .v (.int .i64 r),by
 rintro⟨x1,x2,x3,x4⟩
 refine pT fu Yj Tryz.func111 [.tmp 5] [3] [(pK fu).ct,(yE fu).ct] [44,47] (λcp H=> ?_)
 obtain⟨H1,H2, -⟩:=H
 unfold jW
 have z0:=Da (aJ Yj.eq_1)
 exact Wk,Zi⟩
def Zj:TD:=[(0,[0]),(0,[7,8,16,17,18]),(0,[4001000005,4001000006]),(0,[]),(0,[]),(0,[]),(0,[13,14,15]),(0,[]),(0,[]),(0,[]),(0,[20,21]),(0,[]),(3533694129556768659166605231997298347975395219554738336781267027512689904,[22,23,24,25,26,27,28,29]),(0,[]),(0,[12,30,31,32,33,34,35]),(0,[]),(15,[10,11,36,37,38,39,40,41,42,43,44,45,46,47,48]),(0,[]),(0,[49]),(0,[]),(0,[1,2,5,6,50,51,52,53,54,55,56,57])]
noncomputable abbrev XO(fu:Nat):Cm prog (aj×(List Int)×(List Int)×aV×(List Int)) aj:=⟨45,λt=>[.agg (bT t.1),.arr t.2.1.length (lm (ik .i64) t.2.1),.fn 111 [] [.ay [.arr t.2.2.1.length (lm (ik .i64) t.2.2.1)] 0,.ay [.ay (dJ t.2.2.2.1) 0] 0,.ay [.arr t.2.2.2.2.length (lm (ik .i64) t.2.2.2.2)] 0]],λt=>cO fu t.1 t.2.1 (λy0=>jW fu y0 t.2.2.1 t.2.2.2.1 t.2.2.2.2),λr=> .agg [.v (.int .i64 r.fType),.fresh 1 r.fDims.length (lm (ik .i64) r.fDims),.fresh 1 r.fF.length (lm (ik .u32) r.fF),.fresh 1 r.fI.length (lm (ik .i64) r.fI),.fresh 1 r.fB.length (lm (bk) r.fB)],λt b h=>vM fu t.1 t.2.1 (λy0=>jW fu y0 t.2.2.1 t.2.2.2.1 t.2.2.2.2) 111 [.ay [.arr t.2.2.1.length (lm (ik .i64) t.2.2.1)] 0,.ay [.ay (dJ t.2.2.2.1) 0] 0,.ay [.arr t.2.2.2.2.length (lm (ik .i64) t.2.2.2.2)] 0] rfl rfl (bK.ay (bK.ay (bK.ay bK.nil))) (λy0 r h=>(ai8 fu).ok (y0,t.2.2.1,t.2.2.2.1,t.2.2.2.2) r h) b h,Zi⟩
def kV.m1:LJ 1 8 Unit ((List Int)×(List Int)×Int×Int×Int):=⟨λr s e=>[(1,er e 1),(2,er e 2),(4,er e 4),(5,er e 5),(6,er e 6),(7,.v (.int .i64 s.2.2.1)),(8,.v (.int .i64 s.2.2.2.1)),(16,er e 16),(17,er e 17),(18,.v (.int .i64 s.2.2.2.2))],λr s h=>[((0,2,0),hr h (0,2,0)),((0,4,0),hr h (0,4,0)),((0,5,0),bs (hr h (0,5,0)) 0 (.own (0,5,78) 0 s.1.length s.1.length)),((0,6,0),bs (hr h (0,6,0)) 0 (.own (0,6,78) 0 s.2.1.length s.2.1.length)),((0,5,78),.sl true true 1 s.1.length (lm (ik .i64) s.1)),((0,6,78),.sl true true 1 s.2.1.length (lm (ik .i64) s.2.1))]⟩
def kV.j1:LJ 1 20 Unit ((List Int)×(List Int)):=⟨λr t e=>[(1,er e 1),(2,er e 2),(4,er e 4),(5,er e 5),(6,er e 6)],λr t h=>[((0,2,0),hr h (0,2,0)),((0,4,0),hr h (0,4,0)),((0,5,0),bs (hr h (0,5,0)) 0 (.own (0,5,78) 0 t.1.length t.1.length)),((0,6,0),bs (hr h (0,6,0)) 0 (.own (0,6,78) 0 t.2.length t.2.length)),((0,5,78),.sl true true 1 t.1.length (lm (ik .i64) t.1)),((0,6,78),.sl true true 1 t.2.length (lm (ik .i64) t.2))]⟩
open kV in
noncomputable abbrev XX(fu:Nat):Cm prog (aV×(List Int)) aj:=⟨49,fun t=>[.ay (dJ t.1) 0,.arr t.2.length (lm (ik .i64) t.2)],fun t=>kV fu t.1 t.2,fun r=> .agg [.v (.int .i64 r.fType),.fresh 1 r.fDims.length (lm (ik .i64) r.fDims),.fresh 1 r.fF.length (lm (ik .u32) r.fF),.fresh 1 r.fI.length (lm (ik .i64) r.fI),.fresh 1 r.fB.length (lm (bk) r.fB)],by
 rintro⟨x1,x2⟩
 refine pT fu Zj Tryz.func49 [.cell 4 28] [28] [(pJ fu).ct,(AY fu).ct,(XO fu).ct] [35,110,45] (λcp H=> ?_)
 obtain⟨H1,H2,H3, -⟩:=H
 have F1: ∀ {a0:List Int} {r},eF fu a0=some r->cp 35 [.arr a0.length (lm (ik .i64) a0)]=some (.tuple [.v (.int .i64 r.1),.v (.int .i64 r.2)]):=λ {a0} {r} h=>(pJ fu).at H1 a0 r h
 have F2: ∀ {a0:List aj} {r},jE fu a0=some r->cp 110 [.arr a0.length (fm bT a0)]=some (.agg [.v (.int .i64 r.fType),.fresh 1 r.fDims.length (lm (ik .i64) r.fDims),.arr r.fF.length (lm (ik .u32) r.fF),.arr r.fI.length (lm (ik .i64) r.fI),.arr r.fB.length (lm (bk) r.fB)]):=λ {a0} {r} h=>(AY fu).at H2 a0 r h
 have F3: ∀ {a0:aj} {a1:List Int} {c2:List Int} {c3:aV} {c4:List Int} {r},cO fu a0 a1 (λy0=>jW fu y0 c2 c3 c4)=some r->cp 45 [.agg (bT a0),.arr a1.length (lm (ik .i64) a1),.fn 111 [] [.ay [.arr c2.length (lm (ik .i64) c2)] 0,.ay [.ay (dJ c3) 0] 0,.ay [.arr c4.length (lm (ik .i64) c4)] 0]]=some (.agg [.v (.int .i64 r.fType),.fresh 1 r.fDims.length (lm (ik .i64) r.fDims),.fresh 1 r.fF.length (lm (ik .u32) r.fF),.fresh 1 r.fI.length (lm (ik .i64) r.fI),.fresh 1 r.fB.length (lm (bk) r.fB)]):=λ {a0} {a1} {c2} {c3} {c4} {r} h=>(XO fu).at H3 (a0,a1,c2,c3,c4) r h
 unfold kV
 have z0:=Da (aJ Zj.eq_1)
 have z1:=RL
 exact Wk,Zi⟩
def Yk:TD:=zz [[2],[],[0,3]]
noncomputable abbrev XA(fu:Nat):Cm prog Int Int:=⟨113,fun t=>[.v (.int .i64 t)],EL fu,fun r=> .v (.int .i64 r),by
 rintro x1
 refine pT fu Yk Tryz.func113 [.tmp 2] [3] [] [] (λcp H=> ?_)
 unfold EL
 have z0:=Da (aJ Yk.eq_1)
 exact Wk,Zi⟩
def Yl:TD:=zz [[0,2],[],[]]
noncomputable abbrev XB(fu:Nat):Cm prog Int Int:=⟨114,fun t=>[.v (.int .i64 t)],EM fu,fun r=> .v (.int .i64 r),by
 rintro x1
 refine pT fu Yl Tryz.func114 [.tmp 2] [3] [] [] (λcp H=> ?_)
 unfold EM
 have z0:=Da (aJ Yl.eq_1)
 exact Wk,Zi⟩
def pW.j1:LJ 1 6 Unit Int:=⟨λr t e=>[(0,er e 0),(1,.v (.int .i64 t)),(2,er e 2)],λr t h=>[]⟩
open pW in
noncomputable abbrev XC(fu:Nat):Cm prog (Int×Int×Int) Int:=⟨115,fun t=>[.v (.int .i64 t.1),.v (.int .i64 t.2.1),.v (.int .i64 t.2.2)],fun t=>pW fu t.1 t.2.1 t.2.2,fun r=> .v (.int .i64 r),by
 rintro⟨x1,x2,x3⟩
 refine pT fu Aw.Ij Tryz.func115 [.tmp 6] [3] [] [] (λcp H=> ?_)
 unfold pW
 have z0:=Da (aJ Aw.Ij.eq_1)
 exact Wk,Zi⟩
noncomputable abbrev ai9(fu:Nat):Cm prog ((List Int)×Int×(List Int)) Int:=⟨116,fun t=>[.arr t.1.length (lm (ik .i64) t.1),.ay [.v (.int .i64 t.2.1)] 0,.ay [.arr t.2.2.length (lm (ik .i64) t.2.2)] 0],fun t=>xm fu t.1 t.2.1 t.2.2,fun r=> .v (.int .i64 r),by
 rintro⟨x1,x2,x3⟩
 refine pT fu Aw.Ik Tryz.func116 [.tmp 4] [3] [(yE fu).ct] [47] (λcp H=> ?_)
 obtain⟨H1, -⟩:=H
 unfold xm
 have z0:=Da (aJ Aw.Ik.eq_1)
 exact Wk,Zi⟩
def alq:=Da (aJ Aw.Ba.eq_1)
noncomputable def Pv:Code:=az Tryz.f112
theorem go_b112{C:bG}{cp:aC}{ci:bz}{lvl:Nat}{prot:List Id}{D:List (Nat×List Nat)}{n:Nat}{K:KK}{e:Env}{h:Heap}{fs:List Fr}:go prog C cp ci lvl prot D n K Pv e h fs=go prog C cp ci lvl prot D n K (az Tryz.f112) e h fs:=rfl
theorem Sv:aN prog 112 Ba=some ⟨Pv,[.tmp 6],[22]⟩:=fA Tryz.func112
noncomputable abbrev XP(fu:Nat):Cm prog (aj×(List Int)×Int×(List Int)) aj:=⟨45,λt=>[.agg (bT t.1),.arr t.2.1.length (lm (ik .i64) t.2.1),.fn 116 [] [.ay [.v (.int .i64 t.2.2.1)] 0,.ay [.arr t.2.2.2.length (lm (ik .i64) t.2.2.2)] 0]],λt=>cO fu t.1 t.2.1 (λy0=>xm fu y0 t.2.2.1 t.2.2.2),λr=> .agg [.v (.int .i64 r.fType),.fresh 1 r.fDims.length (lm (ik .i64) r.fDims),.fresh 1 r.fF.length (lm (ik .u32) r.fF),.fresh 1 r.fI.length (lm (ik .i64) r.fI),.fresh 1 r.fB.length (lm (bk) r.fB)],λt b h=>vM fu t.1 t.2.1 (λy0=>xm fu y0 t.2.2.1 t.2.2.2) 116 [.ay [.v (.int .i64 t.2.2.1)] 0,.ay [.arr t.2.2.2.length (lm (ik .i64) t.2.2.2)] 0] rfl rfl (bK.ay (bK.ay bK.nil)) (λy0 r h=>(ai9 fu).ok (y0,t.2.2.1,t.2.2.2) r h) b h,Zi⟩
def aY.m1:LJ 1 14 Unit ((List Int)×Int×Int):=⟨λr s e=>[(0,er e 0),(1,er e 1),(4,er e 4),(5,er e 5),(7,er e 7),(8,er e 8),(9,er e 9),(10,er e 10),(28,er e 28),(29,er e 29),(30,.v (.int .i64 s.2.2))],λr s h=>[((0,4,0),hr h (0,4,0)),((1,7,77),hr h (1,7,77)),((2,7,77),hr h (2,7,77)),((3,7,77),hr h (3,7,77)),((0,25,0),hr h (0,25,0)),((0,27,0),.sl true true 1 s.1.length (lm (ik .i64) s.1)),((0,9,0),bs (hr h (0,9,0)) 0 (.own (0,27,0) 0 s.1.length s.1.length)),((0,10,0),bs (hr h (0,10,0)) 0 (.v (.int .i64 s.2.1)))]⟩
def aY.j4:LJ 4 28 Unit ((List Int)×Int):=⟨λr t e=>[(0,er e 0),(1,er e 1),(4,er e 4),(9,er e 9),(10,er e 10)],λr t h=>[((0,4,0),hr h (0,4,0)),((1,7,77),hr h (1,7,77)),((2,7,77),hr h (2,7,77)),((3,7,77),hr h (3,7,77)),((0,25,0),hr h (0,25,0)),((0,27,0),.sl true true 1 t.1.length (lm (ik .i64) t.1)),((0,9,0),bs (hr h (0,9,0)) 0 (.own (0,27,0) 0 t.1.length t.1.length)),((0,10,0),bs (hr h (0,10,0)) 0 (.v (.int .i64 t.2)))]⟩
def aY.m2:LJ 2 20 Unit ((List Int)×Int):=⟨λr s e=>[(2,er e 2),(7,.own (3,7,77) 0 s.1.length s.1.length),(55,er e 55),(56,.v (.int .i64 s.2))],λr s h=>[((0,4,0),hr h (0,4,0)),((1,7,77),hr h (1,7,77)),((2,7,77),hr h (2,7,77)),((3,7,77),.sl true true 1 s.1.length (lm (ik .i64) s.1))]⟩
def aY.m3:LJ 3 8 Unit ((List Int)×Int):=⟨λr s e=>[(0,er e 0),(1,er e 1),(2,er e 2),(7,.own (3,7,77) 0 s.1.length s.1.length),(36,er e 36),(37,er e 37),(38,.v (.int .i64 s.2))],λr s h=>[((0,4,0),hr h (0,4,0)),((1,7,77),hr h (1,7,77)),((2,7,77),hr h (2,7,77)),((3,7,77),.sl true true 1 s.1.length (lm (ik .i64) s.1))]⟩
def aY.j5:LJ 5 18 Unit Unit:=⟨λr t e=>[(0,er e 0),(1,er e 1),(2,er e 2),(7,er e 7)],λr t h=>[((0,4,0),hr h (0,4,0)),((1,7,77),hr h (1,7,77)),((2,7,77),hr h (2,7,77)),((3,7,77),hr h (3,7,77))]⟩
def aY.q3:LC 3 Unit (List Int):=⟨λr t=> .own (3,7,77) 0 t.length t.length,λr t h=>[((0,4,0),hr h (0,4,0)),((1,7,77),hr h (1,7,77)),((2,7,77),hr h (2,7,77)),((3,7,77),.sl true true 1 t.length (lm (ik .i64) t))]⟩
def aY.m4:LJ 4 20 Unit ((List Int)×Int):=⟨λr s e=>[(2,er e 2),(7,.own (2,7,77) 0 s.1.length s.1.length),(55,er e 55),(56,.v (.int .i64 s.2))],λr s h=>[((0,4,0),hr h (0,4,0)),((1,7,77),hr h (1,7,77)),((2,7,77),.sl true true 1 s.1.length (lm (ik .i64) s.1))]⟩
def aY.m5:LJ 5 8 Unit ((List Int)×Int):=⟨λr s e=>[(0,er e 0),(1,er e 1),(2,er e 2),(7,.own (2,7,77) 0 s.1.length s.1.length),(36,er e 36),(37,er e 37),(38,.v (.int .i64 s.2))],λr s h=>[((0,4,0),hr h (0,4,0)),((1,7,77),hr h (1,7,77)),((2,7,77),.sl true true 1 s.1.length (lm (ik .i64) s.1))]⟩
def aY.j6:LJ 6 18 Unit Unit:=⟨λr t e=>[(0,er e 0),(1,er e 1),(2,er e 2),(7,er e 7)],λr t h=>[((0,4,0),hr h (0,4,0)),((1,7,77),hr h (1,7,77)),((2,7,77),hr h (2,7,77))]⟩
def aY.q2:LC 2 Unit (List Int):=⟨λr t=> .own (2,7,77) 0 t.length t.length,λr t h=>[((0,4,0),hr h (0,4,0)),((1,7,77),hr h (1,7,77)),((2,7,77),.sl true true 1 t.length (lm (ik .i64) t))]⟩
def aY.m6:LJ 6 20 Unit Unit:=⟨λr s e=>[(2,er e 2),(7,er e 7),(55,er e 55),(56,er e 56)],λr s h=>[((0,4,0),hr h (0,4,0)),((1,7,77),hr h (1,7,77))]⟩
def aY.m7:LJ 7 8 Unit ((List Int)×Int):=⟨λr s e=>[(0,er e 0),(1,er e 1),(2,er e 2),(7,.own (1,7,77) 0 s.1.length s.1.length),(36,er e 36),(37,er e 37),(38,.v (.int .i64 s.2))],λr s h=>[((0,4,0),hr h (0,4,0)),((1,7,77),.sl true true 1 s.1.length (lm (ik .i64) s.1))]⟩
def aY.j7:LJ 7 18 Unit Unit:=⟨λr t e=>[(0,er e 0),(1,er e 1),(2,er e 2),(7,er e 7)],λr t h=>[((0,4,0),hr h (0,4,0)),((1,7,77),hr h (1,7,77))]⟩
def aY.q1:LC 1 Unit (List Int):=⟨λr t=> .own (1,7,77) 0 t.length t.length,λr t h=>[((0,4,0),hr h (0,4,0)),((1,7,77),.sl true true 1 t.length (lm (ik .i64) t))]⟩
open aY in
noncomputable abbrev XY(fu:Nat):Cm prog (aV×(List Int)) aj:=⟨50,fun t=>[.ay (dJ t.1) 0,.arr t.2.length (lm (ik .i64) t.2)],fun t=>aY fu t.1 t.2,fun r=> .agg [.v (.int .i64 r.fType),.fresh 1 r.fDims.length (lm (ik .i64) r.fDims),.fresh 1 r.fF.length (lm (ik .u32) r.fF),.fresh 1 r.fI.length (lm (ik .i64) r.fI),.fresh 1 r.fB.length (lm (bk) r.fB)],by
 rintro⟨x1,x2⟩
 refine pG fu (jb [112]) (λcp=>(iE prog (jb [112]) cp fH fu 112 Ba ⟨Pv,[.tmp 6],[22]⟩ fH)) (λcp ok=>(je mixed ok eY Sv eY)) Aw.Jp Tryz.func50 [.cell 4 28] [28] [(XA fu).ct,(XB fu).ct,(pK fu).ct,(sG fu).ct,(uf fu).ct,(XC fu).ct,(XP fu).ct] [113,114,44,42,21,115,45] (λcp H=> ?_)
 obtain⟨H1,H2,H3,H4,H5,H6,H7, -⟩:=H
 have F1: ∀ {a0:Int} {r},EL fu a0=some r->cp 113 [.v (.int .i64 a0)]=some (.v (.int .i64 r)):=λ {a0} {r} h=>(XA fu).at H1 a0 r h
 have F2: ∀ {a0:Int} {r},EM fu a0=some r->cp 114 [.v (.int .i64 a0)]=some (.v (.int .i64 r)):=λ {a0} {r} h=>(XB fu).at H2 a0 r h
 have F3: ∀ {a0:List Int} {r},jA fu a0=some r->cp 44 [.arr a0.length (lm (ik .i64) a0)]=some (.fresh 1 r.length (lm (ik .i64) r)):=λ {a0} {r} h=>(pK fu).at H3 a0 r h
 have F4: ∀ {a0:List Int} {r},slices_Clone_int fu a0=some r->cp 42 [.arr a0.length (lm (ik .i64) a0)]=some (.fresh 1 r.length (lm (ik .i64) r)):=λ {a0} {r} h=>(sG fu).at H4 a0 r h
 have F5: ∀ {a0:Int} {a1:Int} {r},og fu a0 a1=some r->cp 21 [.v (.int .i64 a0),.v (.int .i64 a1)]=some (.tuple [.v (.int .i64 r.1),.v (.int .i64 r.2)]):=λ {a0} {a1} {r} h=>(uf fu).at H5 (a0,a1) r h
 have F6: ∀ {a0:Int} {a1:Int} {a2:Int} {r},pW fu a0 a1 a2=some r->cp 115 [.v (.int .i64 a0),.v (.int .i64 a1),.v (.int .i64 a2)]=some (.v (.int .i64 r)):=λ {a0} {a1} {a2} {r} h=>(XC fu).at H6 (a0,a1,a2) r h
 have F7: ∀ {a0:aj} {a1:List Int} {c2:Int} {c3:List Int} {r},cO fu a0 a1 (λy0=>xm fu y0 c2 c3)=some r->cp 45 [.agg (bT a0),.arr a1.length (lm (ik .i64) a1),.fn 116 [] [.ay [.v (.int .i64 c2)] 0,.ay [.arr c3.length (lm (ik .i64) c3)] 0]]=some (.agg [.v (.int .i64 r.fType),.fresh 1 r.fDims.length (lm (ik .i64) r.fDims),.fresh 1 r.fF.length (lm (ik .u32) r.fF),.fresh 1 r.fI.length (lm (ik .i64) r.fI),.fresh 1 r.fB.length (lm (bk) r.fB)]):=λ {a0} {a1} {c2} {c3} {r} h=>(XP fu).at H7 (a0,a1,c2,c3) r h
 unfold aY
 have z0:=Da (aJ Aw.Jp.eq_1)
 have z1:=alq
 have z2:=Tryz.f112.eq_1
 have z3:=RI
 have z4:=ed
 have z5:= @az.eq_1
 exact Wk,Zi⟩
noncomputable abbrev aja(fu:Nat):Cm prog ((List Int)×aV×(List Int)×(List Int)×(List Int)×Int) Int:=⟨117,fun t=>[.arr t.1.length (lm (ik .i64) t.1),.ay [.ay (dJ t.2.1) 0] 0,.ay [.arr t.2.2.1.length (lm (ik .i64) t.2.2.1)] 0,.ay [.arr t.2.2.2.1.length (lm (ik .i64) t.2.2.2.1)] 0,.ay [.arr t.2.2.2.2.1.length (lm (ik .i64) t.2.2.2.2.1)] 0,.ay [.v (.int .i64 t.2.2.2.2.2)] 0],fun t=>vI fu t.1 t.2.1 t.2.2.1 t.2.2.2.1 t.2.2.2.2.1 t.2.2.2.2.2,fun r=> .v (.int .i64 r),by
 rintro⟨x1,x2,x3,x4,x5,x6⟩
 refine pT fu Aw.Il Tryz.func117 [.tmp 7] [3] [(yE fu).ct] [47] (λcp H=> ?_)
 obtain⟨H1, -⟩:=H
 dsimp only
 unfold vI
 have z0:=Da (aJ Aw.Il.eq_1)
 exact Wk,Zi⟩
noncomputable abbrev XQ(fu:Nat):Cm prog (aj×(List Int)×aV×(List Int)×(List Int)×(List Int)×Int) aj:=⟨45,λt=>[.agg (bT t.1),.arr t.2.1.length (lm (ik .i64) t.2.1),.fn 117 [] [.ay [.ay (dJ t.2.2.1) 0] 0,.ay [.arr t.2.2.2.1.length (lm (ik .i64) t.2.2.2.1)] 0,.ay [.arr t.2.2.2.2.1.length (lm (ik .i64) t.2.2.2.2.1)] 0,.ay [.arr t.2.2.2.2.2.1.length (lm (ik .i64) t.2.2.2.2.2.1)] 0,.ay [.v (.int .i64 t.2.2.2.2.2.2)] 0]],λt=>cO fu t.1 t.2.1 (λy0=>vI fu y0 t.2.2.1 t.2.2.2.1 t.2.2.2.2.1 t.2.2.2.2.2.1 t.2.2.2.2.2.2),λr=> .agg [.v (.int .i64 r.fType),.fresh 1 r.fDims.length (lm (ik .i64) r.fDims),.fresh 1 r.fF.length (lm (ik .u32) r.fF),.fresh 1 r.fI.length (lm (ik .i64) r.fI),.fresh 1 r.fB.length (lm (bk) r.fB)],λt b h=>vM fu t.1 t.2.1 (λy0=>vI fu y0 t.2.2.1 t.2.2.2.1 t.2.2.2.2.1 t.2.2.2.2.2.1 t.2.2.2.2.2.2) 117 [.ay [.ay (dJ t.2.2.1) 0] 0,.ay [.arr t.2.2.2.1.length (lm (ik .i64) t.2.2.2.1)] 0,.ay [.arr t.2.2.2.2.1.length (lm (ik .i64) t.2.2.2.2.1)] 0,.ay [.arr t.2.2.2.2.2.1.length (lm (ik .i64) t.2.2.2.2.2.1)] 0,.ay [.v (.int .i64 t.2.2.2.2.2.2)] 0] rfl rfl (bK.ay (bK.ay (bK.ay (bK.ay (bK.ay bK.nil))))) (λy0 r h=>(aja fu).ok (y0,t.2.2.1,t.2.2.2.1,t.2.2.2.2.1,t.2.2.2.2.2.1,t.2.2.2.2.2.2) r h) b h,Zi⟩
noncomputable abbrev XZ(fu:Nat):Cm prog (aV×(List Int)×(List Int)) aj:=⟨51,fun t=>[.ay (dJ t.1) 0,.arr t.2.1.length (lm (ik .i64) t.2.1),.arr t.2.2.length (lm (ik .i64) t.2.2)],fun t=>BK fu t.1 t.2.1 t.2.2,fun r=> .agg [.v (.int .i64 r.fType),.fresh 1 r.fDims.length (lm (ik .i64) r.fDims),.fresh 1 r.fF.length (lm (ik .u32) r.fF),.fresh 1 r.fI.length (lm (ik .i64) r.fI),.fresh 1 r.fB.length (lm (bk) r.fB)],by
 rintro⟨x1,x2,x3⟩
 refine pT fu Aw.Jq Tryz.func51 [.cell 6 28] [28] [(pK fu).ct,(XQ fu).ct] [44,45] (λcp H=> ?_)
 obtain⟨H1,H2, -⟩:=H
 have F1: ∀ {a0:List Int} {r},jA fu a0=some r->cp 44 [.arr a0.length (lm (ik .i64) a0)]=some (.fresh 1 r.length (lm (ik .i64) r)):=λ {a0} {r} h=>(pK fu).at H1 a0 r h
 have F2: ∀ {a0:aj} {a1:List Int} {c2:aV} {c3:List Int} {c4:List Int} {c5:List Int} {c6:Int} {r},cO fu a0 a1 (λy0=>vI fu y0 c2 c3 c4 c5 c6)=some r->cp 45 [.agg (bT a0),.arr a1.length (lm (ik .i64) a1),.fn 117 [] [.ay [.ay (dJ c2) 0] 0,.ay [.arr c3.length (lm (ik .i64) c3)] 0,.ay [.arr c4.length (lm (ik .i64) c4)] 0,.ay [.arr c5.length (lm (ik .i64) c5)] 0,.ay [.v (.int .i64 c6)] 0]]=some (.agg [.v (.int .i64 r.fType),.fresh 1 r.fDims.length (lm (ik .i64) r.fDims),.fresh 1 r.fF.length (lm (ik .u32) r.fF),.fresh 1 r.fI.length (lm (ik .i64) r.fI),.fresh 1 r.fB.length (lm (bk) r.fB)]):=λ {a0} {a1} {c2} {c3} {c4} {c5} {c6} {r} h=>(XQ fu).at H2 (a0,a1,c2,c3,c4,c5,c6) r h
 unfold BK
 have z0:=Da (aJ Aw.Jq.eq_1)
 exact Wk,Zi⟩
def alv:=Da (aJ Aw.Bc.eq_1)
noncomputable def PD:Code:=az Tryz.f123
theorem apv{C:bG}{cp:aC}{ci:bz}{lvl:Nat}{prot:List Id}{D:List (Nat×List Nat)}{n:Nat}{K:KK}{e:Env}{h:Heap}{fs:List Fr}:go prog C cp ci lvl prot D n K PD e h fs=go prog C cp ci lvl prot D n K (az Tryz.f123) e h fs:=rfl
theorem SG:aN prog 123 Bc=some ⟨PD,[],[]⟩:=fA Tryz.func123
def iO.m2:LJ 2 8 Unit ((List Int)×Int):=⟨λr s e=>[(0,er e 0),(1,er e 1),(4,.own (1,10,0) 0 s.1.length s.1.length),(5,.v (.int .i64 s.2))],λr s h=>[((0,2,0),hr h (0,2,0)),((0,3,0),hr h (0,3,0)),((0,5,0),hr h (0,5,0)),((0,5,78),hr h (0,5,78)),((0,12,0),hr h (0,12,0)),((0,6,0),hr h (0,6,0)),((1,10,0),.sl true true 1 s.1.length (lm (ik .i64) s.1))]⟩
def iO.m1:LJ 1 3 Unit ((List Int)×(List Int)):=⟨λr s e=>[(0,er e 0),(1,er e 1),(4,.own (1,10,0) 0 s.2.length s.2.length)],λr s h=>[((0,2,0),hr h (0,2,0)),((0,3,0),hr h (0,3,0)),((0,5,0),bs (hr h (0,5,0)) 0 (.own (0,5,78) 0 s.1.length s.1.length)),((0,5,78),.sl true true 1 s.1.length (lm (ik .i64) s.1)),((0,12,0),hr h (0,12,0)),((0,6,0),hr h (0,6,0)),((1,10,0),.sl true true 1 s.2.length (lm (ik .i64) s.2))]⟩
noncomputable def Gm(cp:aC)(fu:Nat):bz:=iE prog (jb [106,123]) cp fH fu 123 Bc ⟨PD,[],[]⟩ fH
theorem Vd{cp:aC}{fu:Nat}(ok:aK prog cp):eH prog (Gm cp fu):=je mixed ok eY SG eY
noncomputable def N8(cp:aC)(fu:Nat):bz:=iE prog (jb [106,123]) cp (Gm cp fu) fu 106 wM ⟨GR,[],[]⟩ (Gm cp fu)
theorem aeb{cp:aC}{fu:Nat}(ok:aK prog cp):eH prog (N8 cp fu):=je mixed ok (Vd ok) La (Vd ok)
open iO in
noncomputable abbrev Hw(fu:Nat):Cm prog (aV×(List Int)) (List Int):=⟨53,fun t=>[.ay (dJ t.1) 0,.arr t.2.length (lm (ik .i64) t.2)],fun t=>iO fu t.1 t.2,fun r=> .fresh 1 r.length (lm (ik .i64) r),by
 rintro⟨x1,x2⟩
 refine pG fu (jb [106,123]) (λcp=>(N8 cp fu)) (λcp ok=>aeb ok) Aw.Jt Tryz.func53 [.tmp 4] [22] [(pK fu).ct,(Hy fu).ct,(yE fu).ct] [44,81,47] (λcp H=> ?_)
 obtain⟨H1,H2,H3, -⟩:=H
 unfold iO N8 Gm
 have z0:=Da (aJ Aw.Jt.eq_1)
 have z1:=lu
 have z2:=Tryz.f106.eq_1
 have z3:= @lD
 have z4:=alv
 have z5:=Tryz.f123.eq_1
 have z6:= @apv
 have z7:=RI
 have z8:=ed
 have z9:= @az.eq_1
 exact Wk,Zi⟩
noncomputable abbrev XG(fu:Nat):Cm prog (aV×Int×Int) Int:=⟨127,fun t=>[.ay (dJ t.1) 0,.v (.int .i64 t.2.1),.v (.int .i64 t.2.2)],fun t=>BL fu t.1 t.2.1 t.2.2,fun r=> .v (.int .i64 r),by
 rintro⟨x1,x2,x3⟩
 refine pT fu Aw.Ir Tryz.func127 [.tmp 6] [3] [] [] (λcp H=> ?_)
 unfold BL
 have z0:=Da (aJ Aw.Ir.eq_1)
 exact Wk,Zi⟩
def kX.m1:LJ 1 6 Unit (Int×Int):=⟨λr s e=>[(0,er e 0),(1,er e 1),(2,er e 2),(3,er e 3),(6,.v (.int .i64 s.1)),(14,er e 14),(15,er e 15),(16,.v (.int .i64 s.2))],λr s h=>[]⟩
open kX in
noncomputable abbrev ajd(fu:Nat):Cm prog ((List Int)×aV×Int×(List Int)) Int:=⟨126,fun t=>[.arr t.1.length (lm (ik .i64) t.1),.ay [.ay (dJ t.2.1) 0] 0,.ay [.v (.int .i64 t.2.2.1)] 0,.ay [.arr t.2.2.2.length (lm (ik .i64) t.2.2.2)] 0],fun t=>kX fu t.1 t.2.1 t.2.2.1 t.2.2.2,fun r=> .v (.int .i64 r),by
 rintro⟨x1,x2,x3,x4⟩
 refine pT fu Aw.Iq Tryz.func126 [.tmp 5] [3] [(XG fu).ct] [127] (λcp H=> ?_)
 obtain⟨H1, -⟩:=H
 have F1: ∀ {a0:aV} {a1:Int} {a2:Int} {r},BL fu a0 a1 a2=some r->cp 127 [.ay (dJ a0) 0,.v (.int .i64 a1),.v (.int .i64 a2)]=some (.v (.int .i64 r)):=λ {a0} {a1} {a2} {r} h=>(XG fu).at H1 (a0,a1,a2) r h
 unfold kX
 have z0:=Da (aJ Aw.Iq.eq_1)
 exact Wk,Zi⟩
noncomputable abbrev XR(fu:Nat):Cm prog (aj×(List Int)×aV×Int×(List Int)) aj:=⟨45,λt=>[.agg (bT t.1),.arr t.2.1.length (lm (ik .i64) t.2.1),.fn 126 [] [.ay [.ay (dJ t.2.2.1) 0] 0,.ay [.v (.int .i64 t.2.2.2.1)] 0,.ay [.arr t.2.2.2.2.length (lm (ik .i64) t.2.2.2.2)] 0]],λt=>cO fu t.1 t.2.1 (λy0=>kX fu y0 t.2.2.1 t.2.2.2.1 t.2.2.2.2),λr=> .agg [.v (.int .i64 r.fType),.fresh 1 r.fDims.length (lm (ik .i64) r.fDims),.fresh 1 r.fF.length (lm (ik .u32) r.fF),.fresh 1 r.fI.length (lm (ik .i64) r.fI),.fresh 1 r.fB.length (lm (bk) r.fB)],λt b h=>vM fu t.1 t.2.1 (λy0=>kX fu y0 t.2.2.1 t.2.2.2.1 t.2.2.2.2) 126 [.ay [.ay (dJ t.2.2.1) 0] 0,.ay [.v (.int .i64 t.2.2.2.1)] 0,.ay [.arr t.2.2.2.2.length (lm (ik .i64) t.2.2.2.2)] 0] rfl rfl (bK.ay (bK.ay (bK.ay bK.nil))) (λy0 r h=>(ajd fu).ok (y0,t.2.2.1,t.2.2.2.1,t.2.2.2.2) r h) b h,Zi⟩
noncomputable abbrev X0(fu:Nat):Cm prog (aV×(List Int)) aj:=⟨55,fun t=>[.ay (dJ t.1) 0,.arr t.2.length (lm (ik .i64) t.2)],fun t=>zx fu t.1 t.2,fun r=> .agg [.v (.int .i64 r.fType),.fresh 1 r.fDims.length (lm (ik .i64) r.fDims),.fresh 1 r.fF.length (lm (ik .u32) r.fF),.fresh 1 r.fI.length (lm (ik .i64) r.fI),.fresh 1 r.fB.length (lm (bk) r.fB)],by
 rintro⟨x1,x2⟩
 refine pG fu ES (λcp=>fH) (λcp ok=>eY) Aw.Jv Tryz.func55 [.cell 4 28] [28] [(pJ fu).ct,(AY fu).ct,(pK fu).ct,(XR fu).ct] [35,110,44,45] (λcp H=> ?_)
 obtain⟨H1,H2,H3,H4, -⟩:=H
 have F1: ∀ {a0:List Int} {r},eF fu a0=some r->cp 35 [.arr a0.length (lm (ik .i64) a0)]=some (.tuple [.v (.int .i64 r.1),.v (.int .i64 r.2)]):=λ {a0} {r} h=>(pJ fu).at H1 a0 r h
 have F2: ∀ {a0:List aj} {r},jE fu a0=some r->cp 110 [.arr a0.length (fm bT a0)]=some (.agg [.v (.int .i64 r.fType),.fresh 1 r.fDims.length (lm (ik .i64) r.fDims),.arr r.fF.length (lm (ik .u32) r.fF),.arr r.fI.length (lm (ik .i64) r.fI),.arr r.fB.length (lm (bk) r.fB)]):=λ {a0} {r} h=>(AY fu).at H2 a0 r h
 have F3: ∀ {a0:List Int} {r},jA fu a0=some r->cp 44 [.arr a0.length (lm (ik .i64) a0)]=some (.fresh 1 r.length (lm (ik .i64) r)):=λ {a0} {r} h=>(pK fu).at H3 a0 r h
 have F4: ∀ {a0:aj} {a1:List Int} {c2:aV} {c3:Int} {c4:List Int} {r},cO fu a0 a1 (λy0=>kX fu y0 c2 c3 c4)=some r->cp 45 [.agg (bT a0),.arr a1.length (lm (ik .i64) a1),.fn 126 [] [.ay [.ay (dJ c2) 0] 0,.ay [.v (.int .i64 c3)] 0,.ay [.arr c4.length (lm (ik .i64) c4)] 0]]=some (.agg [.v (.int .i64 r.fType),.fresh 1 r.fDims.length (lm (ik .i64) r.fDims),.fresh 1 r.fF.length (lm (ik .u32) r.fF),.fresh 1 r.fI.length (lm (ik .i64) r.fI),.fresh 1 r.fB.length (lm (bk) r.fB)]):=λ {a0} {a1} {c2} {c3} {c4} {r} h=>(XR fu).at H4 (a0,a1,c2,c3,c4) r h
 unfold zx
 have z0:=Da (aJ Aw.Jv.eq_1)
 have z1:= @yg
 have z2:= @yw
 exact Wk,Zi⟩
def Yo:TD:=[(0,[4]),(0,[0,1,2,8,9]),(0,[]),(0,[]),(0,[7]),(0,[]),(0,[]),(0,[]),(0,[11]),(0,[]),(23,[6,12,13,14,15,16,17,18,19,20,21,22,23,24,25,26,27,28,29,30,31,32,33]),(0,[]),(0,[34]),(0,[]),(0,[5,35])]
def nV.m1:LJ 1 6 Unit (Int×Int):=⟨λr s e=>[(0,er e 0),(1,er e 1),(2,er e 2),(5,.v (.int .i64 s.1)),(8,er e 8),(9,.v (.int .i64 s.2))],λr s h=>[]⟩
open nV in
noncomputable abbrev aje(fu:Nat):Cm prog ((List Int)×(List Int)×(List Int)) Int:=⟨128,fun t=>[.arr t.1.length (lm (ik .i64) t.1),.ay [.arr t.2.1.length (lm (ik .i64) t.2.1)] 0,.ay [.arr t.2.2.length (lm (ik .i64) t.2.2)] 0],fun t=>nV fu t.1 t.2.1 t.2.2,fun r=> .v (.int .i64 r),by
 rintro⟨x1,x2,x3⟩
 refine pT fu Yo Tryz.func128 [.tmp 4] [3] [] [] (λcp H=> ?_)
 unfold nV
 have z0:=Da (aJ Yo.eq_1)
 exact Wk,Zi⟩
def Zk:TD:=zz [[],[],[7,8,9,10,11],[],[12,13],[],[0,1,5,6,14,15,16,17,18,19,20]]
noncomputable abbrev aka(fu:Nat):Cm prog (aj×(List Int)×(List Int)×(List Int)) aj:=⟨45,λt=>[.agg (bT t.1),.arr t.2.1.length (lm (ik .i64) t.2.1),.fn 128 [] [.ay [.arr t.2.2.1.length (lm (ik .i64) t.2.2.1)] 0,.ay [.arr t.2.2.2.length (lm (ik .i64) t.2.2.2)] 0]],λt=>cO fu t.1 t.2.1 (λy0=>nV fu y0 t.2.2.1 t.2.2.2),λr=> .agg [.v (.int .i64 r.fType),.fresh 1 r.fDims.length (lm (ik .i64) r.fDims),.fresh 1 r.fF.length (lm (ik .u32) r.fF),.fresh 1 r.fI.length (lm (ik .i64) r.fI),.fresh 1 r.fB.length (lm (bk) r.fB)],λt b h=>vM fu t.1 t.2.1 (λy0=>nV fu y0 t.2.2.1 t.2.2.2) 128 [.ay [.arr t.2.2.1.length (lm (ik .i64) t.2.2.1)] 0,.ay [.arr t.2.2.2.length (lm (ik .i64) t.2.2.2)] 0] rfl rfl (bK.ay (bK.ay bK.nil)) (λy0 r h=>(aje fu).ok (y0,t.2.2.1,t.2.2.2) r h) b h,Zi⟩
noncomputable abbrev X3(fu:Nat):Cm prog (aV×(List Int)) aj:=⟨56,fun t=>[.ay (dJ t.1) 0,.arr t.2.length (lm (ik .i64) t.2)],fun t=>vJ fu t.1 t.2,fun r=> .agg [.v (.int .i64 r.fType),.fresh 1 r.fDims.length (lm (ik .i64) r.fDims),.fresh 1 r.fF.length (lm (ik .u32) r.fF),.fresh 1 r.fI.length (lm (ik .i64) r.fI),.fresh 1 r.fB.length (lm (bk) r.fB)],by
 rintro⟨x1,x2⟩
 refine pT fu Zk Tryz.func56 [.cell 4 28] [28] [(pK fu).ct,(aka fu).ct] [44,45] (λcp H=> ?_)
 obtain⟨H1,H2, -⟩:=H
 unfold vJ
 have z0:=Da (aJ Zk.eq_1)
 exact Wk,Zi⟩
def Yp:TD:=zz [[0,2],[],[]]
noncomputable abbrev ajf(fu:Nat):Cm prog (List Int) Int:=⟨129,fun t=>[.arr t.length (lm (ik .i64) t)],xq fu,fun r=> .v (.int .i64 r),by
 rintro x1
 refine pT fu Yp Tryz.func129 [.tmp 2] [3] [] [] (λcp H=> ?_)
 unfold xq
 have z0:=Da (aJ Yp.eq_1)
 exact Wk,Zi⟩
def Zl:TD:=[(0,[]),(0,[5,22]),(0,[6,10,11,12,13,14,15,16,17,18]),(0,[8,49,50]),(0,[19,20,21]),(0,[]),(0,[24]),(0,[]),(0,[25,26,27]),(0,[]),(0,[29]),(0,[]),(0,[30,31,7001000007]),(0,[]),(0,[32,33,34,35,36]),(0,[]),(0,[37]),(0,[]),(0,[39,40,41,42,43,44,45,46]),(0,[]),(0,[47,48]),(0,[]),(0,[]),(0,[]),(0,[52]),(0,[]),(14,[9,53,54,55,56,57,58,59,60,61,62,63,64,65,66,67,68]),(0,[]),(0,[69]),(0,[]),(0,[7,70]),(0,[]),(0,[0,1,71,72,73,74,75,76,77,78,79,80])]
noncomputable abbrev XT(fu:Nat):Cm prog (aj×(List Int)) aj:=⟨45,λt=>[.agg (bT t.1),.arr t.2.length (lm (ik .i64) t.2),.fn 129 [] []],λt=>cO fu t.1 t.2 (λy0=>xq fu y0),λr=> .agg [.v (.int .i64 r.fType),.fresh 1 r.fDims.length (lm (ik .i64) r.fDims),.fresh 1 r.fF.length (lm (ik .u32) r.fF),.fresh 1 r.fI.length (lm (ik .i64) r.fI),.fresh 1 r.fB.length (lm (bk) r.fB)],λt b h=>vM fu t.1 t.2 (λy0=>xq fu y0) 129 [] rfl rfl bK.nil (λy0 r h=>(ajf fu).ok y0 r h) b h,Zi⟩
def jm.m1:LJ 1 22 Unit ((List Int)×Int):=⟨λr s e=>[(0,er e 0),(1,er e 1),(4,er e 4),(5,er e 5),(7,er e 7),(8,er e 8),(22,er e 22),(49,er e 49),(50,.v (.int .i64 s.2))],λr s h=>[((0,4,0),hr h (0,4,0)),((0,7,0),bs (hr h (0,7,0)) 3 (.own (0,7,81) 0 s.1.length s.1.length)),((0,7,81),.sl true true 1 s.1.length (lm (ik .i64) s.1))]⟩
def jm.j2:LJ 2 20 Unit Int:=⟨λr t e=>[(0,er e 0),(1,er e 1),(4,er e 4),(5,er e 5),(7,er e 7),(8,.v (.int .i64 t)),(22,er e 22)],λr t h=>[((0,4,0),hr h (0,4,0)),((0,7,0),hr h (0,7,0)),((0,7,81),hr h (0,7,81))]⟩
def jm.j1:LJ 1 32 Unit Unit:=⟨λr t e=>[(0,er e 0),(1,er e 1),(4,er e 4)],λr t h=>[((0,4,0),hr h (0,4,0))]⟩
open jm in
noncomputable abbrev X4(fu:Nat):Cm prog (aV×(List Int)) aj:=⟨57,fun t=>[.ay (dJ t.1) 0,.arr t.2.length (lm (ik .i64) t.2)],fun t=>jm fu t.1 t.2,fun r=> .agg [.v (.int .i64 r.fType),.arr r.fDims.length (lm (ik .i64) r.fDims),.arr r.fF.length (lm (ik .u32) r.fF),.arr r.fI.length (lm (ik .i64) r.fI),.arr r.fB.length (lm (bk) r.fB)],by
 rintro⟨x1,x2⟩
 refine zG fu ES (λcp=>fH) (λcp ok=>eY) Zl Tryz.func57 [.cell 4 28] [28] [(pJ fu).ct,(AZ fu).ct,(AY fu).ct,(XT fu).ct] [35,18,110,45] (λcp H=> ?_)
 obtain⟨H1,H2,H3,H4, -⟩:=H
 have F1: ∀ {a0:List Int} {r},eF fu a0=some r->cp 35 [.arr a0.length (lm (ik .i64) a0)]=some (.tuple [.v (.int .i64 r.1),.v (.int .i64 r.2)]):=λ {a0} {r} h=>(pJ fu).at H1 a0 r h
 have F2: ∀ {a0:aj} {r},jI fu a0=some r->cp 18 [.agg (bT a0)]=some (.agg [.v (.int .i64 r.fType),.fresh 1 r.fDims.length (lm (ik .i64) r.fDims),.fresh 1 r.fF.length (lm (ik .u32) r.fF),.fresh 1 r.fI.length (lm (ik .i64) r.fI),.fresh 1 r.fB.length (lm (bk) r.fB)]):=λ {a0} {r} h=>(AZ fu).at H2 a0 r h
 have F3: ∀ {a0:List aj} {r},jE fu a0=some r->cp 110 [.arr a0.length (fm bT a0)]=some (.agg [.v (.int .i64 r.fType),.fresh 1 r.fDims.length (lm (ik .i64) r.fDims),.arr r.fF.length (lm (ik .u32) r.fF),.arr r.fI.length (lm (ik .i64) r.fI),.arr r.fB.length (lm (bk) r.fB)]):=λ {a0} {r} h=>(AY fu).at H3 a0 r h
 have F4: ∀ {a0:aj} {a1:List Int} {r},cO fu a0 a1 (λy0=>xq fu y0)=some r->cp 45 [.agg (bT a0),.arr a1.length (lm (ik .i64) a1),.fn 129 [] []]=some (.agg [.v (.int .i64 r.fType),.fresh 1 r.fDims.length (lm (ik .i64) r.fDims),.fresh 1 r.fF.length (lm (ik .u32) r.fF),.fresh 1 r.fI.length (lm (ik .i64) r.fI),.fresh 1 r.fB.length (lm (bk) r.fB)]):=λ {a0} {a1} {r} h=>(XT fu).at H4 (a0,a1) r h
 unfold jm
 have z0:=Da (aJ Zl.eq_1)
 have z1:=SE
 have z2:= @yg
 have z3:= @yw
 exact Wk,Zi⟩
def Yq:TD:=[(0,[6]),(0,[]),(0,[9,10,11,12,13,14,15]),(0,[]),(36,[7,16,17,18,19,20,21,22,23,24,25,26,27,28,29,30,31,32,33,34,35,36,37,38,39,40,41,42,43,44,45,46,47,48,49,50]),(0,[]),(0,[51,52,53,54]),(0,[]),(36,[56,57,58,59,60,61,62,63,64,65,66,67,68,69,70,71,72,73,74,75,76,77,78,79,80,81,82,83,84,85,86,87,88,89,90]),(0,[]),(0,[91,92,93,94,95]),(0,[]),(21,[97,98,99,100,101,102,103,104,105,106,107,108,109,110,111,112,113,114,115,116,117]),(0,[]),(0,[0,1,2,3,4,8,118,119,120])]
noncomputable abbrev ajh(fu:Nat):Cm prog ((List Int)×aV×Int×(List Int)×(List Int)) Int:=⟨130,fun t=>[.arr t.1.length (lm (ik .i64) t.1),.ay [.ay (dJ t.2.1) 0] 0,.ay [.v (.int .i64 t.2.2.1)] 0,.ay [.arr t.2.2.2.1.length (lm (ik .i64) t.2.2.2.1)] 0,.ay [.arr t.2.2.2.2.length (lm (ik .i64) t.2.2.2.2)] 0],fun t=>nU fu t.1 t.2.1 t.2.2.1 t.2.2.2.1 t.2.2.2.2,fun r=> .v (.int .i64 r),by
 rintro⟨x1,x2,x3,x4,x5⟩
 refine pT fu Yq Tryz.func130 [.tmp 6] [3] [(yE fu).ct] [47] (λcp H=> ?_)
 obtain⟨H1, -⟩:=H
 unfold nU
 have z0:=Da (aJ Yq.eq_1)
 exact Wk,Zi⟩
def Zm:TD:=[(0,[0,1]),(0,[]),(13,[7,8,9,10,11,12,13,14,15,16,17]),(0,[]),(7,[2,3,5,6,18,19,20,21,22,23,24])]
noncomputable abbrev XU(fu:Nat):Cm prog (aj×(List Int)×aV×Int×(List Int)×(List Int)) aj:=⟨45,λt=>[.agg (bT t.1),.arr t.2.1.length (lm (ik .i64) t.2.1),.fn 130 [] [.ay [.ay (dJ t.2.2.1) 0] 0,.ay [.v (.int .i64 t.2.2.2.1)] 0,.ay [.arr t.2.2.2.2.1.length (lm (ik .i64) t.2.2.2.2.1)] 0,.ay [.arr t.2.2.2.2.2.length (lm (ik .i64) t.2.2.2.2.2)] 0]],λt=>cO fu t.1 t.2.1 (λy0=>nU fu y0 t.2.2.1 t.2.2.2.1 t.2.2.2.2.1 t.2.2.2.2.2),λr=> .agg [.v (.int .i64 r.fType),.fresh 1 r.fDims.length (lm (ik .i64) r.fDims),.fresh 1 r.fF.length (lm (ik .u32) r.fF),.fresh 1 r.fI.length (lm (ik .i64) r.fI),.fresh 1 r.fB.length (lm (bk) r.fB)],λt b h=>vM fu t.1 t.2.1 (λy0=>nU fu y0 t.2.2.1 t.2.2.2.1 t.2.2.2.2.1 t.2.2.2.2.2) 130 [.ay [.ay (dJ t.2.2.1) 0] 0,.ay [.v (.int .i64 t.2.2.2.1)] 0,.ay [.arr t.2.2.2.2.1.length (lm (ik .i64) t.2.2.2.2.1)] 0,.ay [.arr t.2.2.2.2.2.length (lm (ik .i64) t.2.2.2.2.2)] 0] rfl rfl (bK.ay (bK.ay (bK.ay (bK.ay bK.nil)))) (λy0 r h=>(ajh fu).ok (y0,t.2.2.1,t.2.2.2.1,t.2.2.2.2.1,t.2.2.2.2.2) r h) b h,Zi⟩
noncomputable abbrev X5(fu:Nat):Cm prog (aV×(List Int)) aj:=⟨58,fun t=>[.ay (dJ t.1) 0,.arr t.2.length (lm (ik .i64) t.2)],fun t=>EK fu t.1 t.2,fun r=> .agg [.v (.int .i64 r.fType),.fresh 1 r.fDims.length (lm (ik .i64) r.fDims),.fresh 1 r.fF.length (lm (ik .u32) r.fF),.fresh 1 r.fI.length (lm (ik .i64) r.fI),.fresh 1 r.fB.length (lm (bk) r.fB)],by
 rintro⟨x1,x2⟩
 refine pT fu Zm Tryz.func58 [.cell 4 28] [28] [(pK fu).ct,(XU fu).ct] [44,45] (λcp H=> ?_)
 obtain⟨H1,H2, -⟩:=H
 have F1: ∀ {a0:List Int} {r},jA fu a0=some r->cp 44 [.arr a0.length (lm (ik .i64) a0)]=some (.fresh 1 r.length (lm (ik .i64) r)):=λ {a0} {r} h=>(pK fu).at H1 a0 r h
 have F2: ∀ {a0:aj} {a1:List Int} {c2:aV} {c3:Int} {c4:List Int} {c5:List Int} {r},cO fu a0 a1 (λy0=>nU fu y0 c2 c3 c4 c5)=some r->cp 45 [.agg (bT a0),.arr a1.length (lm (ik .i64) a1),.fn 130 [] [.ay [.ay (dJ c2) 0] 0,.ay [.v (.int .i64 c3)] 0,.ay [.arr c4.length (lm (ik .i64) c4)] 0,.ay [.arr c5.length (lm (ik .i64) c5)] 0]]=some (.agg [.v (.int .i64 r.fType),.fresh 1 r.fDims.length (lm (ik .i64) r.fDims),.fresh 1 r.fF.length (lm (ik .u32) r.fF),.fresh 1 r.fI.length (lm (ik .i64) r.fI),.fresh 1 r.fB.length (lm (bk) r.fB)]):=λ {a0} {a1} {c2} {c3} {c4} {c5} {r} h=>(XU fu).at H2 (a0,a1,c2,c3,c4,c5) r h
 unfold EK
 have z0:=Da (aJ Zm.eq_1)
 exact Wk,Zi⟩
noncomputable abbrev XW(fu:Nat):Cm prog (aV×(List Int)) aj:=⟨48,λt=>[.ay (dJ t.1) 0,.arr t.2.length (lm (ik .i64) t.2)],λt=>gZ fu t.1 t.2,λr=> .agg [.v (.int .i64 r.fType),.fresh 1 r.fDims.length (lm (ik .i64) r.fDims),.fresh 1 r.fF.length (lm (ik .u32) r.fF),.fresh 1 r.fI.length (lm (ik .i64) r.fI),.fresh 1 r.fB.length (lm (bk) r.fB)],λt b h=>avw fu t.1 t.2 b h,Zi⟩
def eX.j1:LJ 1 54 Unit Unit:=⟨λr t e=>[(0,er e 0),(1,er e 1),(6,er e 6)],λr t h=>[((0,6,0),hr h (0,6,0))]⟩
open eX in
noncomputable abbrev XJ(fu:Nat):Cm prog (aV×(List Int)×(List Int)) aj:=⟨24,fun t=>[.ay (dJ t.1) 0,.arr t.2.1.length (lm (ik .i64) t.2.1),.arr t.2.2.length (lm (ik .i64) t.2.2)],fun t=>eX fu t.1 t.2.1 t.2.2,fun r=> .agg [.v (.int .i64 r.fType),.arr r.fDims.length (lm (ik .i64) r.fDims),.arr r.fF.length (lm (ik .u32) r.fF),.arr r.fI.length (lm (ik .i64) r.fI),.arr r.fB.length (lm (bk) r.fB)],by
 rintro⟨x1,x2,x3⟩
 refine uA fu Aw.wQ Tryz.func24 [.cell 6 28] [28] [(XW fu).ct,(XX fu).ct,(XY fu).ct,(XZ fu).ct,(Hw fu).ct,(QR fu).ct,(X0 fu).ct,(X3 fu).ct,(X4 fu).ct,(X5 fu).ct] [48,49,50,51,53,52,55,56,57,58] (λcp H=> ?_)
 obtain⟨H1,H2,H3,H4,H5,H6,H7,H8,H9,H10, -⟩:=H
 have F1: ∀ {a0:aV} {a1:List Int} {r},gZ fu a0 a1=some r->cp 48 [.ay (dJ a0) 0,.arr a1.length (lm (ik .i64) a1)]=some (.agg [.v (.int .i64 r.fType),.fresh 1 r.fDims.length (lm (ik .i64) r.fDims),.fresh 1 r.fF.length (lm (ik .u32) r.fF),.fresh 1 r.fI.length (lm (ik .i64) r.fI),.fresh 1 r.fB.length (lm (bk) r.fB)]):=λ {a0} {a1} {r} h=>(XW fu).at H1 (a0,a1) r h
 have F2: ∀ {a0:aV} {a1:List Int} {r},kV fu a0 a1=some r->cp 49 [.ay (dJ a0) 0,.arr a1.length (lm (ik .i64) a1)]=some (.agg [.v (.int .i64 r.fType),.fresh 1 r.fDims.length (lm (ik .i64) r.fDims),.fresh 1 r.fF.length (lm (ik .u32) r.fF),.fresh 1 r.fI.length (lm (ik .i64) r.fI),.fresh 1 r.fB.length (lm (bk) r.fB)]):=λ {a0} {a1} {r} h=>(XX fu).at H2 (a0,a1) r h
 have F3: ∀ {a0:aV} {a1:List Int} {r},aY fu a0 a1=some r->cp 50 [.ay (dJ a0) 0,.arr a1.length (lm (ik .i64) a1)]=some (.agg [.v (.int .i64 r.fType),.fresh 1 r.fDims.length (lm (ik .i64) r.fDims),.fresh 1 r.fF.length (lm (ik .u32) r.fF),.fresh 1 r.fI.length (lm (ik .i64) r.fI),.fresh 1 r.fB.length (lm (bk) r.fB)]):=λ {a0} {a1} {r} h=>(XY fu).at H3 (a0,a1) r h
 have F4: ∀ {a0:aV} {a1:List Int} {a2:List Int} {r},BK fu a0 a1 a2=some r->cp 51 [.ay (dJ a0) 0,.arr a1.length (lm (ik .i64) a1),.arr a2.length (lm (ik .i64) a2)]=some (.agg [.v (.int .i64 r.fType),.fresh 1 r.fDims.length (lm (ik .i64) r.fDims),.fresh 1 r.fF.length (lm (ik .u32) r.fF),.fresh 1 r.fI.length (lm (ik .i64) r.fI),.fresh 1 r.fB.length (lm (bk) r.fB)]):=λ {a0} {a1} {a2} {r} h=>(XZ fu).at H4 (a0,a1,a2) r h
 have F5: ∀ {a0:aV} {a1:List Int} {r},iO fu a0 a1=some r->cp 53 [.ay (dJ a0) 0,.arr a1.length (lm (ik .i64) a1)]=some (.fresh 1 r.length (lm (ik .i64) r)):=λ {a0} {a1} {r} h=>(Hw fu).at H5 (a0,a1) r h
 have F6: ∀ {a0:aj} {a1:List Int} {a2:List Int} {r},df fu a0 a1 a2=some r->cp 52 [.agg (bT a0),.arr a1.length (lm (ik .i64) a1),.arr a2.length (lm (ik .i64) a2)]=some (.tuple [.agg [.v (.int .i64 r.1.fType),.fresh 1 r.1.fDims.length (lm (ik .i64) r.1.fDims),.fresh 1 r.1.fF.length (lm (ik .u32) r.1.fF),.fresh 1 r.1.fI.length (lm (ik .i64) r.1.fI),.fresh 1 r.1.fB.length (lm (bk) r.1.fB)],.v (.int .i64 r.2)]):=λ {a0} {a1} {a2} {r} h=>(QR fu).at H6 (a0,a1,a2) r h
 have F7: ∀ {a0:aV} {a1:List Int} {r},zx fu a0 a1=some r->cp 55 [.ay (dJ a0) 0,.arr a1.length (lm (ik .i64) a1)]=some (.agg [.v (.int .i64 r.fType),.fresh 1 r.fDims.length (lm (ik .i64) r.fDims),.fresh 1 r.fF.length (lm (ik .u32) r.fF),.fresh 1 r.fI.length (lm (ik .i64) r.fI),.fresh 1 r.fB.length (lm (bk) r.fB)]):=λ {a0} {a1} {r} h=>(X0 fu).at H7 (a0,a1) r h
 have F8: ∀ {a0:aV} {a1:List Int} {r},vJ fu a0 a1=some r->cp 56 [.ay (dJ a0) 0,.arr a1.length (lm (ik .i64) a1)]=some (.agg [.v (.int .i64 r.fType),.fresh 1 r.fDims.length (lm (ik .i64) r.fDims),.fresh 1 r.fF.length (lm (ik .u32) r.fF),.fresh 1 r.fI.length (lm (ik .i64) r.fI),.fresh 1 r.fB.length (lm (bk) r.fB)]):=λ {a0} {a1} {r} h=>(X3 fu).at H8 (a0,a1) r h
 have F9: ∀ {a0:aV} {a1:List Int} {r},jm fu a0 a1=some r->cp 57 [.ay (dJ a0) 0,.arr a1.length (lm (ik .i64) a1)]=some (.agg [.v (.int .i64 r.fType),.arr r.fDims.length (lm (ik .i64) r.fDims),.arr r.fF.length (lm (ik .u32) r.fF),.arr r.fI.length (lm (ik .i64) r.fI),.arr r.fB.length (lm (bk) r.fB)]):=λ {a0} {a1} {r} h=>(X4 fu).at H9 (a0,a1) r h
 have F10: ∀ {a0:aV} {a1:List Int} {r},EK fu a0 a1=some r->cp 58 [.ay (dJ a0) 0,.arr a1.length (lm (ik .i64) a1)]=some (.agg [.v (.int .i64 r.fType),.fresh 1 r.fDims.length (lm (ik .i64) r.fDims),.fresh 1 r.fF.length (lm (ik .u32) r.fF),.fresh 1 r.fI.length (lm (ik .i64) r.fI),.fresh 1 r.fB.length (lm (bk) r.fB)]):=λ {a0} {a1} {r} h=>(X5 fu).at H10 (a0,a1) r h
 dsimp only
 unfold eX
 have z0:=Da (aJ Aw.wQ.eq_1)
 have z1:=SE
 have z2:=RL
 exact Wk,Zi⟩
def Zg:TD:=[(0,[4]),(0,[]),(6,[0,1,2,5,6,7,8,9])]
noncomputable abbrev akb(fu:Nat):Cm prog ((List Int)×Int×(List Int)) Int:=⟨46,fun t=>[.arr t.1.length (lm (ik .i64) t.1),.ay [.v (.int .i64 t.2.1)] 0,.ay [.arr t.2.2.length (lm (ik .i64) t.2.2)] 0],fun t=>xn fu t.1 t.2.1 t.2.2,fun r=> .v (.int .i64 r),by
 rintro⟨x1,x2,x3⟩
 refine pT fu Zg Tryz.func46 [.tmp 4] [3] [(yE fu).ct] [47] (λcp H=> ?_)
 obtain⟨H1, -⟩:=H
 unfold xn
 have z0:=Da (aJ Zg.eq_1)
 exact Wk,Zi⟩
def YO:TD:=[(0,[4]),(0,[0,6,7,16,17,18]),(0,[5000005]),(0,[]),(0,[10,11,12,13,14,15]),(0,[]),(0,[]),(0,[]),(0,[1]),(0,[]),(0,[]),(0,[]),(0,[20,21]),(0,[]),(10,[22,23,24,25,26,27,28,29,30,31,32]),(0,[]),(18,[9,33,34,35,36,37,38,39,40,41,42,43,44,45,46,47,48,49,50]),(0,[]),(0,[51]),(0,[]),(0,[5,52])]
noncomputable abbrev XV(fu:Nat):Cm prog (aj×(List Int)×Int×(List Int)) aj:=⟨45,λt=>[.agg (bT t.1),.arr t.2.1.length (lm (ik .i64) t.2.1),.fn 46 [] [.ay [.v (.int .i64 t.2.2.1)] 0,.ay [.arr t.2.2.2.length (lm (ik .i64) t.2.2.2)] 0]],λt=>cO fu t.1 t.2.1 (λy0=>xn fu y0 t.2.2.1 t.2.2.2),λr=> .agg [.v (.int .i64 r.fType),.fresh 1 r.fDims.length (lm (ik .i64) r.fDims),.fresh 1 r.fF.length (lm (ik .u32) r.fF),.fresh 1 r.fI.length (lm (ik .i64) r.fI),.fresh 1 r.fB.length (lm (bk) r.fB)],λt b h=>vM fu t.1 t.2.1 (λy0=>xn fu y0 t.2.2.1 t.2.2.2) 46 [.ay [.v (.int .i64 t.2.2.1)] 0,.ay [.arr t.2.2.2.length (lm (ik .i64) t.2.2.2)] 0] rfl rfl (bK.ay (bK.ay bK.nil)) (λy0 r h=>(akb fu).ok (y0,t.2.2.1,t.2.2.2) r h) b h,Zi⟩
def pX.m1:LJ 1 10 Unit ((List aj)×Int×Int):=⟨λr s e=>[(0,er e 0),(5,.own (0,5,77) 0 s.1.length s.1.length),(6,er e 6),(7,er e 7),(16,er e 16),(17,er e 17),(18,.v (.int .i64 s.2.2))],λr s h=>[((0,5,77),.sl true true 5 s.1.length (fm bT s.1)),((0,15,0),hr h (0,15,0)),((0,6,0),hr h (0,6,0)),((0,7,0),bs (hr h (0,7,0)) 0 (.v (.int .i64 s.2.1)))]⟩
open pX in
noncomputable abbrev XI(fu:Nat):Cm prog (aV×(List aP)) (List aj):=⟨23,fun t=>[.ay (dJ t.1) 0,.arr t.2.length (fm dE t.2)],fun t=>pX fu t.1 t.2,fun r=> .arr r.length (fm bT r),by
 rintro⟨x1,x2⟩
 refine uA fu YO Tryz.func23 [.tmp 4] [31] [(pK fu).ct,(XV fu).ct] [44,45] (λcp H=> ?_)
 obtain⟨H1,H2, -⟩:=H
 have F1: ∀ {a0:List Int} {r},jA fu a0=some r->cp 44 [.arr a0.length (lm (ik .i64) a0)]=some (.fresh 1 r.length (lm (ik .i64) r)):=λ {a0} {r} h=>(pK fu).at H1 a0 r h
 have F2: ∀ {a0:aj} {a1:List Int} {c2:Int} {c3:List Int} {r},cO fu a0 a1 (λy0=>xn fu y0 c2 c3)=some r->cp 45 [.agg (bT a0),.arr a1.length (lm (ik .i64) a1),.fn 46 [] [.ay [.v (.int .i64 c2)] 0,.ay [.arr c3.length (lm (ik .i64) c3)] 0]]=some (.agg [.v (.int .i64 r.fType),.fresh 1 r.fDims.length (lm (ik .i64) r.fDims),.fresh 1 r.fF.length (lm (ik .u32) r.fF),.fresh 1 r.fI.length (lm (ik .i64) r.fI),.fresh 1 r.fB.length (lm (bk) r.fB)]):=λ {a0} {a1} {c2} {c3} {r} h=>(XV fu).at H2 (a0,a1,c2,c3) r h
 unfold pX
 have z0:=Da (aJ YO.eq_1)
 have z1:=SE
 exact Wk,Zi⟩
def aly:=Da (aJ Aw.wQ.eq_1)
noncomputable def GX:Code:=az Tryz.f24
theorem apw{C:bG}{cp:aC}{ci:bz}{lvl:Nat}{prot:List Id}{D:List (Nat×List Nat)}{n:Nat}{K:KK}{e:Env}{h:Heap}{fs:List Fr}:go prog C cp ci lvl prot D n K GX e h fs=go prog C cp ci lvl prot D n K (az Tryz.f24) e h fs:=rfl
theorem aq1:aN prog 24 wQ=some ⟨GX,[.cell 6 28],[28]⟩:=fA Tryz.func24
def Bd:TD:=[(0,[]),(0,[0,6,21,22,23]),(1766847064778384329583316500264203817565420549730204426942382828014176368,[9,10,11,12,13,14,15,16,17,18]),(0,[]),(0,[1,19,20]),(0,[7,8]),(0,[]),(0,[]),(0,[25,26,27]),(0,[]),(9,[28,29,30,31,32,33,34,35,36]),(0,[]),(0,[38,39,40]),(0,[]),(9,[41,42,43,44,45,46,47,48,49]),(0,[]),(0,[51,52,53,54,55,56,57,58,59,60,61]),(0,[]),(12,[62,63,64,65,66,67,68,69,70,71,72,73]),(0,[]),(0,[75,76,77,78,79,80,81,82,83,84,85]),(0,[]),(12,[86,87,88,89,90,91,92,93,94,95,96,97]),(0,[]),(0,[99,100,101]),(0,[]),(9,[102,103,104,105,106,107,108,109,110]),(0,[]),(0,[112,113,114,115,116,117]),(0,[]),(15,[118,119,120,121,122,123,124,125,126,127,128,129,130,131,132]),(0,[]),(0,[134,135,136,137,138,139]),(0,[]),(15,[140,141,142,143,144,145,146,147,148,149,150,151,152,153,154]),(0,[]),(0,[155]),(0,[]),(0,[5,156])]
def alC:=Da (aJ Bd.eq_1)
noncomputable def PK:Code:=az Tryz.f54
theorem apB{C:bG}{cp:aC}{ci:bz}{lvl:Nat}{prot:List Id}{D:List (Nat×List Nat)}{n:Nat}{K:KK}{e:Env}{h:Heap}{fs:List Fr}:go prog C cp ci lvl prot D n K PK e h fs=go prog C cp ci lvl prot D n K (az Tryz.f54) e h fs:=rfl
theorem i54:aN prog 54 Bd=some ⟨PK,[.cell 4 28],[28]⟩:=fA Tryz.func54
end Go.Av
