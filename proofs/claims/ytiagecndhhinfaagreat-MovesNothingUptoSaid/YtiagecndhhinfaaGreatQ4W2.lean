/- The walks of the plain functions. Made by a program of mine. Conditions: none. -/
import Derived.Test.YtiagecndhhinfaaGreatQ4W1
set_option linter.unusedVariables false
set_option linter.unusedSimpArgs false
set_option linter.defProp false
set_option maxRecDepth 20000
set_option maxHeartbeats 20000000
open Go Go.Proofs
open Tryz (prog)
namespace Go.Av
open Aw (wM wO wP Ba yG yH yI Bc yJ yK yL yM wQ yN yO yP yQ yR yS yT)
def e87:(Int×Int×Int×Int)->AV:=λr=> .tuple [.v (.int .i64 r.1),.v (.int .i64 r.2.1),.v (.int .i64 r.2.2.1),.v (.int .i64 r.2.2.2)]
theorem avx(fu:Nat)(x1:Int)(r)(h:zD fu x1=some r):bH prog 87 [.v (.int .i64 x1)] (e87 r):=by
  unfold zD at h
  by_cases hx:x1=45
  · rw[mW hx]at h;injection h with h;subst h
    obtain rfl:=hx
    exact akK
  rw[mV hx]at h;clear hx
  by_cases hx:x1=46
  · rw[mW hx]at h;injection h with h;subst h
    obtain rfl:=hx
    exact akL
  rw[mV hx]at h;clear hx
  by_cases hx:x1=47
  · rw[mW hx]at h;injection h with h;subst h
    obtain rfl:=hx
    exact akM
  rw[mV hx]at h;clear hx
  by_cases hx:x1=48
  · rw[mW hx]at h;injection h with h;subst h
    obtain rfl:=hx
    exact akN
  rw[mV hx]at h;clear hx
  by_cases hx:x1=49
  · rw[mW hx]at h;injection h with h;subst h
    obtain rfl:=hx
    exact akO
  rw[mV hx]at h;clear hx
  by_cases hx:x1=50
  · rw[mW hx]at h;injection h with h;subst h
    obtain rfl:=hx
    exact akP
  rw[mV hx]at h;clear hx
  by_cases hx:x1=51
  · rw[mW hx]at h;injection h with h;subst h
    obtain rfl:=hx
    exact akQ
  rw[mV hx]at h;clear hx
  by_cases hx:x1=52
  · rw[mW hx]at h;injection h with h;subst h
    obtain rfl:=hx
    exact akR
  rw[mV hx]at h;clear hx
  by_cases hx:x1=53
  · rw[mW hx]at h;injection h with h;subst h
    obtain rfl:=hx
    exact akS
  rw[mV hx]at h;clear hx
  by_cases hx:x1=54
  · rw[mW hx]at h;injection h with h;subst h
    obtain rfl:=hx
    exact akT
  rw[mV hx]at h;clear hx
  by_cases hx:x1=55
  · rw[mW hx]at h;injection h with h;subst h
    obtain rfl:=hx
    exact akU
  rw[mV hx]at h;clear hx
  by_cases hx:x1=56
  · rw[mW hx]at h;injection h with h;subst h
    obtain rfl:=hx
    exact akV
  rw[mV hx]at h;clear hx
  by_cases hx:x1=57
  · rw[mW hx]at h;injection h with h;subst h
    obtain rfl:=hx
    exact akW
  rw[mV hx]at h;clear hx
  by_cases hx:x1=58
  · rw[mW hx]at h;injection h with h;subst h
    obtain rfl:=hx
    exact akX
  rw[mV hx]at h;clear hx
  by_cases hx:x1=59
  · rw[mW hx]at h;injection h with h;subst h
    obtain rfl:=hx
    exact akY
  rw[mV hx]at h;clear hx
  by_cases hx:x1=60
  · rw[mW hx]at h;injection h with h;subst h
    obtain rfl:=hx
    exact akZ
  rw[mV hx]at h;clear hx
  by_cases hx:x1=62
  · rw[mW hx]at h;injection h with h;subst h
    obtain rfl:=hx
    exact ak0
  rw[mV hx]at h;clear hx
  by_cases hx:x1=63
  · rw[mW hx]at h;injection h with h;subst h
    obtain rfl:=hx
    exact ak1
  rw[mV hx]at h;clear hx
  by_cases hx:x1=64
  · unfold chk at h;rw[if_pos hx]at h;injection h with h;subst h
    obtain rfl:=hx
    exact ak2
  unfold chk at h;rw[if_neg hx]at h;cases h
noncomputable abbrev yC(fu:Nat):Cm prog (bf×Int) aP:=⟨104,fun t=>[.agg (ig t.1),.v (.int .i64 t.2)],fun t=>oN fu t.1 t.2,fun r=> .agg [.v (.int .i64 r.fType),.arr r.fDims.length (lm (ik .i64) r.fDims),.v (.bool r.fConst),.v (.int .i64 r.fT.fType),.arr r.fT.fDims.length (lm (ik .i64) r.fT.fDims),.arr r.fT.fF.length (lm (ik .u32) r.fT.fF),.arr r.fT.fI.length (lm (ik .i64) r.fT.fI),.arr r.fT.fB.length (lm (bk) r.fT.fB)],by
 rintro⟨x1,x2⟩
 refine uA fu Aw.Ig Tryz.func104 [.cell 4 60] [60] [] [] (λcp H=> ?_)
 unfold oN
 have z0:=Da (aJ Aw.Ig.eq_1)
 have z1:=SE
 exact Wk,Zi⟩
noncomputable abbrev wK(fu:Nat):Cm prog (bf×Int) Bool:=⟨88,fun t=>[.agg (ig t.1),.v (.int .i64 t.2)],fun t=>nS fu t.1 t.2,fun r=> .v (.bool r),by
 rintro⟨x1,x2⟩
 refine pT fu Aw.JG Tryz.func88 [.tmp 4] [4] [(yC fu).ct] [104] (λcp H=> ?_)
 obtain⟨H1, -⟩:=H
 unfold nS
 have z0:=Da (aJ Aw.JG.eq_1)
 exact Wk,Zi⟩
noncomputable abbrev ako(fu:Nat):Cm prog Int (Int×Int×Int×Int):=⟨87,λt=>[.v (.int .i64 t)],λt=>zD fu t,λr=> .tuple [.v (.int .i64 r.1),.v (.int .i64 r.2.1),.v (.int .i64 r.2.2.1),.v (.int .i64 r.2.2.2)],λt b h=>avx fu t b h,Zi⟩
def kR.m1:LJ 1 10 Unit Int:=⟨λr s e=>[(1,er e 1),(49,er e 49),(50,.v (.int .i64 s))],λr s h=>[((0,1,0),hr h (0,1,0))]⟩
def kR.j1:LJ 1 8 Unit Unit:=⟨λr t e=>[(1,er e 1),(3,er e 3)],λr t h=>[((0,1,0),hr h (0,1,0))]⟩
open kR in
noncomputable abbrev aj3(fu:Nat):Cm prog bf Bool:=⟨38,fun t=>[.agg (ig t)],kR fu,fun r=> .v (.bool r),by
 rintro x1
 refine pT fu Aw.Je Tryz.func38 [.tmp 2] [4] [(ako fu).ct,(wK fu).ct] [87,88] (λcp H=> ?_)
 obtain⟨H1,H2, -⟩:=H
 unfold kR
 have z0:=Da (aJ Aw.Je.eq_1)
 exact Wk,Zi⟩
def eU.j5:LJ 5 210 Unit Bool:=⟨λr t e=>[(3,er e 3),(4,er e 4),(13,er e 13),(18,er e 18),(31,er e 31),(36,er e 36),(45,.v (.bool t))],λr t h=>[]⟩
def eU.j4:LJ 4 170 Unit Bool:=⟨λr t e=>[(3,er e 3),(4,er e 4),(13,er e 13),(18,er e 18),(31,er e 31),(36,.v (.bool t))],λr t h=>[]⟩
def eU.j3:LJ 3 114 Int Unit:=⟨λr t e=>[(3,er e 3),(4,er e 4),(13,er e 13),(18,.v (.bool (decide (r=43))))],λr t h=>[]⟩
def eU.j2:LJ 2 62 Int Unit:=⟨λr t e=>[(3,er e 3),(4,er e 4),(13,.v (.bool (decide (r=25))))],λr t h=>[]⟩
def eU.j1:LJ 1 42 Int Unit:=⟨λr t e=>[(3,er e 3),(4,.v (.bool (decide (r=71))))],λr t h=>[]⟩
open eU in
noncomputable abbrev ajm(fu:Nat):Cm prog Int ByteArray:=⟨177,fun t=>[.v (.int .i64 t)],eU fu,fun r=> .v (.string r),by
 rintro x1
 refine pT fu Aw.Iy Tryz.func177 [.tmp 2] [9] [] [] (λcp H=> ?_)
 unfold eU
 have z0:=Da (aJ Aw.Iy.eq_1)
 exact Wk,Zi⟩
def ru.j1:LJ 1 0 Unit Bool:=⟨λr t e=>[(1,er e 1),(3,er e 3),(6,.v (.bool t)),(7,er e 7),(12,er e 12)],λr t h=>[((0,3,0),hr h (0,3,0))]⟩
open ru in
noncomputable abbrev ajn(fu:Nat):Cm prog (bf×Int×Int) Bool:=⟨178,fun t=>[.agg (ig t.1),.v (.int .i64 t.2.1),.v (.int .u8 t.2.2)],fun t=>ru fu t.1 t.2.1 t.2.2,fun r=> .v (.bool r),by
 rintro⟨x1,x2,x3⟩
 refine pT fu Aw.Iz Tryz.func178 [.tmp 6] [4] [(yC fu).ct,(QT fu).ct] [104,77] (λcp H=> ?_)
 obtain⟨H1,H2, -⟩:=H
 unfold ru
 have z0:=Da (aJ Aw.Iz.eq_1)
 exact Wk,Zi⟩
def kS.m1:LJ 1 6 Unit Int:=⟨λr s e=>[(1,er e 1),(3,er e 3),(10,er e 10),(11,.v (.int .i64 s))],λr s h=>[((0,1,0),hr h (0,1,0))]⟩
def kS.j1:LJ 1 16 Unit Unit:=⟨λr t e=>[(1,er e 1)],λr t h=>[((0,1,0),hr h (0,1,0))]⟩
open kS in
noncomputable abbrev akp(fu:Nat):Cm prog bf Bool:=⟨89,fun t=>[.agg (ig t)],kS fu,fun r=> .v (.bool r),by
 rintro x1
 refine pT fu Aw.JH Tryz.func89 [.tmp 2] [4] [(ajm fu).ct,(wK fu).ct,(yC fu).ct,(QT fu).ct,(ajn fu).ct] [177,88,104,77,178] (λcp H=> ?_)
 obtain⟨H1,H2,H3,H4,H5, -⟩:=H
 unfold kS
 have z0:=Da (aJ Aw.JH.eq_1)
 exact Wk,Zi⟩
noncomputable abbrev qO(fu:Nat):Cm prog (bf×Int) (List Int):=⟨92,fun t=>[.agg (ig t.1),.v (.int .i64 t.2)],fun t=>jk fu t.1 t.2,fun r=> .arr r.length (lm (ik .i64) r),by
 rintro⟨x1,x2⟩
 refine pT fu Aw.JJ Tryz.func92 [.tmp 4] [22] [(yC fu).ct] [104] (λcp H=> ?_)
 obtain⟨H1, -⟩:=H
 unfold jk
 have z0:=Da (aJ Aw.JJ.eq_1)
 exact Wk,Zi⟩
noncomputable abbrev XH(fu:Nat):Cm prog bf Int:=⟨179,fun t=>[.agg (ig t)],Bv fu,fun r=> .v (.int .i64 r),by
 rintro x1
 refine pT fu Aw.IA Tryz.func179 [.tmp 2] [3] [(qO fu).ct] [92] (λcp H=> ?_)
 obtain⟨H1, -⟩:=H
 unfold Bv
 have z0:=Da (aJ Aw.IA.eq_1)
 exact Wk,Zi⟩
def jF.m1:LJ 1 12 Unit ((List Bool)×Bool×Int):=⟨λr s e=>[(1,er e 1),(6,.own (0,19,0) 0 s.1.length s.1.length),(7,.v (.bool s.2.1)),(20,er e 20),(21,er e 21),(22,.v (.int .i64 s.2.2))],λr s h=>[((0,19,0),.sl true true 1 s.1.length (lm (bk) s.1))]⟩
def jF.j2:LJ 2 28 Unit ((List Bool)×Bool):=⟨λr t e=>[(6,.own (0,19,0) 0 t.1.length t.1.length),(7,.v (.bool t.2))],λr t h=>[((0,19,0),.sl true true 1 t.1.length (lm (bk) t.1))]⟩
def jF.j1:LJ 1 6 Unit Unit:=⟨λr t e=>[(0,er e 0),(1,er e 1)],λr t h=>[]⟩
open jF in
noncomputable abbrev QP(fu:Nat):Cm prog ((List Int)×Int) ((List Bool)×Int):=⟨180,fun t=>[.arr t.1.length (lm (ik .i64) t.1),.v (.int .i64 t.2)],fun t=>jF fu t.1 t.2,fun r=> .tuple [.fresh 1 r.1.length (lm (bk) r.1),.v (.int .i64 r.2)],by
 rintro⟨x1,x2⟩
 refine pT fu Aw.IC Tryz.func180 [.tmp 4,.tmp 5] [26,34] [(uf fu).ct] [21] (λcp H=> ?_)
 obtain⟨H1, -⟩:=H
 unfold jF
 have z0:=Da (aJ Aw.IC.eq_1)
 exact Wk,Zi⟩
def Yy:TD:=zz [[2],[],[0,3,4]]
noncomputable abbrev ajo(fu:Nat):Cm prog Int Bool:=⟨181,fun t=>[.v (.int .i64 t)],Bq fu,fun r=> .v (.bool r),by
 rintro x1
 refine pT fu Yy Tryz.func181 [.tmp 2] [4] [] [] (λcp H=> ?_)
 unfold Bq
 have z0:=Da (aJ Yy.eq_1)
 exact Wk,Zi⟩
noncomputable abbrev akd(fu:Nat):Cm prog (List Int) Bool:=⟨78,λt=>[.arr t.length (lm (ik .i64) t),.fn 181 [] []],λt=>kY fu t (λy0=>Bq fu y0),λr=> .v (.bool r),λt b h=>EU fu t (λy0=>Bq fu y0) 181 [] bK.nil (λy0 r h=>(ajo fu).ok y0 r h) b h,Zi⟩
def kQ.j2:LJ 2 136 bf Unit:=⟨λr t e=>[(1,er e 1),(3,er e 3),(4,er e 4),(17,er e 17),(58,er e 58),(99,er e 99),(131,.v (.bool (decide (r.fop=69))))],λr t h=>[((0,1,0),hr h (0,1,0)),((0,3,0),hr h (0,3,0))]⟩
def kQ.j1:LJ 1 104 Unit Bool:=⟨λr t e=>[(1,er e 1),(3,er e 3),(4,er e 4),(17,er e 17),(58,er e 58),(99,.v (.bool t))],λr t h=>[((0,1,0),hr h (0,1,0)),((0,3,0),hr h (0,3,0))]⟩
open kQ in
noncomputable abbrev akq(fu:Nat):Cm prog bf Bool:=⟨90,fun t=>[.agg (ig t)],kQ fu,fun r=> .v (.bool r),by
 rintro x1
 refine pT fu Aw.JI Tryz.func90 [.tmp 2] [4] [(XH fu).ct,(wJ fu).ct,(QP fu).ct,(akd fu).ct,(uf fu).ct] [179,17,180,78,21] (λcp H=> ?_)
 obtain⟨H1,H2,H3,H4,H5, -⟩:=H
 unfold kQ
 have z0:=Da (aJ Aw.JI.eq_1)
 exact Wk,Zi⟩
def iM.m1:LJ 1 36 Unit ((List aP)×Int):=⟨λr s e=>[(1,er e 1),(4,er e 4),(5,.own (0,5,77) 0 s.1.length s.1.length),(6,.v (.int .i64 s.2))],λr s h=>[((0,1,0),hr h (0,1,0)),((0,5,77),.sl true true 8 s.1.length (fm dE s.1))]⟩
def iM.j1:LJ 1 32 Unit (Int×Int):=⟨λr t e=>[(1,er e 1),(3,.v (.int .i64 t.1)),(4,.v (.int .i64 t.2))],λr t h=>[((0,1,0),hr h (0,1,0))]⟩
open iM in
noncomputable abbrev ajp(fu:Nat):Cm prog bf (List aP):=⟨184,fun t=>[.agg (ig t)],iM fu,fun r=> .fresh 8 r.length (fm dE r),by
 rintro x1
 refine pT fu Aw.IE Tryz.func184 [.tmp 2] [50] [(wK fu).ct,(yC fu).ct] [88,104] (λcp H=> ?_)
 obtain⟨H1,H2, -⟩:=H
 unfold iM
 have z0:=Da (aJ Aw.IE.eq_1)
 exact Wk,Zi⟩
def qR:=Da (aJ Aw.yM.eq_1)
theorem SK:aN prog 239 yM=some ⟨az Tryz.f239,[.tmp 4],[3]⟩:=fA Tryz.func239
def JX:Int->AV:=λr=> .v (.int .i64 r)
set_option maxHeartbeats 20000000 in
theorem aAF(cp:aC)(fu:Nat)(x1:List aP)(p1:aP→Option Bool)(fv_p1:FuncId)(ca_p1:List AV)(cap_p1:bK ca_p1)(hp_p1: ∀ (y0:aP) r,p1 y0=some r→cp fv_p1 ((.agg (dE y0))::ca_p1)=some (.v (.bool r))):J (go prog oQ cp fH 0 [] yM fu (fin prog [.tmp 4] [3]) (az Tryz.f239) (bW 0 [.arr x1.length (fm dE x1),.fn fv_p1 [] ca_p1]) [] []) (oq fu x1 p1) JX:=by
 unfold oq JX
 have da:=qR
 have c4_p1:=λg=>(cap_p1.1 g).1;have c3_p1:=λg=>(cap_p1.1 g).2.1;have b4_p1:=λg=>(cap_p1.1 g).2.2.1;have b3_p1:=λg=>(cap_p1.1 g).2.2.2;have nm_p1:=cap_p1.2
 conv=>arg 1;simp (disch:=first|exact Zd|fail) only[az,Tryz.f239,ZZ,qR,simprocAttr,c4_p1,c3_p1,b4_p1,b3_p1,nm_p1]
 refine J.eq gG ?_
 conv=>arg 1;simp (disch:=first|exact Zd|fail) only[ZZ,qR,simprocAttr,c4_p1,c3_p1,b4_p1,b3_p1,nm_p1]
 unfold oq.W1
 refine J.loop (λ(s:Int)=>([(0,.arr x1.length (fm dE x1)),(1,.fn fv_p1 [] ca_p1),(7,.v (.int .i64 (x1.length:Int))),(8,.v (.int .i64 s))],[])) (λnext s=>oq.L1 fu p1 x1 next s) (s0:=0) ?_ ?_ ?_
 ·exact Ze
 ·exact Zh
 rintro nx1 k1 hn1 x4
 show J _ (oq.L1 fu p1 x1 nx1 x4) _
 unfold oq.L1
 conv=>arg 1;simp (disch:=first|exact Zd|fail) only[ZZ,qR,simprocAttr,c4_p1,c3_p1,b4_p1,b3_p1,nm_p1]
 refine J.eq gG ?_
 conv=>arg 1;simp (disch:=first|exact Zd|fail) only[ZZ,qR,simprocAttr,c4_p1,c3_p1,b4_p1,b3_p1,nm_p1]
 refine J.ite (λh1=> ?_) (λh1=> ?_)
 ·have h1':=decide_eq_true h1
  have h1'':decide ((x1.length:Int)<=x4)=false:=decide_eq_false ae
  conv=>arg 1;simp (disch:=first|exact Zd|fail) only[ZZ,qR,simprocAttr,c4_p1,c3_p1,b4_p1,b3_p1,nm_p1,h1'',h1']
  refine J.eq gq ?_
  refine J.eq gG ?_
  refine J.at λx7 h2 h3 h4=> ?_
  refine J.bind λx8 h5=> ?_
  have e_h5:=hp_p1 _ _ h5
  try simp only[NN,NT,LN,simprocAttr,DT]at e_h5
  conv=>arg 1;simp (disch:=first|exact Zd|fail) only[ZZ,qR,simprocAttr,c4_p1,c3_p1,b4_p1,b3_p1,nm_p1,h1'',h1',yY jr h4,Bl jr h4,yX jr h4,Ee jr h4,e_h5]
  refine J.ite (λh6=> ?_) (λh6=> ?_)
  ·have h6':x8=true:=h6
   refine J.some ?_
   simp (maxSteps:=20000000) (disch:=first|exact Zd|fail) only[ZZ,qR,simprocAttr,c4_p1,c3_p1,b4_p1,b3_p1,nm_p1,h1'',h1',yY jr h4,Bl jr h4,yX jr h4,Ee jr h4,e_h5,h6',FN]
  ·have h6':x8=false:=Bool.eq_false_iff.2 h6
   conv=>arg 1;simp (disch:=first|exact Zd|fail) only[ZZ,qR,simprocAttr,c4_p1,c3_p1,b4_p1,b3_p1,nm_p1,h1'',h1',yY jr h4,Bl jr h4,yX jr h4,Ee jr h4,e_h5,h6']
   refine J.eq gq ?_
   conv=>arg 1;simp (disch:=first|exact Zd|fail) only[ZZ,qR,simprocAttr,c4_p1,c3_p1,b4_p1,b3_p1,nm_p1,h1'',h1',yY jr h4,Bl jr h4,yX jr h4,Ee jr h4,e_h5,h6']
   refine J.next (s:=wk .i64 (x4+1)) hn1 ?_ ?_
   ·exact Ze
   ·exact Zh
 ·have h1':=decide_eq_false h1
  have h1'':decide ((x1.length:Int)<=x4)=true:=decide_eq_true ae
  conv=>arg 1;simp (disch:=first|exact Zd|fail) only[ZZ,qR,simprocAttr,c4_p1,c3_p1,b4_p1,b3_p1,nm_p1,h1'',h1']
  refine J.eq gq ?_
  refine J.some ?_
  simp (maxSteps:=20000000) (disch:=first|exact Zd|fail) only[ZZ,qR,simprocAttr,c4_p1,c3_p1,b4_p1,b3_p1,nm_p1,h1'',h1',FN]
noncomputable def adt(fu:Nat)(x1:List aP)(p1:aP->Option Bool)(fv_p1:FuncId)(ca_p1:List AV):aC:=iI fv_p1 (iU (λ(t:aP)=>((.agg (dE t))::ca_p1:List AV)) (λt=>p1 t) (λr=> .v (.bool r))) (nX)
theorem azH(fu:Nat)(x1:List aP)(p1:aP->Option Bool)(fv_p1:FuncId)(ca_p1:List AV)(cap_p1:bK ca_p1)(hp_p1: ∀ (y0:aP) r,p1 y0=some r->bH prog fv_p1 ((.agg (dE y0))::ca_p1) (.v (.bool r))):aK prog (adt fu x1 p1 fv_p1 ca_p1):=jO (oU) (jL (λt b h=>hp_p1 t b h))
theorem avr(fu:Nat)(x1:List aP)(p1:aP→Option Bool)(fv_p1:FuncId)(ca_p1:List AV)(cap_p1:bK ca_p1)(hp_p1: ∀ (y0:aP) r,p1 y0=some r→bH prog fv_p1 ((.agg (dE y0))::ca_p1) (.v (.bool r)))(r)(h:oq fu x1 p1=some r):bH prog 239 [.arr x1.length (fm dE x1),.fn fv_p1 [] ca_p1] (JX r):=
  qg mixed (cp:=adt fu x1 p1 fv_p1 ca_p1) (azH fu x1 p1 fv_p1 ca_p1 cap_p1 hp_p1) eY SK (aAF _ fu x1 p1 fv_p1 ca_p1 cap_p1 (λy0 r h=>jM (jK (a:=y0) (by intro a b h;first|(exact rfl)|(simp only[iY,IJ]at h;first|exact h|(simp_all [Prod.ext_iff]))) h))) h
def Yz:=Da (aJ Aw.yK.eq_1)
theorem SH:aN prog 185 yK=some ⟨az Tryz.f185,[.tmp 4],[4]⟩:=fA Tryz.func185
def e185:Bool->AV:=λr=> .v (.bool r)
set_option maxHeartbeats 20000000 in
theorem aAD(cp:aC)(fu:Nat)(x1:List aP)(p1:aP→Option Bool)(fv_p1:FuncId)(ca_p1:List AV)(cap_p1:bK ca_p1)(hp_p1: ∀ (y0:aP) r,p1 y0=some r→cp fv_p1 ((.agg (dE y0))::ca_p1)=some (.v (.bool r)))(H239_0: ∀ (a0:List aP) r,oq fu a0 p1=some r→cp 239 [.arr a0.length (fm dE a0),.fn fv_p1 [] ca_p1]=some (.v (.int .i64 r))):J (go prog oQ cp fH 0 [] yK fu (fin prog [.tmp 4] [4]) (az Tryz.f185) (bW 0 [.arr x1.length (fm dE x1),.fn fv_p1 [] ca_p1]) [] []) (qi fu x1 p1) e185:=by
 unfold qi e185
 have da:=Yz
 have c4_p1:=λg=>(cap_p1.1 g).1;have c3_p1:=λg=>(cap_p1.1 g).2.1;have b4_p1:=λg=>(cap_p1.1 g).2.2.1;have b3_p1:=λg=>(cap_p1.1 g).2.2.2;have nm_p1:=cap_p1.2
 refine J.bind λx2 h1=> ?_
 have e_h1:=H239_0 _ _ h1
 try simp only[NN,NT,LN,simprocAttr,DT]at e_h1
 refine J.some ?_
 simp (maxSteps:=20000000) (disch:=first|exact Zd|fail) only[az,Tryz.f185,ZZ,Yz,simprocAttr,c4_p1,c3_p1,b4_p1,b3_p1,nm_p1,e_h1,FN]
noncomputable def adr(fu:Nat)(x1:List aP)(p1:aP->Option Bool)(fv_p1:FuncId)(ca_p1:List AV):aC:=iI 239 (iU (λ(t:List aP)=>([.arr t.length (fm dE t),.fn fv_p1 [] ca_p1]:List AV)) (λt=>oq fu t p1) JX) (iI fv_p1 (iU (λ(t:aP)=>((.agg (dE t))::ca_p1:List AV)) (λt=>p1 t) (λr=> .v (.bool r))) (nX))
theorem azF(fu:Nat)(x1:List aP)(p1:aP->Option Bool)(fv_p1:FuncId)(ca_p1:List AV)(cap_p1:bK ca_p1)(hp_p1: ∀ (y0:aP) r,p1 y0=some r->bH prog fv_p1 ((.agg (dE y0))::ca_p1) (.v (.bool r))):aK prog (adr fu x1 p1 fv_p1 ca_p1):=jO (jO (oU) (jL (λt b h=>hp_p1 t b h))) (jL (λt b h=>avr fu t p1 fv_p1 ca_p1 cap_p1 hp_p1 b h))
theorem Ua(fu:Nat)(x1:List aP)(p1:aP→Option Bool)(fv_p1:FuncId)(ca_p1:List AV)(cap_p1:bK ca_p1)(hp_p1: ∀ (y0:aP) r,p1 y0=some r→bH prog fv_p1 ((.agg (dE y0))::ca_p1) (.v (.bool r)))(r)(h:qi fu x1 p1=some r):bH prog 185 [.arr x1.length (fm dE x1),.fn fv_p1 [] ca_p1] (e185 r):=
  qg mixed (cp:=adr fu x1 p1 fv_p1 ca_p1) (azF fu x1 p1 fv_p1 ca_p1 cap_p1 hp_p1) eY SH (aAD _ fu x1 p1 fv_p1 ca_p1 cap_p1 (λy0 r h=>EX (λhfv=>zt (by intro t h;simp at h)) (jM (jK (a:=y0) (by intro a b h;first|(exact rfl)|(simp only[iY,IJ]at h;first|exact h|(simp_all [Prod.ext_iff]))) h))) (λa0 r h=>jM (jK (a:=a0) (by intro a b h;first|(exact rfl)|(simp only[iY,IJ]at h;first|exact h|(simp_all [Prod.ext_iff]))) h))) h
def slices_Equal_int.m1:LJ 1 8 Unit Int:=⟨λr s e=>[(0,er e 0),(1,er e 1),(12,er e 12),(13,.v (.int .i64 s))],λr s h=>[]⟩
open slices_Equal_int in
noncomputable abbrev QQ(fu:Nat):Cm prog ((List Int)×(List Int)) Bool:=⟨193,fun t=>[.arr t.1.length (lm (ik .i64) t.1),.arr t.2.length (lm (ik .i64) t.2)],fun t=>slices_Equal_int fu t.1 t.2,fun r=> .v (.bool r),by
 rintro⟨x1,x2⟩
 refine pT fu Aw.IQ Tryz.func193 [.tmp 4] [4] [] [] (λcp H=> ?_)
 unfold slices_Equal_int
 have z0:=Da (aJ Aw.IQ.eq_1)
 exact Wk,Zi⟩
noncomputable abbrev ajr(fu:Nat):Cm prog aP Bool:=⟨187,fun t=>[.agg (dE t)],Eu fu,fun r=> .v (.bool r),by
 rintro x1
 refine pT fu Aw.II Tryz.func187 [.tmp 2] [4] [(wJ fu).ct,(QQ fu).ct] [17,193] (λcp H=> ?_)
 obtain⟨H1,H2, -⟩:=H
 unfold Eu
 have z0:=Da (aJ Aw.II.eq_1)
 exact Wk,Zi⟩
noncomputable abbrev ajq(fu:Nat):Cm prog aP Bool:=⟨186,fun t=>[.agg (dE t)],y7 fu,fun r=> .v (.bool r),by
 rintro x1
 refine pT fu Aw.IG Tryz.func186 [.tmp 2] [4] [(ajr fu).ct] [187] (λcp H=> ?_)
 obtain⟨H1, -⟩:=H
 unfold y7
 have z0:=Da (aJ Aw.IG.eq_1)
 exact Wk,Zi⟩
noncomputable abbrev ajs(fu:Nat):Cm prog aP Bool:=⟨188,fun t=>[.agg (dE t)],y8 fu,fun r=> .v (.bool r),by
 rintro x1
 refine pT fu Aw.IK Tryz.func188 [.tmp 2] [4] [] [] (λcp H=> ?_)
 unfold y8
 have z0:=Da (aJ Aw.IK.eq_1)
 exact Wk,Zi⟩
def qU:=Da (aJ Aw.yN.eq_1)
theorem SL:aN prog 240 yN=some ⟨az Tryz.f240,[.tmp 4],[3]⟩:=fA Tryz.func240
def e240:Int->AV:=λr=> .v (.int .i64 r)
set_option maxHeartbeats 20000000 in
theorem aAG(cp:aC)(fu:Nat)(x1:List Int)(p1:Int→Option Bool)(fv_p1:FuncId)(ca_p1:List AV)(cap_p1:bK ca_p1)(hp_p1: ∀ (y0:Int) r,p1 y0=some r→cp fv_p1 ((.v (.int .i64 y0))::ca_p1)=some (.v (.bool r))):J (go prog oQ cp fH 0 [] yN fu (fin prog [.tmp 4] [3]) (az Tryz.f240) (bW 0 [.arr x1.length (lm (ik .i64) x1),.fn fv_p1 [] ca_p1]) [] []) (ou fu x1 p1) e240:=by
 unfold ou e240
 have da:=qU
 have c4_p1:=λg=>(cap_p1.1 g).1;have c3_p1:=λg=>(cap_p1.1 g).2.1;have b4_p1:=λg=>(cap_p1.1 g).2.2.1;have b3_p1:=λg=>(cap_p1.1 g).2.2.2;have nm_p1:=cap_p1.2
 conv=>arg 1;simp (disch:=first|exact Zd|fail) only[az,Tryz.f240,ZZ,qU,simprocAttr,c4_p1,c3_p1,b4_p1,b3_p1,nm_p1]
 refine J.eq gG ?_
 conv=>arg 1;simp (disch:=first|exact Zd|fail) only[ZZ,qU,simprocAttr,c4_p1,c3_p1,b4_p1,b3_p1,nm_p1]
 unfold ou.W1
 refine J.loop (λ(s:Int)=>([(0,.arr x1.length (lm (ik .i64) x1)),(1,.fn fv_p1 [] ca_p1),(7,.v (.int .i64 (x1.length:Int))),(8,.v (.int .i64 s))],[])) (λnext s=>ou.L1 fu p1 x1 next s) (s0:=0) ?_ ?_ ?_
 ·exact Ze
 ·exact Zh
 rintro nx1 k1 hn1 x4
 show J _ (ou.L1 fu p1 x1 nx1 x4) _
 unfold ou.L1
 conv=>arg 1;simp (disch:=first|exact Zd|fail) only[ZZ,qU,simprocAttr,c4_p1,c3_p1,b4_p1,b3_p1,nm_p1]
 refine J.eq gG ?_
 conv=>arg 1;simp (disch:=first|exact Zd|fail) only[ZZ,qU,simprocAttr,c4_p1,c3_p1,b4_p1,b3_p1,nm_p1]
 refine J.ite (λh1=> ?_) (λh1=> ?_)
 ·have h1':=decide_eq_true h1
  have h1'':decide ((x1.length:Int)<=x4)=false:=decide_eq_false ae
  conv=>arg 1;simp (disch:=first|exact Zd|fail) only[ZZ,qU,simprocAttr,c4_p1,c3_p1,b4_p1,b3_p1,nm_p1,h1'',h1']
  refine J.eq gq ?_
  refine J.eq gG ?_
  refine J.at λx7 h2 h3 h4=> ?_
  refine J.bind λx8 h5=> ?_
  have e_h5:=hp_p1 _ _ h5
  try simp only[NN,NT,LN,simprocAttr,DT]at e_h5
  conv=>arg 1;simp (disch:=first|exact Zd|fail) only[ZZ,qU,simprocAttr,c4_p1,c3_p1,b4_p1,b3_p1,nm_p1,h1'',h1',fD h4,e_h5]
  refine J.ite (λh6=> ?_) (λh6=> ?_)
  ·have h6':x8=true:=h6
   refine J.some ?_
   simp (maxSteps:=20000000) (disch:=first|exact Zd|fail) only[ZZ,qU,simprocAttr,c4_p1,c3_p1,b4_p1,b3_p1,nm_p1,h1'',h1',fD h4,e_h5,h6',FN]
  ·have h6':x8=false:=Bool.eq_false_iff.2 h6
   conv=>arg 1;simp (disch:=first|exact Zd|fail) only[ZZ,qU,simprocAttr,c4_p1,c3_p1,b4_p1,b3_p1,nm_p1,h1'',h1',fD h4,e_h5,h6']
   refine J.eq gq ?_
   conv=>arg 1;simp (disch:=first|exact Zd|fail) only[ZZ,qU,simprocAttr,c4_p1,c3_p1,b4_p1,b3_p1,nm_p1,h1'',h1',fD h4,e_h5,h6']
   refine J.next (s:=wk .i64 (x4+1)) hn1 ?_ ?_
   ·exact Ze
   ·exact Zh
 ·have h1':=decide_eq_false h1
  have h1'':decide ((x1.length:Int)<=x4)=true:=decide_eq_true ae
  conv=>arg 1;simp (disch:=first|exact Zd|fail) only[ZZ,qU,simprocAttr,c4_p1,c3_p1,b4_p1,b3_p1,nm_p1,h1'',h1']
  refine J.eq gq ?_
  refine J.some ?_
  simp (maxSteps:=20000000) (disch:=first|exact Zd|fail) only[ZZ,qU,simprocAttr,c4_p1,c3_p1,b4_p1,b3_p1,nm_p1,h1'',h1',FN]
noncomputable def adu(fu:Nat)(x1:List Int)(p1:Int->Option Bool)(fv_p1:FuncId)(ca_p1:List AV):aC:=iI fv_p1 (iU (λ(t:Int)=>((.v (.int .i64 t))::ca_p1:List AV)) (λt=>p1 t) (λr=> .v (.bool r))) (nX)
theorem azI(fu:Nat)(x1:List Int)(p1:Int->Option Bool)(fv_p1:FuncId)(ca_p1:List AV)(cap_p1:bK ca_p1)(hp_p1: ∀ (y0:Int) r,p1 y0=some r->bH prog fv_p1 ((.v (.int .i64 y0))::ca_p1) (.v (.bool r))):aK prog (adu fu x1 p1 fv_p1 ca_p1):=jO (oU) (jL (λt b h=>hp_p1 t b h))
theorem avt(fu:Nat)(x1:List Int)(p1:Int→Option Bool)(fv_p1:FuncId)(ca_p1:List AV)(cap_p1:bK ca_p1)(hp_p1: ∀ (y0:Int) r,p1 y0=some r→bH prog fv_p1 ((.v (.int .i64 y0))::ca_p1) (.v (.bool r)))(r)(h:ou fu x1 p1=some r):bH prog 240 [.arr x1.length (lm (ik .i64) x1),.fn fv_p1 [] ca_p1] (e240 r):=
  qg mixed (cp:=adu fu x1 p1 fv_p1 ca_p1) (azI fu x1 p1 fv_p1 ca_p1 cap_p1 hp_p1) eY SL (aAG _ fu x1 p1 fv_p1 ca_p1 cap_p1 (λy0 r h=>jM (jK (a:=y0) (by intro a b h;first|(exact rfl)|(simp only[iY,IJ]at h;first|exact h|(simp_all [Prod.ext_iff]))) h))) h
def YA:=Da (aJ Aw.yL.eq_1)
theorem SI:aN prog 190 yL=some ⟨az Tryz.f190,[.tmp 4],[4]⟩:=fA Tryz.func190
def e190:Bool->AV:=λr=> .v (.bool r)
set_option maxHeartbeats 20000000 in
theorem aAE(cp:aC)(fu:Nat)(x1:List Int)(p1:Int→Option Bool)(fv_p1:FuncId)(ca_p1:List AV)(cap_p1:bK ca_p1)(hp_p1: ∀ (y0:Int) r,p1 y0=some r→cp fv_p1 ((.v (.int .i64 y0))::ca_p1)=some (.v (.bool r)))(H240_0: ∀ (a0:List Int) r,ou fu a0 p1=some r→cp 240 [.arr a0.length (lm (ik .i64) a0),.fn fv_p1 [] ca_p1]=some (.v (.int .i64 r))):J (go prog oQ cp fH 0 [] yL fu (fin prog [.tmp 4] [4]) (az Tryz.f190) (bW 0 [.arr x1.length (lm (ik .i64) x1),.fn fv_p1 [] ca_p1]) [] []) (zT fu x1 p1) e190:=by
 unfold zT e190
 have da:=YA
 have c4_p1:=λg=>(cap_p1.1 g).1;have c3_p1:=λg=>(cap_p1.1 g).2.1;have b4_p1:=λg=>(cap_p1.1 g).2.2.1;have b3_p1:=λg=>(cap_p1.1 g).2.2.2;have nm_p1:=cap_p1.2
 refine J.bind λx2 h1=> ?_
 have e_h1:=H240_0 _ _ h1
 try simp only[NN,NT,LN,simprocAttr,DT]at e_h1
 refine J.some ?_
 simp (maxSteps:=20000000) (disch:=first|exact Zd|fail) only[az,Tryz.f190,ZZ,YA,simprocAttr,c4_p1,c3_p1,b4_p1,b3_p1,nm_p1,e_h1,FN]
noncomputable def ads(fu:Nat)(x1:List Int)(p1:Int->Option Bool)(fv_p1:FuncId)(ca_p1:List AV):aC:=iI 240 (iU (λ(t:List Int)=>([.arr t.length (lm (ik .i64) t),.fn fv_p1 [] ca_p1]:List AV)) (λt=>ou fu t p1) e240) (iI fv_p1 (iU (λ(t:Int)=>((.v (.int .i64 t))::ca_p1:List AV)) (λt=>p1 t) (λr=> .v (.bool r))) (nX))
theorem azG(fu:Nat)(x1:List Int)(p1:Int->Option Bool)(fv_p1:FuncId)(ca_p1:List AV)(cap_p1:bK ca_p1)(hp_p1: ∀ (y0:Int) r,p1 y0=some r->bH prog fv_p1 ((.v (.int .i64 y0))::ca_p1) (.v (.bool r))):aK prog (ads fu x1 p1 fv_p1 ca_p1):=jO (jO (oU) (jL (λt b h=>hp_p1 t b h))) (jL (λt b h=>avt fu t p1 fv_p1 ca_p1 cap_p1 hp_p1 b h))
theorem avp(fu:Nat)(x1:List Int)(p1:Int→Option Bool)(fv_p1:FuncId)(ca_p1:List AV)(cap_p1:bK ca_p1)(hp_p1: ∀ (y0:Int) r,p1 y0=some r→bH prog fv_p1 ((.v (.int .i64 y0))::ca_p1) (.v (.bool r)))(r)(h:zT fu x1 p1=some r):bH prog 190 [.arr x1.length (lm (ik .i64) x1),.fn fv_p1 [] ca_p1] (e190 r):=
  qg mixed (cp:=ads fu x1 p1 fv_p1 ca_p1) (azG fu x1 p1 fv_p1 ca_p1 cap_p1 hp_p1) eY SI (aAE _ fu x1 p1 fv_p1 ca_p1 cap_p1 (λy0 r h=>EX (λhfv=>zt (by intro t h;simp at h)) (jM (jK (a:=y0) (by intro a b h;first|(exact rfl)|(simp only[iY,IJ]at h;first|exact h|(simp_all [Prod.ext_iff]))) h))) (λa0 r h=>jM (jK (a:=a0) (by intro a b h;first|(exact rfl)|(simp only[iY,IJ]at h;first|exact h|(simp_all [Prod.ext_iff]))) h))) h
noncomputable abbrev ajv(fu:Nat):Cm prog Int Bool:=⟨191,fun t=>[.v (.int .i64 t)],Bz fu,fun r=> .v (.bool r),by
 rintro x1
 refine pT fu Aw.IP Tryz.func191 [.tmp 2] [4] [] [] (λcp H=> ?_)
 unfold Bz
 have z0:=Da (aJ Aw.IP.eq_1)
 exact Wk,Zi⟩
noncomputable abbrev aju(fu:Nat):Cm prog (List Int) Bool:=⟨190,λt=>[.arr t.length (lm (ik .i64) t),.fn 191 [] []],λt=>zT fu t (λy0=>Bz fu y0),λr=> .v (.bool r),λt b h=>avp fu t (λy0=>Bz fu y0) 191 [] bK.nil (λy0 r h=>(ajv fu).ok y0 r h) b h,Zi⟩
noncomputable abbrev ajt(fu:Nat):Cm prog aP Bool:=⟨189,fun t=>[.agg (dE t)],y9 fu,fun r=> .v (.bool r),by
 rintro x1
 refine pT fu Aw.IL Tryz.func189 [.tmp 2] [4] [(aju fu).ct] [190] (λcp H=> ?_)
 obtain⟨H1, -⟩:=H
 unfold y9
 have z0:=Da (aJ Aw.IL.eq_1)
 exact Wk,Zi⟩
def Zu:=Da (aJ Aw.yT.eq_1)
theorem i91:aN prog 91 yT=some ⟨az Tryz.f91,[.tmp 2],[34]⟩:=fA Tryz.func91
def Rk:Int->AV:=λr=> .v (.int .i64 r)
set_option maxHeartbeats 20000000 in
theorem w91(cp:aC)(fu:Nat)(x1:bf)(H184_0: ∀ (a0:bf) r,iM fu a0=some r→cp 184 [.agg (ig a0)]=some (.fresh 8 r.length (fm dE r)))(H185_0: ∀ (a0:List aP) r,qi fu a0 (fun y0=>y7 fu y0)=some r→cp 185 [.arr a0.length (fm dE a0),.fn 186 [] []]=some (.v (.bool r)))(H185_1: ∀ (a0:List aP) r,qi fu a0 (fun y0=>y8 fu y0)=some r→cp 185 [.arr a0.length (fm dE a0),.fn 188 [] []]=some (.v (.bool r)))(H185_2: ∀ (a0:List aP) r,qi fu a0 (fun y0=>y9 fu y0)=some r→cp 185 [.arr a0.length (fm dE a0),.fn 189 [] []]=some (.v (.bool r))):J (go prog oQ cp fH 0 [] yT fu (fin prog [.tmp 2] [34]) (az Tryz.f91) (bW 0 [.agg (ig x1)]) [] []) (y5 fu x1) Rk:=by
 unfold y5 Rk
 have da:=Zu
 refine J.bind λx2 h1=> ?_
 have e_h1:=H184_0 _ _ h1
 try simp only[NN,NT,LN,simprocAttr,DT]at e_h1
 conv=>arg 1;simp (disch:=first|exact Zd|fail) only[az,Tryz.f91,ZZ,Zu,simprocAttr,e_h1]
 refine J.eq gG ?_
 refine J.bind λx3 h2=> ?_
 have e_h2:=H185_0 _ _ h2
 try simp only[NN,NT,LN,simprocAttr,DT]at e_h2
 refine Jc ?_
 refine J.ite (λh3=> ?_) (λh3=> ?_)
 ·have h3':x3=true:=h3
  refine J.some ?_
  exact Js
 ·have h3':x3=false:=Bool.eq_false_iff.2 h3
  refine J.bind λx4 h4=> ?_
  have e_h4:=H185_1 _ _ h4
  try simp only[NN,NT,LN,simprocAttr,DT]at e_h4
  refine Jc ?_
  refine J.ite (λh5=> ?_) (λh5=> ?_)
  ·have h5':x4=true:=h5
   refine J.some ?_
   exact Js
  ·have h5':x4=false:=Bool.eq_false_iff.2 h5
   refine Jc ?_
   refine J.eq gG ?_
   refine Jc ?_
   refine J.ite (λh6=> ?_) (λh6=> ?_)
   ·have h6':=decide_eq_true h6
    refine Jc ?_
    refine J.eq gq ?_
    refine Jc ?_
    refine J.eq gq ?_
    refine J.some ?_
    exact Js
   ·have h6':=decide_eq_false h6
    refine J.bind λx5 h7=> ?_
    have e_h7:=H185_2 _ _ h7
    try simp only[NN,NT,LN,simprocAttr,DT]at e_h7
    refine Jc ?_
    refine J.eq gq ?_
    refine Jc ?_
    refine J.ite (λh8=> ?_) (λh8=> ?_)
    ·have h8':x5=true:=h8
     refine J.some ?_
     exact Js
    ·have h8':x5=false:=Bool.eq_false_iff.2 h8
     refine Jc ?_
     refine J.eq gq ?_
     refine J.some ?_
     exact Js
noncomputable def t91(fu:Nat):aC:=iI 184 (iU (λ(t:bf)=>([.agg (ig t)]:List AV)) (λt=>iM fu t) (λr=> .fresh 8 r.length (fm dE r))) (iI 185 (iU (λ(t:List aP)=>([.arr t.length (fm dE t),.fn 186 [] []]:List AV)) (λt=>qi fu t (λy0=>y7 fu y0)) e185) (iI 185 (iU (λ(t:List aP)=>([.arr t.length (fm dE t),.fn 188 [] []]:List AV)) (λt=>qi fu t (λy0=>y8 fu y0)) e185) (iI 185 (iU (λ(t:List aP)=>([.arr t.length (fm dE t),.fn 189 [] []]:List AV)) (λt=>qi fu t (λy0=>y9 fu y0)) e185) (nX))))
theorem azM(fu:Nat):aK prog (t91 fu):=jO (jO (jO (jO (oU) (jL (λt b h=>Ua fu t (λy0=>y9 fu y0) 189 [] bK.nil (λy0 r h=>(ajt fu).ok y0 r h) b h))) (jL (λt b h=>Ua fu t (λy0=>y8 fu y0) 188 [] bK.nil (λy0 r h=>(ajs fu).ok y0 r h) b h))) (jL (λt b h=>Ua fu t (λy0=>y7 fu y0) 186 [] bK.nil (λy0 r h=>(ajq fu).ok y0 r h) b h))) (jL (λt b h=>(ajp fu).ok t b h))
theorem avy(fu:Nat)(x1:bf)(r)(h:y5 fu x1=some r):bH prog 91 [.agg (ig x1)] (Rk r):=
  qg mixed (cp:=t91 fu) (azM fu) eY i91 (w91 _ fu x1 (λa0 r h=>jM (jK (a:=a0) (by intro a b h;first|(exact rfl)|(simp only[iY,IJ]at h;first|exact h|(simp_all [Prod.ext_iff]))) h)) (λa0 r h=>uz au (jM (jK (a:=a0) (by intro a b h;first|(exact rfl)|(simp only[iY,IJ]at h;first|exact h|(simp_all [Prod.ext_iff]))) h))) (λa0 r h=>uz au (MG (zt (by intro t h;simp at h)) (jM (jK (a:=a0) (by intro a b h;first|(exact rfl)|(simp only[iY,IJ]at h;first|exact h|(simp_all [Prod.ext_iff]))) h)))) (λa0 r h=>uz au (MG (zt (by intro t h;simp at h)) (MG (zt (by intro t h;simp at h)) (jM (jK (a:=a0) (by intro a b h;first|(exact rfl)|(simp only[iY,IJ]at h;first|exact h|(simp_all [Prod.ext_iff]))) h)))))) h
noncomputable abbrev akr(fu:Nat):Cm prog bf Int:=⟨91,λt=>[.agg (ig t)],λt=>y5 fu t,λr=> .v (.int .i64 r),λt b h=>avy fu t b h,Zi⟩
def kT.m1:LJ 1 4 Unit Int:=⟨λr s e=>[(1,er e 1),(8,er e 8),(9,er e 9),(10,.v (.int .i64 s))],λr s h=>[((0,1,0),hr h (0,1,0))]⟩
def kT.j1:LJ 1 5 Unit Unit:=⟨λr t e=>[(1,er e 1)],λr t h=>[((0,1,0),hr h (0,1,0))]⟩
open kT in
noncomputable abbrev aj6(fu:Nat):Cm prog bf Int:=⟨39,fun t=>[.agg (ig t)],kT fu,fun r=> .v (.int .i64 r),by
 rintro x1
 refine pT fu Aw.Jf Tryz.func39 [.tmp 2] [34] [(pJ fu).ct,(wK fu).ct,(akp fu).ct,(akq fu).ct,(akr fu).ct] [35,88,89,90,91] (λcp H=> ?_)
 obtain⟨H1,H2,H3,H4,H5, -⟩:=H
 unfold kT
 have z0:=Da (aJ Aw.Jf.eq_1)
 exact Wk,Zi⟩
noncomputable abbrev tZ(fu:Nat):Cm prog (List Int) ((List (List Int))×Int):=⟨103,fun t=>[.arr t.length (lm (ik .i64) t)],lZ fu,fun r=> .tuple [.arr r.1.length (lm (eP (ik .i64)) r.1),.v (.int .i64 r.2)],by
 rintro x1
 refine uA fu Aw.Ie Tryz.func103 [.tmp 2,.tmp 3] [72,34] [] [] (λcp H=> ?_)
 unfold lZ
 have z0:=Da (aJ Aw.Ie.eq_1)
 have z1:=SE
 exact Wk,Zi⟩
def jl.m1:LJ 1 10 Unit ((List Int)×Int):=⟨λr s e=>[(5,.own (0,5,77) 0 s.1.length s.1.length),(16,er e 16),(17,er e 17),(18,.v (.int .i64 s.2))],λr s h=>[((0,5,77),.sl true true 1 s.1.length (lm (ik .i64) s.1))]⟩
open jl in
noncomputable abbrev yD(fu:Nat):Cm prog (bf×Int) (List Int):=⟨241,fun t=>[.agg (ig t.1),.v (.int .i64 t.2)],fun t=>jl fu t.1 t.2,fun r=> .fresh 1 r.length (lm (ik .i64) r),by
 rintro⟨x1,x2⟩
 refine pT fu Aw.I7 Tryz.func241 [.tmp 4] [22] [(wK fu).ct,(yC fu).ct] [88,104] (λcp H=> ?_)
 obtain⟨H1,H2, -⟩:=H
 unfold jl
 have z0:=Da (aJ Aw.I7.eq_1)
 exact Wk,Zi⟩
def Zv:TD:=zz [[0,1],[],[]]
noncomputable abbrev ug(fu:Nat):Cm prog Unit ((List (List Int))×Int):=⟨95,fun t=>[],fun t=>fM fu,fun r=> .tuple [.arr r.1.length (lm (eP (ik .i64)) r.1),.v (.int .i64 r.2)],by
 rintro⟨⟩
 refine uA fu Zv Tryz.func95 [.tmp 0,.tmp 1] [72,34] [] [] (λcp H=> ?_)
 unfold fM
 have z0:=Da (aJ Zv.eq_1)
 have z1:=SE
 exact Wk,Zi⟩
def YC:TD:=[(0,[0,2,3]),(0,[1,4,25,26,27]),(6,[16,17,18,19]),(0,[10,11]),(0,[7,20,21,22,23,24]),(0,[10,11]),(0,[]),(0,[83,84,85]),(0,[]),(0,[]),(0,[]),(0,[98,99,100]),(0,[29,30,31]),(0,[15]),(0,[33,34,35,36,37,38,39,40,41,42,43,44,45,46,47,48,49,50,51,52,53,54,55,56,57,58]),(0,[]),(0,[59,60,61]),(0,[]),(0,[63,64]),(0,[]),(0,[65]),(0,[]),(0,[67,68,69,70,71,72,73,74]),(0,[]),(0,[75,76,77,78,79,80,81]),(0,[]),(0,[82]),(0,[]),(0,[]),(0,[]),(0,[]),(0,[]),(0,[87,88,89]),(0,[]),(0,[12,13,90,91,92,93,94,95]),(0,[]),(0,[]),(0,[]),(0,[97]),(0,[]),(0,[]),(0,[]),(0,[]),(0,[]),(0,[102,103,104]),(0,[]),(0,[14,105,106,107,108,109,110]),(0,[]),(0,[112,113,114]),(0,[]),(0,[115,116,117,118,119,120,121,122,123,124]),(0,[]),(0,[126,127,128]),(0,[]),(0,[129]),(0,[]),(0,[130]),(0,[]),(0,[132,133,134,135,136,137,138]),(0,[]),(0,[140,141,142]),(0,[]),(0,[143,144,145,146,147,148]),(0,[]),(0,[149,150]),(0,[]),(0,[152,153,154]),(0,[]),(0,[5,6,8,9,155,156,157,158])]
def dM.j4:LJ 4 68 Unit (List Int):=⟨λr t e=>[(5,.own (0,19,0) 0 t.length t.length),(6,er e 6),(8,er e 8),(9,er e 9)],λr t h=>[((0,19,0),.sl true true 1 t.length (lm (ik .i64) t))]⟩
def dM.m1:LJ 1 42 Unit (Int×Int):=⟨λr s e=>[(5,er e 5),(6,er e 6),(8,er e 8),(9,.v (.int .i64 s.1)),(98,er e 98),(99,er e 99),(100,.v (.int .i64 s.2))],λr s h=>[((0,19,0),hr h (0,19,0))]⟩
def dM.j3:LJ 3 56 Unit Int:=⟨λr t e=>[(5,er e 5),(6,er e 6),(8,er e 8),(9,.v (.int .i64 t))],λr t h=>[((0,19,0),hr h (0,19,0))]⟩
def dM.m2:LJ 2 30 Unit (Int×Int):=⟨λr s e=>[(5,er e 5),(6,er e 6),(8,er e 8),(9,.v (.int .i64 s.1)),(83,er e 83),(84,er e 84),(85,.v (.int .i64 s.2))],λr s h=>[((0,19,0),hr h (0,19,0))]⟩
def dM.j2:LJ 2 40 Unit Int:=⟨λr t e=>[(5,er e 5),(6,er e 6),(8,er e 8),(9,.v (.int .i64 t))],λr t h=>[((0,19,0),hr h (0,19,0))]⟩
def dM.m3:LJ 3 10 Unit (Bool×(List Int)×Int×Int):=⟨λr s e=>[(1,er e 1),(4,er e 4),(5,.own (0,19,0) 0 s.2.1.length s.2.1.length),(6,er e 6),(8,.v (.int .i64 s.2.2.1)),(9,er e 9),(25,.own (0,19,0) 0 s.2.1.length s.2.1.length),(26,er e 26),(27,.v (.int .i64 s.2.2.2))],λr s h=>[((0,1,0),bs (hr h (0,1,0)) 7 (.v (.bool s.1))),((0,19,0),.sl true true 1 s.2.1.length (lm (ik .i64) s.2.1))]⟩
def dM.j1:LJ 1 28 Unit (Bool×(List Int)×Int):=⟨λr t e=>[(5,.own (0,19,0) 0 t.2.1.length t.2.1.length),(6,er e 6),(8,.v (.int .i64 t.2.2)),(9,er e 9)],λr t h=>[((0,1,0),bs (hr h (0,1,0)) 7 (.v (.bool t.1))),((0,19,0),.sl true true 1 t.2.1.length (lm (ik .i64) t.2.1))]⟩
open dM in
noncomputable abbrev ajx(fu:Nat):Cm prog bf ((List (List Int))×Int):=⟨194,fun t=>[.agg (ig t)],dM fu,fun r=> .tuple [.arr r.1.length (lm (eP (ik .i64)) r.1),.v (.int .i64 r.2)],by
 rintro x1
 refine pT fu YC Tryz.func194 [.tmp 2,.tmp 3] [72,34] [(qO fu).ct,(yD fu).ct,(pJ fu).ct,(ug fu).ct,(tZ fu).ct] [92,241,35,95,103] (λcp H=> ?_)
 obtain⟨H1,H2,H3,H4,H5, -⟩:=H
 unfold dM
 have z0:=Da (aJ YC.eq_1)
 exact Wk,Zi⟩
noncomputable abbrev Hq(fu:Nat):Cm prog bf Int:=⟨198,fun t=>[.agg (ig t)],vw fu,fun r=> .v (.int .i64 r),by
 rintro x1
 refine pT fu Aw.IU Tryz.func198 [.tmp 2] [3] [(XH fu).ct,(uf fu).ct] [179,21] (λcp H=> ?_)
 obtain⟨H1,H2, -⟩:=H
 unfold vw
 have z0:=Da (aJ Aw.IU.eq_1)
 exact Wk,Zi⟩
def YD:TD:=[(0,[0,2,3]),(0,[1,5,6]),(7,[9,10,11,12,13]),(0,[]),(0,[]),(0,[]),(0,[14,15,16,17]),(0,[]),(0,[19,20]),(0,[]),(0,[21,22,23,24]),(0,[]),(0,[25,26,27,28]),(0,[]),(0,[30,31,32]),(0,[]),(0,[33,34,35,36]),(0,[]),(0,[37,38,39,40,41,42,43]),(0,[]),(0,[7,44,45,46]),(0,[]),(0,[48,49,50]),(0,[]),(0,[8,51,52,53,54,55,56,57]),(0,[]),(0,[4,58,59,60,61])]
def lF.m1:LJ 1 6 Unit ((List Int)×Int):=⟨λr s e=>[(1,er e 1),(4,.own (0,11,0) 0 s.1.length s.1.length),(5,er e 5),(6,.v (.int .i64 s.2))],λr s h=>[((0,1,0),hr h (0,1,0)),((0,11,0),.sl true true 1 s.1.length (lm (ik .i64) s.1))]⟩
def lF.j1:LJ 1 26 Unit (List Int):=⟨λr t e=>[(4,.own (0,11,0) 0 t.length t.length)],λr t h=>[((0,1,0),hr h (0,1,0)),((0,11,0),.sl true true 1 t.length (lm (ik .i64) t))]⟩
open lF in
noncomputable abbrev ajy(fu:Nat):Cm prog bf ((List (List Int))×Int):=⟨195,fun t=>[.agg (ig t)],lF fu,fun r=> .tuple [.arr r.1.length (lm (eP (ik .i64)) r.1),.v (.int .i64 r.2)],by
 rintro x1
 refine pT fu YD Tryz.func195 [.tmp 2,.tmp 3] [72,34] [(qO fu).ct,(sG fu).ct,(Hq fu).ct,(QQ fu).ct,(ug fu).ct,(tZ fu).ct] [92,42,198,193,95,103] (λcp H=> ?_)
 obtain⟨H1,H2,H3,H4,H5,H6, -⟩:=H
 unfold lF
 have z0:=Da (aJ YD.eq_1)
 exact Wk,Zi⟩
def e207:(List Int)->AV:=λr=> .fresh 1 r.length (lm (ik .i64) r)
theorem avq(fu:Nat)(x1:List Int)(x2:Int)(r)(h:Fh fu x1 x2=some r):bH prog 207 [.arr x1.length (lm (ik .i64) x1),.v (.int .i64 x2)] (e207 r):=by
  unfold Fh chk at h
  split at h
  · rename_i hx;injection h with h;subst h;obtain⟨hx,rfl⟩:=hx
    match x1,hx with
    |[v],_=>exact Aw.Xp 207 [.arr 1 [.v (.int .i64 v)],.v (.int .i64 1)] (.fresh 1 1 [.v (.int .i64 v)]) KrT
  · cases h
noncomputable abbrev ajU(fu:Nat):Cm prog (Int×Int) Bool:=⟨277,fun t=>[.v (.int .i64 t.1),.ay [.v (.int .i64 t.2)] 0],fun t=>BA fu t.1 t.2,fun r=> .v (.bool r),by
 rintro⟨x1,x2⟩
 refine pT fu Aw.Ja Tryz.func277 [.tmp 3] [4] [] [] (λcp H=> ?_)
 unfold BA
 have z0:=Da (aJ Aw.Ja.eq_1)
 exact Wk,Zi⟩
noncomputable abbrev ake(fu:Nat):Cm prog ((List Int)×Int) Bool:=⟨78,λt=>[.arr t.1.length (lm (ik .i64) t.1),.fn 277 [] [.ay [.v (.int .i64 t.2)] 0]],λt=>kY fu t.1 (λy0=>BA fu y0 t.2),λr=> .v (.bool r),λt b h=>EU fu t.1 (λy0=>BA fu y0 t.2) 277 [.ay [.v (.int .i64 t.2)] 0] (bK.ay bK.nil) (λy0 r h=>(ajU fu).ok (y0,t.2) r h) b h,Zi⟩
noncomputable abbrev Hu(fu:Nat):Cm prog ((List Int)×Int) Bool:=⟨242,fun t=>[.arr t.1.length (lm (ik .i64) t.1),.v (.int .i64 t.2)],fun t=>vz fu t.1 t.2,fun r=> .v (.bool r),by
 rintro⟨x1,x2⟩
 refine pT fu Aw.I8 Tryz.func242 [.tmp 4] [4] [(ake fu).ct] [78] (λcp H=> ?_)
 obtain⟨H1, -⟩:=H
 unfold vz
 have z0:=Da (aJ Aw.I8.eq_1)
 exact Wk,Zi⟩
def YE:TD:=[(0,[0,2,3]),(0,[55,56,57]),(6,[12,13,14,15]),(0,[]),(0,[16,17]),(0,[]),(0,[18,19]),(0,[]),(8,[21,22,23,24,25,26,27]),(0,[]),(0,[29,30,31]),(0,[]),(12,[32,33,34,35,36,37,38,39,40,41,42]),(0,[]),(0,[1,43,44,45,46,47,48,49,50]),(0,[]),(0,[52,53,54]),(0,[]),(0,[]),(0,[]),(0,[1000008]),(0,[]),(0,[6]),(0,[]),(0,[]),(0,[]),(0,[59,60]),(0,[]),(0,[61,62,63]),(0,[]),(0,[64,65]),(0,[]),(0,[10,66,67,68,69]),(0,[]),(0,[11,70,71,72,73]),(0,[]),(0,[74]),(0,[]),(0,[4,5,7,75,76,77,78,79]),(0,[]),(0,[81,82,83]),(0,[]),(0,[8,84,1000000002])]
noncomputable abbrev ajH(fu:Nat):Cm prog ((List Int)×Int) (List Int):=⟨207,λt=>[.arr t.1.length (lm (ik .i64) t.1),.v (.int .i64 t.2)],λt=>Fh fu t.1 t.2,λr=> .fresh 1 r.length (lm (ik .i64) r),λt b h=>avq fu t.1 t.2 b h,Zi⟩
def eQ.m1:LJ 1 24 Unit ((List (List Int))×Int×Int):=⟨λr s e=>[(4,er e 4),(5,er e 5),(7,.v (.int .i64 s.2.1)),(8,.own (0,8,77) 0 s.1.length s.1.length),(55,er e 55),(56,er e 56),(57,.v (.int .i64 s.2.2))],λr s h=>[((0,17,0),hr h (0,17,0)),((0,8,77),.sl true true 1 s.1.length (lm (eP (ik .i64)) s.1))]⟩
def eQ.j2:LJ 2 38 Unit ((List (List Int))×Int):=⟨λr t e=>[(4,er e 4),(5,er e 5),(7,.v (.int .i64 t.2)),(8,.own (0,8,77) 0 t.1.length t.1.length)],λr t h=>[((0,17,0),hr h (0,17,0)),((0,8,77),.sl true true 1 t.1.length (lm (eP (ik .i64)) t.1))]⟩
def eQ.j1:LJ 1 18 Unit Unit:=⟨λr t e=>[(4,er e 4),(5,er e 5),(6,er e 6)],λr t h=>[((0,17,0),hr h (0,17,0))]⟩
def eQ.m2:LJ 2 24 Unit ((List (List Int))×Int×Int):=⟨λr s e=>[(4,er e 4),(5,er e 5),(7,.v (.int .i64 s.2.1)),(8,.own (0,8,77) 0 s.1.length s.1.length),(55,er e 55),(56,er e 56),(57,.v (.int .i64 s.2.2))],λr s h=>[((0,42,0),hr h (0,42,0)),((0,8,77),.sl true true 1 s.1.length (lm (eP (ik .i64)) s.1))]⟩
def eQ.j4:LJ 4 38 Unit ((List (List Int))×Int):=⟨λr t e=>[(4,er e 4),(5,er e 5),(7,.v (.int .i64 t.2)),(8,.own (0,8,77) 0 t.1.length t.1.length)],λr t h=>[((0,42,0),hr h (0,42,0)),((0,8,77),.sl true true 1 t.1.length (lm (eP (ik .i64)) t.1))]⟩
def eQ.j3:LJ 3 18 Unit Unit:=⟨λr t e=>[(4,er e 4),(5,er e 5),(6,er e 6)],λr t h=>[((0,42,0),hr h (0,42,0))]⟩
open eQ in
noncomputable abbrev ajz(fu:Nat):Cm prog bf ((List (List Int))×Int):=⟨196,fun t=>[.agg (ig t)],eQ fu,fun r=> .tuple [.arr r.1.length (lm (eP (ik .i64)) r.1),.v (.int .i64 r.2)],by
 rintro x1
 refine pT fu YE Tryz.func196 [.tmp 2,.tmp 3] [72,34] [(qO fu).ct,(Hq fu).ct,(yD fu).ct,(wK fu).ct,(ajH fu).ct,(ug fu).ct,(Hu fu).ct,(sG fu).ct] [92,198,241,88,207,95,242,42] (λcp H=> ?_)
 obtain⟨H1,H2,H3,H4,H5,H6,H7,H8, -⟩:=H
 unfold eQ
 have z0:=Da (aJ YE.eq_1)
 exact Wk,Zi⟩
def jy.j3:LJ 3 20 Unit (Int×Int×Int):=⟨λr t e=>[(0,er e 0),(1,.v (.int .i64 t.1)),(2,.v (.int .i64 t.2.1)),(3,.v (.int .i64 t.2.2))],λr t h=>[]⟩
def jy.j2:LJ 2 10 Unit Int:=⟨λr t e=>[(0,er e 0),(1,er e 1),(2,.v (.int .i64 t)),(3,er e 3)],λr t h=>[]⟩
def jy.j1:LJ 1 6 Unit Int:=⟨λr t e=>[(0,er e 0),(1,.v (.int .i64 t)),(2,er e 2),(3,er e 3)],λr t h=>[]⟩
open jy in
noncomputable abbrev ajO(fu:Nat):Cm prog (Int×Int×Int×Int) Int:=⟨243,fun t=>[.v (.int .i64 t.1),.v (.int .i64 t.2.1),.v (.int .i64 t.2.2.1),.v (.int .i64 t.2.2.2)],fun t=>jy fu t.1 t.2.1 t.2.2.1 t.2.2.2,fun r=> .v (.int .i64 r),by
 rintro⟨x1,x2,x3,x4⟩
 refine pT fu Aw.I9 Tryz.func243 [.tmp 8] [3] [] [] (λcp H=> ?_)
 unfold jy
 have z0:=Da (aJ Aw.I9.eq_1)
 exact Wk,Zi⟩
def eu.m1:LJ 1 32 Unit ((List Int)×Int):=⟨λr s e=>[(4,.own (0,18,0) 0 s.1.length s.1.length),(5,er e 5),(6,er e 6),(8,er e 8),(83,er e 83),(84,er e 84),(85,.v (.int .i64 s.2))],λr s h=>[((0,18,0),.sl true true 1 s.1.length (lm (ik .i64) s.1)),((0,20,0),hr h (0,20,0)),((0,22,0),hr h (0,22,0)),((0,24,0),hr h (0,24,0)),((0,26,0),hr h (0,26,0))]⟩
def eu.j3:LJ 3 42 Unit (List Int):=⟨λr t e=>[(4,.own (0,18,0) 0 t.length t.length)],λr t h=>[((0,18,0),.sl true true 1 t.length (lm (ik .i64) t)),((0,20,0),hr h (0,20,0)),((0,22,0),hr h (0,22,0)),((0,24,0),hr h (0,24,0)),((0,26,0),hr h (0,26,0))]⟩
def eu.j2:LJ 2 30 Unit Unit:=⟨λr t e=>[(4,er e 4),(5,er e 5),(6,er e 6),(7,er e 7),(8,er e 8)],λr t h=>[((0,18,0),hr h (0,18,0)),((0,20,0),hr h (0,20,0)),((0,22,0),hr h (0,22,0)),((0,24,0),hr h (0,24,0)),((0,26,0),hr h (0,26,0))]⟩
def eu.j4:LJ 4 18 Unit (List Int):=⟨λr t e=>[(1,er e 1),(4,er e 4),(5,er e 5),(6,er e 6),(7,.own (0,24,0) 0 t.length t.length),(8,er e 8),(9,er e 9),(28,er e 28),(29,er e 29)],λr t h=>[((0,1,0),hr h (0,1,0)),((0,18,0),hr h (0,18,0)),((0,20,0),hr h (0,20,0)),((0,22,0),hr h (0,22,0)),((0,24,0),.sl true true 1 t.length (lm (ik .i64) t)),((0,26,0),hr h (0,26,0))]⟩
def eu.m2:LJ 2 10 Unit ((List Int)×(List Int)×Int):=⟨λr s e=>[(1,er e 1),(4,er e 4),(5,er e 5),(6,er e 6),(7,.own (0,24,0) 0 s.1.length s.1.length),(8,.own (0,26,0) 0 s.2.1.length s.2.1.length),(28,er e 28),(29,.v (.int .i64 s.2.2))],λr s h=>[((0,1,0),hr h (0,1,0)),((0,18,0),hr h (0,18,0)),((0,20,0),hr h (0,20,0)),((0,22,0),hr h (0,22,0)),((0,24,0),.sl true true 1 s.1.length (lm (ik .i64) s.1)),((0,26,0),.sl true true 1 s.2.1.length (lm (ik .i64) s.2.1))]⟩
def eu.j1:LJ 1 24 Unit ((List Int)×(List Int)):=⟨λr t e=>[(4,er e 4),(5,er e 5),(6,er e 6),(7,.own (0,24,0) 0 t.1.length t.1.length),(8,.own (0,26,0) 0 t.2.length t.2.length)],λr t h=>[((0,1,0),hr h (0,1,0)),((0,18,0),hr h (0,18,0)),((0,20,0),hr h (0,20,0)),((0,22,0),hr h (0,22,0)),((0,24,0),.sl true true 1 t.1.length (lm (ik .i64) t.1)),((0,26,0),.sl true true 1 t.2.length (lm (ik .i64) t.2))]⟩
open eu in
noncomputable abbrev ajA(fu:Nat):Cm prog bf ((List (List Int))×Int):=⟨197,fun t=>[.agg (ig t)],eu fu,fun r=> .tuple [.arr r.1.length (lm (eP (ik .i64)) r.1),.v (.int .i64 r.2)],by
 rintro x1
 refine pT fu Aw.IR Tryz.func197 [.tmp 2,.tmp 3] [72,34] [(qO fu).ct,(sG fu).ct,(yD fu).ct,(wK fu).ct,(QP fu).ct,(Hy fu).ct,(ug fu).ct,(uf fu).ct,(ajO fu).ct,(tZ fu).ct] [92,42,241,88,180,81,95,21,243,103] (λcp H=> ?_)
 obtain⟨H1,H2,H3,H4,H5,H6,H7,H8,H9,H10, -⟩:=H
 unfold eu
 have z0:=Da (aJ Aw.IR.eq_1)
 exact Wk,Zi⟩
def alx:=Da (aJ Aw.yO.eq_1)
noncomputable def PE:Code:=az Tryz.f244
theorem apx{C:bG}{cp:aC}{ci:bz}{lvl:Nat}{prot:List Id}{D:List (Nat×List Nat)}{n:Nat}{K:KK}{e:Env}{h:Heap}{fs:List Fr}:go prog C cp ci lvl prot D n K PE e h fs=go prog C cp ci lvl prot D n K (az Tryz.f244) e h fs:=rfl
theorem SN:aN prog 244 yO=some ⟨PE,[.tmp 4],[22]⟩:=fA Tryz.func244
def dn.m1:LJ 1 22 Unit ((List Int)×Int):=⟨λr s e=>[(6,.own (1,22,0) 0 s.1.length s.1.length),(25,er e 25),(26,er e 26),(27,.v (.int .i64 s.2))],λr s h=>[((1,22,0),.sl true true 1 s.1.length (lm (ik .i64) s.1))]⟩
def dn.m2:LJ 2 22 Unit ((List Int)×Int):=⟨λr s e=>[(6,.own (1,4,77) 0 s.1.length s.1.length),(25,er e 25),(26,er e 26),(27,.v (.int .i64 s.2))],λr s h=>[((1,4,77),.sl true true 1 s.1.length (lm (ik .i64) s.1))]⟩
def dn.j2:LJ 2 6 Unit Unit:=⟨λr t e=>[(0,er e 0),(1,er e 1)],λr t h=>[]⟩
def dn.m3:LJ 3 6 Unit (Int×Int):=⟨λr s e=>[(0,er e 0),(3,.v (.int .i64 s.1)),(9,er e 9),(10,er e 10),(11,.v (.int .i64 s.2))],λr s h=>[]⟩
def dn.j1:LJ 1 18 Unit Int:=⟨λr t e=>[(0,er e 0),(3,.v (.int .i64 t))],λr t h=>[]⟩
open dn in
noncomputable abbrev ajB(fu:Nat):Cm prog (List (List Int)) (List Int):=⟨199,fun t=>[.arr t.length (lm (eP (ik .i64)) t)],dn fu,fun r=> .arr r.length (lm (ik .i64) r),by
 rintro x1
 refine zG fu (jb [244]) (λcp=>(iE prog (jb [244]) cp fH fu 244 yO ⟨PE,[.tmp 4],[22]⟩ fH)) (λcp ok=>(je mixed ok eY SN eY)) Aw.IV Tryz.func199 [.tmp 2] [22] [] [] (λcp H=> ?_)
 unfold dn
 have z0:=Da (aJ Aw.IV.eq_1)
 have z1:=SE
 have z2:=alx
 have z3:=Tryz.f244.eq_1
 have z4:= @apx
 have z5:=RI
 have z6:=ed
 have z7:= @az.eq_1
 exact Wk,Zi⟩
def lG.m1:LJ 1 10 Unit Int:=⟨λr s e=>[(1,er e 1),(2,er e 2),(6,er e 6),(7,er e 7),(22,er e 22),(23,.v (.int .i64 s))],λr s h=>[((0,2,0),hr h (0,2,0))]⟩
def lG.j1:LJ 1 20 Unit Unit:=⟨λr t e=>[(1,er e 1)],λr t h=>[((0,2,0),hr h (0,2,0))]⟩
open lG in
noncomputable abbrev ajC(fu:Nat):Cm prog (bf×(List Int)) ((List (List Int))×Int):=⟨200,fun t=>[.agg (ig t.1),.arr t.2.length (lm (ik .i64) t.2)],fun t=>lG fu t.1 t.2,fun r=> .tuple [.arr r.1.length (lm (eP (ik .i64)) r.1),.v (.int .i64 r.2)],by
 rintro⟨x1,x2⟩
 refine pT fu Aw.IX Tryz.func200 [.tmp 4,.tmp 5] [72,34] [(qO fu).ct,(Hq fu).ct,(ug fu).ct,(tZ fu).ct] [92,198,95,103] (λcp H=> ?_)
 obtain⟨H1,H2,H3,H4, -⟩:=H
 unfold lG
 have z0:=Da (aJ Aw.IX.eq_1)
 exact Wk,Zi⟩
def fU.j4:LJ 4 24 Unit Bool:=⟨λr t e=>[(1,er e 1),(4,er e 4),(6,er e 6),(7,er e 7),(8,er e 8),(9,er e 9),(35,er e 35),(36,er e 36),(37,er e 37),(52,.v (.bool t))],λr t h=>[((0,1,0),hr h (0,1,0)),((0,12,0),hr h (0,12,0)),((0,14,0),hr h (0,14,0))]⟩
def fU.j3:LJ 3 26 Unit Unit:=⟨λr t e=>[(1,er e 1),(4,er e 4),(6,er e 6),(7,er e 7),(8,er e 8),(35,er e 35),(36,er e 36),(37,er e 37)],λr t h=>[((0,1,0),hr h (0,1,0)),((0,12,0),hr h (0,12,0)),((0,14,0),hr h (0,14,0))]⟩
def fU.m1:LJ 1 12 Unit ((List Int)×Int):=⟨λr s e=>[(1,er e 1),(4,.own (0,12,0) 0 s.1.length s.1.length),(6,er e 6),(35,er e 35),(36,er e 36),(37,.v (.int .i64 s.2))],λr s h=>[((0,1,0),hr h (0,1,0)),((0,12,0),.sl true true 1 s.1.length (lm (ik .i64) s.1)),((0,14,0),hr h (0,14,0))]⟩
def fU.j2:LJ 2 30 Unit (List Int):=⟨λr t e=>[(4,.own (0,12,0) 0 t.length t.length)],λr t h=>[((0,1,0),hr h (0,1,0)),((0,12,0),.sl true true 1 t.length (lm (ik .i64) t)),((0,14,0),hr h (0,14,0))]⟩
def fU.j1:LJ 1 0 Unit Unit:=⟨λr t e=>[(1,er e 1),(4,er e 4),(5,er e 5),(6,er e 6)],λr t h=>[((0,1,0),hr h (0,1,0)),((0,12,0),hr h (0,12,0)),((0,14,0),hr h (0,14,0))]⟩
open fU in
noncomputable abbrev ajD(fu:Nat):Cm prog bf ((List (List Int))×Int):=⟨201,fun t=>[.agg (ig t)],fU fu,fun r=> .tuple [.arr r.1.length (lm (eP (ik .i64)) r.1),.v (.int .i64 r.2)],by
 rintro x1
 refine pT fu Aw.IY Tryz.func201 [.tmp 2,.tmp 3] [72,34] [(qO fu).ct,(sG fu).ct,(yD fu).ct,(Hu fu).ct,(ug fu).ct,(tZ fu).ct] [92,42,241,242,95,103] (λcp H=> ?_)
 obtain⟨H1,H2,H3,H4,H5,H6, -⟩:=H
 unfold fU
 have z0:=Da (aJ Aw.IY.eq_1)
 exact Wk,Zi⟩
def YB:TD:=zz [[4,5],[19,20,21],[17,18],[9],[],[11,48,49,50],[23,24],[],[7,8,25,26,27,28,29],[12,13,14],[30],[],[32],[],[33],[],[34,35,36,37],[],[39,40],[],[41,42],[],[0,43,44,45,46,47],[],[1],[],[],[],[52,53,54],[],[55,56,57,58,59,60],[],[62,63],[],[64,65,66,67,68,69],[],[71,72,73,74,75,76,77],[],[],[],[78],[],[15,79,80,81,82,83],[],[84],[],[86],[],[10,16,87]]
def gz.m1:LJ 1 26 Unit ((List Int)×Int):=⟨λr s e=>[(10,.own (0,42,0) 0 s.1.length s.1.length),(11,er e 11),(48,er e 48),(49,er e 49),(50,.v (.int .i64 s.2))],λr s h=>[((0,42,0),.sl true true 1 s.1.length (lm (ik .i64) s.1))]⟩
def gz.j3:LJ 3 42 Unit (List Int):=⟨λr t e=>[(10,.own (0,42,0) 0 t.length t.length)],λr t h=>[((0,42,0),.sl true true 1 t.length (lm (ik .i64) t))]⟩
def gz.j2:LJ 2 20 Unit ((List Int)×(List Int)):=⟨λr t e=>[(0,.arr t.1.length (lm (ik .i64) t.1)),(1,.arr t.2.length (lm (ik .i64) t.2))],λr t h=>[]⟩
def gz.m2:LJ 2 4 Unit ((List (List Int))×Int):=⟨λr s e=>[(0,er e 0),(1,er e 1),(19,.own (0,19,0) 0 s.1.length s.1.length),(20,er e 20),(21,.v (.int .i64 s.2))],λr s h=>[((0,19,0),.sl true true 1 s.1.length (lm (eP (ik .i64)) s.1))]⟩
def gz.j1:LJ 1 16 Unit (List (List Int)):=⟨λr t e=>[(0,er e 0),(1,er e 1)],λr t h=>[((0,19,0),.sl true true 1 t.length (lm (eP (ik .i64)) t))]⟩
open gz in
noncomputable abbrev ajw(fu:Nat):Cm prog ((List Int)×(List Int)) ((List Int)×Int):=⟨192,fun t=>[.arr t.1.length (lm (ik .i64) t.1),.arr t.2.length (lm (ik .i64) t.2)],fun t=>gz fu t.1 t.2,fun r=> .tuple [.fresh 1 r.1.length (lm (ik .i64) r.1),.v (.int .i64 r.2)],by
 rintro⟨x1,x2⟩
 refine pT fu YB Tryz.func192 [.tmp 4,.tmp 5] [22,34] [(pJ fu).ct,(sG fu).ct] [35,42] (λcp H=> ?_)
 obtain⟨H1,H2, -⟩:=H
 unfold gz
 have z0:=Da (aJ YB.eq_1)
 exact Wk,Zi⟩
def YF:TD:=[(0,[0,2,3]),(0,[4,43,44]),(6,[9,10,11,12]),(0,[]),(0,[13,14,15,16,17,18,19,20,21,22,23,24,25]),(0,[]),(0,[27,28,29]),(0,[]),(0,[1,30,31]),(0,[]),(0,[33,34,35,36,37,38,1000000006]),(0,[]),(0,[6,7,39,40,41,1000000002]),(0,[]),(0,[42]),(0,[]),(0,[]),(0,[]),(0,[46]),(0,[]),(10,[8,47,48,49,50,51,52,53,54,55,56]),(0,[]),(0,[57]),(0,[]),(0,[5,58,59,60,61])]
def iT.m1:LJ 1 16 Unit ((List Int)×Int):=⟨λr s e=>[(4,er e 4),(5,.own (0,12,0) 0 s.1.length s.1.length),(43,er e 43),(44,.v (.int .i64 s.2))],λr s h=>[((0,12,0),.sl true true 1 s.1.length (lm (ik .i64) s.1))]⟩
def iT.j2:LJ 2 24 Unit (List Int):=⟨λr t e=>[(5,.own (0,12,0) 0 t.length t.length)],λr t h=>[((0,12,0),.sl true true 1 t.length (lm (ik .i64) t))]⟩
def iT.j1:LJ 1 8 Unit Unit:=⟨λr t e=>[(1,er e 1),(4,er e 4),(5,er e 5)],λr t h=>[((0,1,0),hr h (0,1,0)),((0,12,0),hr h (0,12,0))]⟩
open iT in
noncomputable abbrev ajE(fu:Nat):Cm prog bf ((List (List Int))×Int):=⟨202,fun t=>[.agg (ig t)],iT fu,fun r=> .tuple [.arr r.1.length (lm (eP (ik .i64)) r.1),.v (.int .i64 r.2)],by
 rintro x1
 refine pT fu YF Tryz.func202 [.tmp 2,.tmp 3] [72,34] [(qO fu).ct,(yD fu).ct,(Hu fu).ct,(ug fu).ct,(ajw fu).ct,(tZ fu).ct] [92,241,242,95,192,103] (λcp H=> ?_)
 obtain⟨H1,H2,H3,H4,H5,H6, -⟩:=H
 unfold iT
 have z0:=Da (aJ YF.eq_1)
 exact Wk,Zi⟩
def YG:TD:=[(0,[0,2,3]),(0,[1,4,38,39,40]),(6,[12,13,14,15]),(0,[]),(0,[16,17]),(0,[10,11]),(0,[18,19]),(0,[]),(0,[21,22,23,24]),(0,[]),(0,[25]),(0,[]),(0,[]),(0,[]),(0,[5,6,27,28,29,30,31,32]),(0,[]),(0,[8,33]),(0,[]),(0,[35,36,37]),(0,[]),(0,[1000009]),(0,[]),(0,[7]),(0,[]),(0,[]),(0,[]),(0,[42,43,44]),(0,[]),(0,[46,47,48,49,50,51]),(0,[]),(0,[52,53,54]),(0,[]),(0,[56,57,58]),(0,[]),(0,[59,60,61,62,63,64]),(0,[]),(0,[65,66]),(0,[]),(0,[68,69,70,71,72,73,74,75,76,77]),(0,[]),(0,[79,80]),(0,[]),(0,[81,82,83,84,85,86,87]),(0,[]),(0,[89,90,91,92,93]),(0,[]),(0,[94,95,96]),(0,[]),(0,[97]),(0,[]),(0,[9,98,99,100,101])]
def jf.m1:LJ 1 24 Unit ((List Int)×(List Int)×Int):=⟨λr s e=>[(1,er e 1),(4,.arr s.2.1.length (lm (ik .i64) s.2.1)),(9,.own (0,9,77) 0 s.1.length s.1.length),(38,er e 38),(39,er e 39),(40,.v (.int .i64 s.2.2))],λr s h=>[((0,1,0),hr h (0,1,0)),((0,30,0),hr h (0,30,0)),((0,9,77),.sl true true 1 s.1.length (lm (ik .i64) s.1))]⟩
def jf.j2:LJ 2 50 Unit (List Int):=⟨λr t e=>[(9,.own (0,9,77) 0 t.length t.length)],λr t h=>[((0,1,0),hr h (0,1,0)),((0,30,0),hr h (0,30,0)),((0,9,77),.sl true true 1 t.length (lm (ik .i64) t))]⟩
def jf.j1:LJ 1 14 Unit Int:=⟨λr t e=>[(1,er e 1),(4,er e 4),(5,er e 5),(6,.v (.int .i64 t))],λr t h=>[((0,1,0),hr h (0,1,0)),((0,15,0),hr h (0,15,0))]⟩
open jf in
noncomputable abbrev ajF(fu:Nat):Cm prog bf ((List (List Int))×Int):=⟨203,fun t=>[.agg (ig t)],jf fu,fun r=> .tuple [.arr r.1.length (lm (eP (ik .i64)) r.1),.v (.int .i64 r.2)],by
 rintro x1
 refine uA fu YG Tryz.func203 [.tmp 2,.tmp 3] [72,34] [(qO fu).ct,(yD fu).ct,(QP fu).ct,(wK fu).ct,(ug fu).ct,(tZ fu).ct] [92,241,180,88,95,103] (λcp H=> ?_)
 obtain⟨H1,H2,H3,H4,H5,H6, -⟩:=H
 unfold jf
 have z0:=Da (aJ YG.eq_1)
 have z1:=SE
 exact Wk,Zi⟩
def Y4:TD:=zz [[3],[],[4],[],[6,7,8],[],[0,1,9,10,11,12]]
noncomputable abbrev ajV(fu:Nat):Cm prog (Int×Int) Int:=⟨278,fun t=>[.v (.int .i64 t.1),.ay [.v (.int .i64 t.2)] 0],fun t=>zf fu t.1 t.2,fun r=> .v (.int .i64 r),by
 rintro⟨x1,x2⟩
 refine pT fu Y4 Tryz.func278 [.tmp 3] [3] [] [] (λcp H=> ?_)
 unfold zf
 have z0:=Da (aJ Y4.eq_1)
 exact Wk,Zi⟩
def YQ:TD:=[(0,[0,1,4,5]),(0,[]),(0,[7]),(0,[]),(0,[8]),(0,[]),(10,[10,11,12,13,14,15,16,17]),(0,[]),(7,[2,3,6,18,19,20,21,22])]
noncomputable abbrev ajP(fu:Nat):Cm prog (dh×Int) (Int×Int):=⟨245,fun t=>[.agg (mZ t.1),.v (.int .i64 t.2)],fun t=>BB fu t.1 t.2,fun r=> .tuple [.v (.int .i64 r.1),.v (.int .i64 r.2)],by
 rintro⟨x1,x2⟩
 refine pT fu YQ Tryz.func245 [.tmp 4,.tmp 5] [3,3] [(ajV fu).ct] [278] (λcp H=> ?_)
 obtain⟨H1, -⟩:=H
 dsimp only
 unfold BB
 have z0:=Da (aJ YQ.eq_1)
 exact Wk,Zi⟩
def YH:TD:=[(0,[0,2,3]),(0,[20]),(7,[14,15,16,17,18]),(0,[1,4,5]),(0,[19]),(0,[]),(0,[22]),(0,[]),(0,[23,24,25]),(0,[]),(0,[26]),(0,[]),(0,[28,29,30,31]),(0,[]),(0,[32,33,34,35,36,37,38]),(0,[]),(0,[6,39,40,41,42,43,44,45]),(0,[]),(0,[8,10,46,47,48,49,50]),(0,[]),(0,[]),(0,[]),(0,[7,9,52,53,54,55,56,57]),(0,[]),(0,[59]),(0,[]),(0,[60,61,62,63,64,65,66,67]),(0,[]),(0,[11,12,68,69,70,71,72,73,74,75]),(0,[]),(0,[77]),(0,[]),(0,[78,79,80]),(0,[]),(0,[82]),(0,[]),(0,[83,84]),(0,[]),(0,[85]),(0,[]),(0,[87,88,89]),(0,[]),(0,[13,90,91,92,93]),(0,[]),(0,[95,96,97]),(0,[]),(0,[98,99,100]),(0,[]),(0,[102,103,104,105,106,107,108,109,110,111,112,113,114]),(0,[]),(26,[115,116,117,118,119,120,121,122,123,124,125,126,127,128,129,130,131,132,133,134,135,136,137,138]),(0,[]),(0,[140,141,142,143,144,145,146,147,148,149,150,151,152,153,154,155,156,157,158]),(0,[]),(26,[159,160,161,162,163,164,165,166,167,168,169,170,171,172,173,174,175,176,177,178,179,180,181,182]),(0,[]),(0,[183,184,185])]
def iw.j2:LJ 2 22 Unit Unit:=⟨λr t e=>[(1,er e 1),(4,er e 4),(5,er e 5),(7,er e 7),(9,er e 9),(20,er e 20)],λr t h=>[((0,1,0),hr h (0,1,0))]⟩
def iw.j1:LJ 1 14 Unit Int:=⟨λr t e=>[(1,er e 1),(4,er e 4),(5,er e 5),(6,.v (.int .i64 t)),(20,er e 20)],λr t h=>[((0,1,0),hr h (0,1,0))]⟩
def iw.j3:LJ 3 56 Unit Unit:=⟨λr t e=>[],λr t h=>[((0,1,0),hr h (0,1,0))]⟩
open iw in
noncomputable abbrev ajG(fu:Nat):Cm prog bf ((List (List Int))×Int):=⟨204,fun t=>[.agg (ig t)],iw fu,fun r=> .tuple [.arr r.1.length (lm (eP (ik .i64)) r.1),.v (.int .i64 r.2)],by
 rintro x1
 refine zG fu ES (λcp=>fH) (λcp ok=>eY) YH Tryz.func204 [.tmp 2,.tmp 3] [72,34] [(qO fu).ct,(pJ fu).ct,(tZ fu).ct,(ajP fu).ct,(yD fu).ct,(Hu fu).ct,(ug fu).ct] [92,35,103,245,241,242,95] (λcp H=> ?_)
 obtain⟨H1,H2,H3,H4,H5,H6,H7, -⟩:=H
 unfold iw
 have z0:=Da (aJ YH.eq_1)
 have z1:=SE
 have z2:= @yg
 have z3:= @yw
 exact Wk,Zi⟩
def dA.m2:LJ 2 14 Unit (Bool×(List Int)×Int):=⟨λr s e=>[(1,er e 1),(4,er e 4),(5,.own (0,16,0) 0 s.2.1.length s.2.1.length),(12,er e 12),(21,er e 21),(22,er e 22),(23,.v (.int .i64 s.2.2))],λr s h=>[((0,1,0),bs (hr h (0,1,0)) 9 (.v (.bool s.1))),((0,16,0),.sl true true 1 s.2.1.length (lm (ik .i64) s.2.1))]⟩
def dA.j2:LJ 2 24 Unit (Bool×(List Int)):=⟨λr t e=>[(1,er e 1),(4,er e 4),(5,.own (0,16,0) 0 t.2.length t.2.length),(12,er e 12)],λr t h=>[((0,1,0),bs (hr h (0,1,0)) 9 (.v (.bool t.1))),((0,16,0),.sl true true 1 t.2.length (lm (ik .i64) t.2))]⟩
def dA.m1:LJ 1 2 Unit ((List Int)×Int×Int):=⟨λr s e=>[(0,er e 0),(2,.v (.int .i64 s.2.1)),(3,.v (.int .i64 s.2.2))],λr s h=>[((0,1,0),hr h (0,1,0)),((0,16,0),.sl true true 1 (hx h (0,16,0)) (lm (ik .i64) s.1))]⟩
def dA.j1:LJ 1 76 Unit Unit:=⟨λr t e=>[(1,er e 1)],λr t h=>[((0,1,0),hr h (0,1,0))]⟩
open dA in
noncomputable abbrev aks(fu:Nat):Cm prog bf ((List (List Int))×Int):=⟨96,fun t=>[.agg (ig t)],dA fu,fun r=> .tuple [.arr r.1.length (lm (eP (ik .i64)) r.1),.v (.int .i64 r.2)],by
 rintro x1
 refine pG fu (aaH [108]) (λcp=>(iE prog (aaH [108]) cp fH fu 108 wP ⟨GV,[],[]⟩ fH)) (λcp ok=>(je mixed ok eY Lc eY)) Aw.JK Tryz.func96 [.tmp 2,.tmp 3] [72,34] [(qO fu).ct,(sG fu).ct,(tZ fu).ct,(ajx fu).ct,(ajy fu).ct,(ajz fu).ct,(ajA fu).ct,(Hq fu).ct,(ajB fu).ct,(ajC fu).ct,(QQ fu).ct,(ug fu).ct,(ajD fu).ct,(ajE fu).ct,(ajF fu).ct,(ajG fu).ct] [92,42,103,194,195,196,197,198,199,200,193,95,201,202,203,204] (λcp H=> ?_)
 obtain⟨H1,H2,H3,H4,H5,H6,H7,H8,H9,H10,H11,H12,H13,H14,H15,H16, -⟩:=H
 unfold dA
 have z0:=Da (aJ Aw.JK.eq_1)
 have z1:=RL
 have z2:= @yg
 have z3:= @yw
 have z4:=lV
 have z5:=Tryz.f108.eq_1
 have z6:= @lY
 have z7:=RI
 have z8:=ed
 have z9:= @az.eq_1
 exact Wk,Zi⟩
def fV.j4:LJ 4 222 bf Unit:=⟨λr t e=>[(1,er e 1),(4,er e 4),(9,er e 9),(10,er e 10),(54,er e 54),(78,.v (.bool (decide (r.fop=71))))],λr t h=>[((0,1,0),hr h (0,1,0))]⟩
def fV.j3:LJ 3 190 Unit Bool:=⟨λr t e=>[(1,er e 1),(4,er e 4),(9,er e 9),(10,er e 10),(54,.v (.bool t))],λr t h=>[((0,1,0),hr h (0,1,0))]⟩
def fV.j2:LJ 2 82 bf Unit:=⟨λr t e=>[(1,er e 1),(4,er e 4),(9,er e 9),(10,.v (.bool (decide (r.fop=42))))],λr t h=>[((0,1,0),hr h (0,1,0))]⟩
def fV.j1:LJ 1 138 Unit Unit:=⟨λr t e=>[(4,er e 4)],λr t h=>[((0,1,0),hr h (0,1,0))]⟩
open fV in
noncomputable abbrev aj7(fu:Nat):Cm prog bf ((List (List Int))×Int):=⟨40,fun t=>[.agg (ig t)],fV fu,fun r=> .tuple [.arr r.1.length (lm (eP (ik .i64)) r.1),.v (.int .i64 r.2)],by
 rintro x1
 refine uA fu Aw.Jh Tryz.func40 [.tmp 2,.tmp 3] [72,34] [(qO fu).ct,(aks fu).ct,(tZ fu).ct] [92,96,103] (λcp H=> ?_)
 obtain⟨H1,H2,H3, -⟩:=H
 unfold fV
 have z0:=Da (aJ Aw.Jh.eq_1)
 have z1:=SE
 exact Wk,Zi⟩
def jV.j3:LJ 3 74 Unit Bool:=⟨λr t e=>[(1,er e 1),(4,er e 4),(5,er e 5),(17,.v (.bool t))],λr t h=>[((0,1,0),hr h (0,1,0))]⟩
def jV.j2:LJ 2 54 bf Unit:=⟨λr t e=>[(1,er e 1),(4,er e 4),(5,.v (.bool (decide (r.fop=41))))],λr t h=>[((0,1,0),hr h (0,1,0))]⟩
def jV.j1:LJ 1 50 Unit Unit:=⟨λr t e=>[(1,er e 1)],λr t h=>[((0,1,0),hr h (0,1,0))]⟩
open jV in
noncomputable abbrev aj8(fu:Nat):Cm prog bf Int:=⟨41,fun t=>[.agg (ig t)],jV fu,fun r=> .v (.int .i64 r),by
 rintro x1
 refine pT fu Aw.Ji Tryz.func41 [.tmp 2] [3] [(yC fu).ct] [104] (λcp H=> ?_)
 obtain⟨H1, -⟩:=H
 unfold jV
 have z0:=Da (aJ Aw.Ji.eq_1)
 exact Wk,Zi⟩
def kP.m1:LJ 1 24 Unit ((List aP)×Int):=⟨λr s e=>[(10,er e 10),(14,.own (0,14,77) 0 s.1.length s.1.length),(40,er e 40),(41,er e 41),(42,.v (.int .i64 s.2))],λr s h=>[((0,10,0),hr h (0,10,0)),((0,14,77),.sl true true 8 s.1.length (fm dE s.1))]⟩
open kP in
noncomputable abbrev Ho(fu:Nat):Cm prog (Int×dh×(List aP)×Int) ((List aP)×Int):=⟨19,fun t=>[.v (.int .i64 t.1),.agg (mZ t.2.1),.arr t.2.2.1.length (fm dE t.2.2.1),.v (.int .i64 t.2.2.2)],fun t=>kP fu t.1 t.2.1 t.2.2.1 t.2.2.2,fun r=> .tuple [.arr r.1.length (fm dE r.1),.v (.int .i64 r.2)],by
 rintro⟨x1,x2,x3,x4⟩
 refine uA fu Aw.IM Tryz.func19 [.tmp 8,.tmp 9] [50,34] [(aj3 fu).ct,(aj6 fu).ct,(aj7 fu).ct,(pJ fu).ct,(aj8 fu).ct,(sG fu).ct] [38,39,40,35,41,42] (λcp H=> ?_)
 obtain⟨H1,H2,H3,H4,H5,H6, -⟩:=H
 unfold kP
 have z0:=Da (aJ Aw.IM.eq_1)
 have z1:=SE
 exact Wk,Zi⟩
end Go.Av
