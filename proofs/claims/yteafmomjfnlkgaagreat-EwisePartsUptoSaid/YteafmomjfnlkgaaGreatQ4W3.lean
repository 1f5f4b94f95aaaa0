/- The walks of the plain functions, part 3. Made by a program of mine. Conditions: none. -/
import Derived.Test.YteafmomjfnlkgaaGreatQ4W2
set_option linter.unusedVariables false
set_option linter.unusedSimpArgs false
set_option linter.defProp false
set_option maxRecDepth 20000
set_option maxHeartbeats 20000000
open Go Go.Proofs
open Tryz (prog)
namespace Go.Av
variable {fu:Nat} {cp:af}
open Aw (uj uw qR uH tC tY tJ ul tV vI uh uX wu tq tu uQ uG tN vz uV uo tK vJ vU uF vF um uN uy uq uO vw uY vK vN uK uf uT ug vO uP uC ui tX tZ vV wo uA ww tH)
open Aw (d11)
def amF:=Da (aC Aw.d11.eq_1)
theorem i11:au prog 11 d11=some ⟨ae Tryz.f11,[.cell 6 28,.tmp 7],[28,34]⟩:=fA Tryz.func11
def e11:(T_Tensor×Int)->AV:=λr=> .tuple [.agg [.v (.int .i64 r.1.fType),.arr r.1.fDims.length (lm (ik .i64) r.1.fDims),.arr r.1.fF.length (lm (ik .u32) r.1.fF),.arr r.1.fI.length (lm (ik .i64) r.1.fI),.arr r.1.fB.length (lm (bk) r.1.fB)],.v (.int .i64 r.2)]
structure SG (fu:Nat) (cp:af):Prop where
 ap: ∀ {a0:Int} {r},rO fu a0=some r->cp 14 [.v (.int .i64 a0)]=some (.v (.bool r))
noncomputable def OM(fu:Nat):Cm prog Int Bool:=⟨14,λt=>[.v (.int .i64 t)],λt=>rO fu t,e14,λt b h=>atj fu t b h,Zi⟩
theorem u14(H:aI cp (OM fu).ct):SG fu cp:=⟨λ {a0 r} h=>(OM fu).at H a0 r h⟩
structure V4 (fu:Nat) (cp:af):Prop where
 ap: ∀ {a0:T_Tensor} {r},jO fu a0=some r->cp 51 [.agg (bV a0)]=some (.agg [.v (.int .i64 r.fType),.fresh 1 r.fDims.length (lm (ik .i64) r.fDims),.fresh 1 r.fF.length (lm (ik .u32) r.fF),.fresh 1 r.fI.length (lm (ik .i64) r.fI),.fresh 1 r.fB.length (lm (bk) r.fB)])
noncomputable def Oc(fu:Nat):Cm prog T_Tensor T_Tensor:=⟨51,λt=>[.agg (bV t)],λt=>jO fu t,e51,λt b h=>azM fu t b h,Zi⟩
theorem u51(H:aI cp (Oc fu).ct):V4 fu cp:=⟨λ {a0 r} h=>(Oc fu).at H a0 r h⟩
structure K22 (fu:Nat) (cp:af):Prop where
 ap: ∀ {a0:List T_Tensor} {r},ku fu a0=some r->cp 22 [.arr a0.length (fm bV a0)]=some (.arr r.length (fm cO r))
noncomputable def PG(fu:Nat):Cm prog (List T_Tensor) (List aQ):=⟨22,λt=>[.arr t.length (fm bV t)],λt=>ku fu t,e22,λt b h=>aDv fu t b h,Zi⟩
theorem u22(H:aI cp (PG fu).ct):K22 fu cp:=⟨λ {a0 r} h=>(PG fu).at H a0 r h⟩
structure K52 (fu:Nat) (cp:af):Prop where
 ap: ∀ {a0:Int} {a1:T_Setting} {a2:List aQ} {a3:Int} {r},jG fu a0 a1 a2 a3=some r->cp 52 [.v (.int .i64 a0),.agg (dL a1),.arr a2.length (fm cO a2),.v (.int .i64 a3)]=some (.tuple [.arr r.1.length (fm cO r.1),.v (.int .i64 r.2)])
noncomputable def MV(fu:Nat):Cm prog (Int×T_Setting×(List aQ)×Int) ((List aQ)×Int):=⟨52,λt=>[.v (.int .i64 t.1),.agg (dL t.2.1),.arr t.2.2.1.length (fm cO t.2.2.1),.v (.int .i64 t.2.2.2)],λt=>jG fu t.1 t.2.1 t.2.2.1 t.2.2.2,e52,λt b h=>arf fu t.1 t.2.1 t.2.2.1 t.2.2.2 b h,Zi⟩
theorem u52(H:aI cp (MV fu).ct):K52 fu cp:=⟨λ {a0 a1 a2 a3 r} h=>(MV fu).at H (a0,a1,a2,a3) r h⟩
structure K53 (fu:Nat) (cp:af):Prop where
 ap: ∀ {a0:Int} {a1:List Int} {r},qM fu a0 a1=some r->cp 53 [.v (.int .i64 a0),.arr a1.length (lm (ik .i64) a1)]=some (.tuple [.agg [.v (.int .i64 r.1.fType),.fresh 1 r.1.fDims.length (lm (ik .i64) r.1.fDims),.fresh 1 r.1.fF.length (lm (ik .u32) r.1.fF),.fresh 1 r.1.fI.length (lm (ik .i64) r.1.fI),.fresh 1 r.1.fB.length (lm (bk) r.1.fB)],.v (.int .i64 r.2)])
noncomputable def PH(fu:Nat):Cm prog (Int×(List Int)) (T_Tensor×Int):=⟨53,λt=>[.v (.int .i64 t.1),.arr t.2.length (lm (ik .i64) t.2)],λt=>qM fu t.1 t.2,e53,λt b h=>afC fu t.1 t.2 b h,Zi⟩
theorem u53(H:aI cp (PH fu).ct):K53 fu cp:=⟨λ {a0 a1 r} h=>(PH fu).at H (a0,a1) r h⟩
structure Tz (fu:Nat) (cp:af):Prop where
 ap: ∀ {a0:dN} {r},fU fu a0=some r->cp 26 [.aF (kN a0) 0]=some (.v (.bool r))
noncomputable def Ns(fu:Nat):Cm prog dN Bool:=⟨26,λt=>[.aF (kN t) 0],λt=>fU fu t,e26,λt b h=>aod fu t b h,Zi⟩
theorem u26(H:aI cp (Ns fu).ct):Tz fu cp:=⟨λ {a0 r} h=>(Ns fu).at H a0 r h⟩
structure ZB (fu:Nat) (cp:af):Prop where
 ap: ∀ {a0:Int} {a1:T_Setting} {r},mV fu a0 a1=some r->cp 56 [.v (.int .i64 a0),.agg (dL a1)]=some (.agg [kZ r.1 r.2,lg r.1 r.2,lu r.1 r.2,kR r.1 r.2,lq r.1 r.2])
noncomputable def Oj(fu:Nat):Cm prog (Int×T_Setting) (Int×T_Setting):=⟨56,λt=>[.v (.int .i64 t.1),.agg (dL t.2)],λt=>mV fu t.1 t.2,e56,λt b h=>aLj fu t.1 t.2 b h,Zi⟩
theorem u56(H:aI cp (Oj fu).ct):ZB fu cp:=⟨λ {a0 a1 r} h=>(Oj fu).at H (a0,a1) r h⟩
structure aan (fu:Nat) (cp:af):Prop where
 ap: ∀ {a0:dN} {a1:Int} {r},oL fu a0 a1=some r->cp 138 [.aF (kN a0) 0,.v (.int .i64 a1)]=some (.v (.bool r))
noncomputable def PY(fu:Nat):Cm prog (dN×Int) Bool:=⟨138,λt=>[.aF (kN t.1) 0,.v (.int .i64 t.2)],λt=>oL fu t.1 t.2,e138,λt b h=>aDq fu t.1 t.2 b h,Zi⟩
theorem u138(H:aI cp (PY fu).ct):aan fu cp:=⟨λ {a0 a1 r} h=>(PY fu).at H (a0,a1) r h⟩
def aN.m2:LJ 2 4 Unit ((List Int)×(List Int)×Int):=⟨λr s e=>[(0,er e 0),(1,er e 1),(10,.own (3,10,0) 0 s.2.1.length s.2.1.length),(11,er e 11),(12,.v (.int .i64 s.2.2))],λr s h=>[((0,6,0),hr h (0,6,0)),((1,20,0),hr h (1,20,0)),((1,8,115),hr h (1,8,115)),((1,68,0),hr h (1,68,0)),((1,68,1),.sl true true 1 (hx h (1,68,1)) (lm (ik .u32) s.1)),((1,68,2),hr h (1,68,2)),((1,68,3),hr h (1,68,3)),((2,6,0),hr h (2,6,0)),((3,10,0),.sl true true 1 s.2.1.length (lm (ik .i64) s.2.1))]⟩
def aN.m3:LJ 3 4 Unit ((List Int)×(List Int)×Int):=⟨λr s e=>[(0,er e 0),(1,er e 1),(10,.own (3,10,0) 0 s.2.1.length s.2.1.length),(11,er e 11),(12,.v (.int .i64 s.2.2))],λr s h=>[((0,6,0),hr h (0,6,0)),((1,20,0),hr h (1,20,0)),((1,8,115),hr h (1,8,115)),((1,68,0),hr h (1,68,0)),((1,68,1),hr h (1,68,1)),((1,68,2),.sl true true 1 (hx h (1,68,2)) (lm (ik .i64) s.1)),((1,68,3),hr h (1,68,3)),((2,6,0),hr h (2,6,0)),((3,10,0),.sl true true 1 s.2.1.length (lm (ik .i64) s.2.1))]⟩
def aN.m4:LJ 4 4 Unit ((List Int)×(List Int)×Int):=⟨λr s e=>[(0,er e 0),(1,er e 1),(10,.own (3,10,0) 0 s.2.1.length s.2.1.length),(11,er e 11),(12,.v (.int .i64 s.2.2))],λr s h=>[((0,6,0),hr h (0,6,0)),((1,20,0),hr h (1,20,0)),((1,8,115),hr h (1,8,115)),((1,68,0),hr h (1,68,0)),((1,68,1),hr h (1,68,1)),((1,68,2),.sl true true 1 (hx h (1,68,2)) (lm (ik .i64) s.1)),((1,68,3),hr h (1,68,3)),((2,6,0),hr h (2,6,0)),((3,10,0),.sl true true 1 s.2.1.length (lm (ik .i64) s.2.1))]⟩
def aN.m1:LJ 1 4 Unit ((List Int)×(List Int)×(List Bool)×Int):=⟨λr s e=>[(0,er e 0),(2,er e 2),(6,er e 6),(7,.v (.int .i64 s.2.2.2))],λr s h=>[((0,6,0),hr h (0,6,0)),((1,20,0),bs (bs (hr h (1,20,0)) 40 (.own (1,68,1) 0 s.1.length s.1.length)) 41 (.own (1,68,2) 0 s.2.1.length s.2.1.length)),((1,8,115),hr h (1,8,115)),((1,68,0),hr h (1,68,0)),((1,68,1),.sl true true 1 s.1.length (lm (ik .u32) s.1)),((1,68,2),.sl true true 1 s.2.1.length (lm (ik .i64) s.2.1)),((1,68,3),.sl true true 1 (hx h (1,68,3)) (lm (bk) s.2.2.1)),((2,6,0),hr h (2,6,0))]⟩
def aN.m5:LJ 5 10 Unit ((List T_Tensor)×Int):=⟨λr s e=>[(0,er e 0),(2,er e 2),(4,er e 4),(8,er e 8),(21,er e 21),(22,er e 22),(23,.v (.int .i64 s.2))],λr s h=>[((0,4,0),hr h (0,4,0)),((0,6,0),hr h (0,6,0)),((1,4,0),hr h (1,4,0)),((1,20,0),bs (hr h (1,20,0)) 37 (.own (1,8,115) 0 s.1.length s.1.length)),((1,8,115),.sl true true 5 s.1.length (fm bV s.1))]⟩
def aN.j1:LJ 1 26 Unit (List T_Tensor):=⟨λr t e=>[(0,er e 0),(2,er e 2),(4,er e 4),(8,er e 8)],λr t h=>[((0,4,0),hr h (0,4,0)),((0,6,0),hr h (0,6,0)),((1,4,0),hr h (1,4,0)),((1,20,0),bs (hr h (1,20,0)) 37 (.own (1,8,115) 0 t.length t.length)),((1,8,115),.sl true true 5 t.length (fm bV t))]⟩
noncomputable def LX(cp:af)(fu:Nat):bg:=dO prog (bH [25,27,59,58,57,60]) cp aj fu 60 AU ⟨LD,[],[]⟩ aj
theorem adt{cp:af}{fu:Nat}(ok:aJ prog cp):dU prog (LX cp fu):=iF mixed ok aB i60 aB
noncomputable def Ny(cp:af)(fu:Nat):bg:=dO prog (bH [25,27,59,58,57,60]) cp (LX cp fu) fu 57 Py ⟨NJ,[],[]⟩ (LX cp fu)
theorem adV{cp:af}{fu:Nat}(ok:aJ prog cp):dU prog (Ny cp fu):=iF mixed ok (adt ok) i57 (adt ok)
noncomputable def Oy(cp:af)(fu:Nat):bg:=dO prog (bH [25,27,59,58,57,60]) cp (Ny cp fu) fu 58 KR ⟨NE,[],[]⟩ (Ny cp fu)
theorem abY{cp:af}{fu:Nat}(ok:aJ prog cp):dU prog (Oy cp fu):=iF mixed ok (adV ok) i58 (adV ok)
noncomputable def Ky(cp:af)(fu:Nat):bg:=dO prog (bH [25,27,59,58,57,60]) cp (Oy cp fu) fu 59 MN ⟨OQ,[],[]⟩ (Oy cp fu)
theorem aki{cp:af}{fu:Nat}(ok:aJ prog cp):dU prog (Ky cp fu):=iF mixed ok (abY ok) i59 (abY ok)
noncomputable def EG(cp:af)(fu:Nat):bg:=dO prog (bH [25,27,59,58,57,60]) cp (Ky cp fu) fu 27 tC ⟨b27,[],[]⟩ (Ky cp fu)
theorem aAA{cp:af}{fu:Nat}(ok:aJ prog cp):dU prog (EG cp fu):=iF mixed ok (aki ok) i27 (aki ok)
set_option maxHeartbeats 400000000 in
open aN in
theorem w11(cp:af)(fu:Nat)(x1:Int)(x2:T_Setting)(x3:List T_Tensor)(H1:SG fu cp)(H2:JC fu cp)(H3:V4 fu cp)(H4:K22 fu cp)(H5:K52 fu cp)(H6:K53 fu cp)(H7:vC fu cp)(H8:Tz fu cp)(H9:ZB fu cp)(H10:Og fu cp)(H11:aan fu cp)(H12:Dn fu cp)(H13:oV fu cp)(H14:Jy fu cp)(H15:NW fu cp)(H16:WJ fu cp)(H17:Yo fu cp)(H18:abu fu cp)(H19:abG fu cp)(H20:YV fu cp):J (go prog (bH [25,27,59,58,57,60]) cp (dO prog (bH [25,27,59,58,57,60]) cp (EG cp fu) fu 25 qR ⟨b25,[.tmp 6,.tmp 7],[56,34]⟩ (EG cp fu)) 0 [] d11 fu (qI prog [.cell 6 28,.tmp 7] [28,34]) (ae Tryz.f11) (ay 0 [.v (.int .i64 x1),.agg (dL x2),.arr x3.length (fm bV x3)]) [] []) (aN fu x1 x2 x3) e11:=by
 unfold EG Ky Oy Ny LX
 unfold aN e11
 have da:=amF
 conv=>arg 1;simp only[ae,Tryz.f11]
 have z0:=amF
 have z1:=SE
 have z2:=RL
 have z3:=aeB
 have z4:=Tryz.f25.eq_1
 have z5:= @amh
 have z6:=agd
 have z7:=Tryz.f27.eq_1
 have z8:= @akS
 have z9:=amv
 have z10:=Tryz.f59.eq_1
 have z11:= @akx
 have z12:=amR
 have z13:=Tryz.f58.eq_1
 have z14:= @alg
 have z15:=adf
 have z16:=Tryz.f57.eq_1
 have z17:= @acQ
 have z18:=adp
 have z19:=Tryz.f60.eq_1
 have z20:= @ai9
 have z21:=RI
 have z22:=iO
 have z23:= @ae.eq_1
 have z24:= @ajM
 have z25:= @WV
 have z26:= @ahA
 have z27:= @ael
 have z28:= @ahj
 have z29:= @aaT
 have z30:= @alX
 have z31:= @amm
 have z32:= @abU
 have z33:= @Tq
 have z34:= @abL
 have z35:= @abK
 have z36:= @acI
 have z37:= @Zl
 have z38:= @aks
 have z39:= @akP
 have z40:= @adX
 have z41:= @aau
 have z42:= @acb
 have z43:= @amP
 have z44:= @ab6 (bH [25,27,59,58,57,60]) (by decide)
 have z45:= @agF (bH [25,27,59,58,57,60]) (by decide)
 have z46:= @akz (bH [25,27,59,58,57,60]) (by decide)
 have z47:= @aew (bH [25,27,59,58,57,60]) (by decide)
 have z48:= @acY (bH [25,27,59,58,57,60]) (by decide)
 have z49:= @aio (bH [25,27,59,58,57,60]) (by decide)
 have z50:= @ajL (bH [25,27,59,58,57,60]) (by decide)
 have z51:= @adw (bH [25,27,59,58,57,60]) (by decide)
 have z52:= @afu (bH [25,27,59,58,57,60]) (by decide)
 have z53:= @afJ (bH [25,27,59,58,57,60]) (by decide)
 exact Wk
theorem aro(fu:Nat)(x1:Int)(x2:T_Setting)(x3:List T_Tensor)(r)(h:aN fu x1 x2 x3=some r):aA prog 11 [.v (.int .i64 x1),.agg (dL x2),.arr x3.length (fm bV x3)] (e11 r):=zk mixed [(OM fu).ct,(Hg fu).ct,(Oc fu).ct,(PG fu).ct,(MV fu).ct,(PH fu).ct,(sW fu).ct,(Ns fu).ct,(Oj fu).ct,(Gi fu).ct,(PY fu).ct,(Az fu).ct,(oC fu).ct,(Ja fu).ct,(GZ fu).ct,(Pm fu).ct,(QM fu).ct,(Qj fu).ct,(Jr fu).ct,(PK fu).ct,(xG fu).ct,(Ap fu).ct,(oq fu).ct,(xP fu).ct,(Qq fu).ct,(QX fu).ct,(Fp fu).ct,(zh fu).ct,(PD fu).ct,(Jt fu).ct,(PL fu).ct,(KT fu).ct,(Lu fu).ct,(Qc fu).ct,(IW fu).ct,(Q3 fu).ct,(Qk fu).ct,(QP fu).ct,(NM fu).ct,(Lr fu).ct,(Lc fu).ct,(wL fu).ct,(nZ fu).ct,(Lp fu).ct,(Rl fu).ct,(NQ fu).ct,(Ql fu).ct,(Jm fu).ct,(Nh fu).ct,(Nu fu).ct,(Oz fu).ct,(KY fu).ct,(MP fu).ct,(NS fu).ct,(Pj fu).ct,(Ri fu).ct,(MO fu).ct] (ids:=[14,50,51,22,52,53,54,26,56,55,138,139,140,141,107,299,203,205,306,214,216,212,209,204,217,218,215,206,220,221,222,224,225,226,227,323,229,230,231,123,125,128,130,132,134,136,129,131,133,135,137,119,120,121,122,127,118]) rfl (by decide) i11 (C:=(bH [25,27,59,58,57,60])) (ci:=λcp=>(dO prog (bH [25,27,59,58,57,60]) cp (EG cp fu) fu 25 qR ⟨b25,[.tmp 6,.tmp 7],[56,34]⟩ (EG cp fu))) (λcp ok=>iF mixed ok (aAA ok) i25 (aAA ok)) (λcp H=>have h1:=H.2.2.2.2.2.2.2.2;have h2:=h1.2.2.2.2.2.2.2.2;have h3:=h2.2.2.2.2.2.2.2.2;have h4:=h3.2.2.2.2.2.2.2.2;have h5:=h4.2.2.2.2.2.2.2.2;have h6:=h5.2.2.2.2.2.2.2.2;have h7:=h6.2.2.2.2.2.2.2.2;w11 cp fu x1 x2 x3 (u14 H.1) (u50 H.2.1) (u51 H.2.2.1) (u22 H.2.2.2.1) (u52 H.2.2.2.2.1) (u53 H.2.2.2.2.2.1) (xw H.2.2.2.2.2.2.1) (u26 H.2.2.2.2.2.2.2.1) (u56 h1.1) (u55 h1.2.1) (u138 h1.2.2.1) (u139 h1.2.2.2.1) (pV h1.2.2.2.2.1) (aaH h1.2.2.2.2.2.1) (VG h1.2.2.2.2.2.2.1) (aiV (akI h1.2.2.2.2.2.2.2.1) (ai7 h2.1) (agA h2.2.1) (aia h2.2.2.1) (aho h2.2.2.2.1) (BL h2.2.2.2.2.1) (Gz h2.2.2.2.2.2.1) (qG h2.2.2.2.2.2.2.1) (Bh h2.2.2.2.2.2.2.2.1) (agI h3.1) (aix h3.2.1) (KC h3.2.2.1) (u206 h3.2.2.2.1)) (ahI (ai8 h3.2.2.2.2.1) (amA h3.2.2.2.2.2.1) (aga h3.2.2.2.2.2.2.1) (aeh h3.2.2.2.2.2.2.2.1) (ahY h4.1) (agO h4.2.1) (U4 h4.2.2.1) (aeL h4.2.2.2.1) (ahL h4.2.2.2.2.1) (adm h4.2.2.2.2.2.1) (agX h4.2.2.2.2.2.2.1)) (ahX (agf h4.2.2.2.2.2.2.2.1) (ahi h5.1) (zX h5.2.1) (qp h5.2.2.1) (afH h5.2.2.2.1) (ajX h5.2.2.2.2.1) (acX h5.2.2.2.2.2.1)) (ag4 (agC h5.2.2.2.2.2.2.1) (u131 h5.2.2.2.2.2.2.2.1) (ajs h6.1) (amn h6.2.1) (ak2 h6.2.2.1)) (ahK (u119 h6.2.2.2.1) (aeK h6.2.2.2.2.1) (agy h6.2.2.2.2.2.1) (acH h6.2.2.2.2.2.2.1) (u127 h6.2.2.2.2.2.2.2.1) (ahR h7.1))) h
end Go.Av
