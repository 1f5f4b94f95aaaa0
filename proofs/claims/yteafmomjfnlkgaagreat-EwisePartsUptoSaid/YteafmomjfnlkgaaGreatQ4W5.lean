/- The walks of the plain functions, part 3. Made by a program of mine. Conditions: none. -/
import Derived.Test.YteafmomjfnlkgaaGreatQ4W4
import Derived.Test.YteafmomjfnlkgaaGreatUb
set_option linter.unusedVariables false
set_option linter.unusedSimpArgs false
set_option linter.defProp false
set_option maxRecDepth 20000
set_option maxHeartbeats 20000000
open Go Go.Proofs
open Tryz (prog)
namespace Go.Av
variable {fu:Nat} {cp:af}
open Aw (uj uw qR uH tC tY tJ ul tV vI uh uX wu tq tu uQ uG tN vz uV uo tK vJ vU uF vF um uN uy uq uO vw uY vK vN uK uf uT ug vO uP uC ui tX tZ vV wo uA ww tH)
open Aw (d11)
def CS:TD:=zz [[1,11],[15],[0,2,6,16,17,18,19,20,21,22],[],[23],[],[25,26],[],[13,27],[],[29],[],[30,31,32,33,34,35,36,37,38,39,40,41,42,43],[],[45],[],[46,47,48,49],[],[1000014],[],[50],[],[51,52],[],[54,55],[],[56,57,58,59],[],[3,4,12,14,60,61,62,63,64,65,66,67,68,69,70,71]]
def acz:=Da (aC CS.eq_1)
theorem Xa:au prog 15 CS=some ⟨ae Tryz.f15,[.cell 10 28,.tmp 11],[28,34]⟩:=fA Tryz.func15
def e15:(T_Tensor×Int)->AV:=λr=> .tuple [.agg [.v (.int .i64 r.1.fType),.fresh 1 r.1.fDims.length (lm (ik .i64) r.1.fDims),.fresh 1 r.1.fF.length (lm (ik .u32) r.1.fF),.fresh 1 r.1.fI.length (lm (ik .i64) r.1.fI),.fresh 1 r.1.fB.length (lm (bk) r.1.fB)],.v (.int .i64 r.2)]
structure K34 (fu:Nat) (cp:af):Prop where
 ap: ∀ {a0:T_Tensor} {a1:List Int} {a2:List Int} {r},bC fu a0 a1 a2=some r->cp 34 [.agg (bV a0),.arr a1.length (lm (ik .i64) a1),.arr a2.length (lm (ik .i64) a2)]=some (.tuple [.agg [.v (.int .i64 r.1.fType),.fresh 1 r.1.fDims.length (lm (ik .i64) r.1.fDims),.fresh 1 r.1.fF.length (lm (ik .u32) r.1.fF),.fresh 1 r.1.fI.length (lm (ik .i64) r.1.fI),.fresh 1 r.1.fB.length (lm (bk) r.1.fB)],.v (.int .i64 r.2)])
noncomputable def VH(fu:Nat):Cm prog (T_Tensor×(List Int)×(List Int)) (T_Tensor×Int):=⟨34,λt=>[.agg (bV t.1),.arr t.2.1.length (lm (ik .i64) t.2.1),.arr t.2.2.length (lm (ik .i64) t.2.2)],λt=>bC fu t.1 t.2.1 t.2.2,e34,λt b h=>ayI fu t.1 t.2.1 t.2.2 b h,Zi⟩
theorem u34(H:aI cp (VH fu).ct):K34 fu cp:=⟨λ {a0 a1 a2 r} h=>(VH fu).at H (a0,a1,a2) r h⟩
def bu.m2:LJ 2 4 Unit ((List Int)×(List Int)×Int):=⟨λr s e=>[(0,er e 0),(1,er e 1),(10,.own (3,10,0) 0 s.2.1.length s.2.1.length),(11,er e 11),(12,.v (.int .i64 s.2.2))],λr s h=>[((0,10,0),hr h (0,10,0)),((1,20,0),hr h (1,20,0)),((1,8,115),hr h (1,8,115)),((1,68,0),hr h (1,68,0)),((1,68,1),.sl true true 1 (hx h (1,68,1)) (lm (ik .u32) s.1)),((1,68,2),hr h (1,68,2)),((1,68,3),hr h (1,68,3)),((2,6,0),hr h (2,6,0)),((3,10,0),.sl true true 1 s.2.1.length (lm (ik .i64) s.2.1))]⟩
def bu.m3:LJ 3 4 Unit ((List Int)×(List Int)×Int):=⟨λr s e=>[(0,er e 0),(1,er e 1),(10,.own (3,10,0) 0 s.2.1.length s.2.1.length),(11,er e 11),(12,.v (.int .i64 s.2.2))],λr s h=>[((0,10,0),hr h (0,10,0)),((1,20,0),hr h (1,20,0)),((1,8,115),hr h (1,8,115)),((1,68,0),hr h (1,68,0)),((1,68,1),hr h (1,68,1)),((1,68,2),.sl true true 1 (hx h (1,68,2)) (lm (ik .i64) s.1)),((1,68,3),hr h (1,68,3)),((2,6,0),hr h (2,6,0)),((3,10,0),.sl true true 1 s.2.1.length (lm (ik .i64) s.2.1))]⟩
def bu.m4:LJ 4 4 Unit ((List Int)×(List Int)×Int):=⟨λr s e=>[(0,er e 0),(1,er e 1),(10,.own (3,10,0) 0 s.2.1.length s.2.1.length),(11,er e 11),(12,.v (.int .i64 s.2.2))],λr s h=>[((0,10,0),hr h (0,10,0)),((1,20,0),hr h (1,20,0)),((1,8,115),hr h (1,8,115)),((1,68,0),hr h (1,68,0)),((1,68,1),hr h (1,68,1)),((1,68,2),.sl true true 1 (hx h (1,68,2)) (lm (ik .i64) s.1)),((1,68,3),hr h (1,68,3)),((2,6,0),hr h (2,6,0)),((3,10,0),.sl true true 1 s.2.1.length (lm (ik .i64) s.2.1))]⟩
def bu.m5:LJ 5 22 Unit ((List Int)×Int):=⟨λr s e=>[(3,er e 3),(4,er e 4),(10,er e 10),(12,er e 12),(14,.own (0,14,77) 0 s.1.length s.1.length),(15,.v (.int .i64 s.2))],λr s h=>[((0,10,0),hr h (0,10,0)),((1,20,0),hr h (1,20,0)),((1,8,115),hr h (1,8,115)),((1,68,0),hr h (1,68,0)),((1,68,1),hr h (1,68,1)),((1,68,2),hr h (1,68,2)),((1,68,3),hr h (1,68,3)),((0,14,77),.sl true true 1 s.1.length (lm (ik .i64) s.1))]⟩
def bu.j3:LJ 3 28 Unit (List Int):=⟨λr t e=>[(3,er e 3),(4,er e 4),(10,er e 10),(12,er e 12),(14,.own (0,14,77) 0 t.length t.length)],λr t h=>[((0,10,0),hr h (0,10,0)),((1,20,0),hr h (1,20,0)),((1,8,115),hr h (1,8,115)),((1,68,0),hr h (1,68,0)),((1,68,1),hr h (1,68,1)),((1,68,2),hr h (1,68,2)),((1,68,3),hr h (1,68,3)),((0,14,77),.sl true true 1 t.length (lm (ik .i64) t))]⟩
def bu.m1:LJ 1 4 Unit ((List Int)×(List Int)×(List Bool)×Int):=⟨λr s e=>[(0,er e 0),(2,er e 2),(6,er e 6),(7,.v (.int .i64 s.2.2.2))],λr s h=>[((0,10,0),hr h (0,10,0)),((1,20,0),bs (bs (hr h (1,20,0)) 40 (.own (1,68,1) 0 s.1.length s.1.length)) 41 (.own (1,68,2) 0 s.2.1.length s.2.1.length)),((1,8,115),hr h (1,8,115)),((1,68,0),hr h (1,68,0)),((1,68,1),.sl true true 1 s.1.length (lm (ik .u32) s.1)),((1,68,2),.sl true true 1 s.2.1.length (lm (ik .i64) s.2.1)),((1,68,3),.sl true true 1 (hx h (1,68,3)) (lm (bk) s.2.2.1)),((2,6,0),hr h (2,6,0))]⟩
def bu.j2:LJ 2 16 Unit Unit:=⟨λr t e=>[(3,er e 3),(4,er e 4),(10,er e 10),(12,er e 12)],λr t h=>[((0,10,0),hr h (0,10,0)),((1,20,0),hr h (1,20,0)),((1,8,115),hr h (1,8,115)),((1,68,0),hr h (1,68,0)),((1,68,1),hr h (1,68,1)),((1,68,2),hr h (1,68,2)),((1,68,3),hr h (1,68,3))]⟩
def bu.m6:LJ 6 10 Unit ((List T_Tensor)×Int):=⟨λr s e=>[(0,er e 0),(2,er e 2),(4,er e 4),(8,er e 8),(21,er e 21),(22,er e 22),(23,.v (.int .i64 s.2))],λr s h=>[((0,6,0),hr h (0,6,0)),((0,10,0),hr h (0,10,0)),((1,4,0),hr h (1,4,0)),((1,20,0),bs (hr h (1,20,0)) 37 (.own (1,8,115) 0 s.1.length s.1.length)),((1,8,115),.sl true true 5 s.1.length (fm bV s.1))]⟩
def bu.j1:LJ 1 26 Unit (List T_Tensor):=⟨λr t e=>[(0,er e 0),(2,er e 2),(4,er e 4),(8,er e 8)],λr t h=>[((0,6,0),hr h (0,6,0)),((0,10,0),hr h (0,10,0)),((1,4,0),hr h (1,4,0)),((1,20,0),bs (hr h (1,20,0)) 37 (.own (1,8,115) 0 t.length t.length)),((1,8,115),.sl true true 5 t.length (fm bV t))]⟩
noncomputable def Qh(cp:af)(fu:Nat):bg:=dO prog (bH [25,27,59,58,57,60]) cp aj fu 60 AU ⟨LD,[],[]⟩ aj
theorem adP{cp:af}{fu:Nat}(ok:aJ prog cp):dU prog (Qh cp fu):=iF mixed ok aB i60 aB
noncomputable def Nz(cp:af)(fu:Nat):bg:=dO prog (bH [25,27,59,58,57,60]) cp (Qh cp fu) fu 57 Py ⟨NJ,[],[]⟩ (Qh cp fu)
theorem ajG{cp:af}{fu:Nat}(ok:aJ prog cp):dU prog (Nz cp fu):=iF mixed ok (adP ok) i57 (adP ok)
noncomputable def Q7(cp:af)(fu:Nat):bg:=dO prog (bH [25,27,59,58,57,60]) cp (Nz cp fu) fu 58 KR ⟨NE,[],[]⟩ (Nz cp fu)
theorem ajS{cp:af}{fu:Nat}(ok:aJ prog cp):dU prog (Q7 cp fu):=iF mixed ok (ajG ok) i58 (ajG ok)
noncomputable def Ry(cp:af)(fu:Nat):bg:=dO prog (bH [25,27,59,58,57,60]) cp (Q7 cp fu) fu 59 MN ⟨OQ,[],[]⟩ (Q7 cp fu)
theorem alK{cp:af}{fu:Nat}(ok:aJ prog cp):dU prog (Ry cp fu):=iF mixed ok (ajS ok) i59 (ajS ok)
noncomputable def Dj(cp:af)(fu:Nat):bg:=dO prog (bH [25,27,59,58,57,60]) cp (Ry cp fu) fu 27 tC ⟨b27,[],[]⟩ (Ry cp fu)
theorem apt{cp:af}{fu:Nat}(ok:aJ prog cp):dU prog (Dj cp fu):=iF mixed ok (alK ok) i27 (alK ok)
set_option maxHeartbeats 400000000 in
open bu in
theorem w15(cp:af)(fu:Nat)(x1:Int)(x2:T_Setting)(x3:List T_Tensor)(x4:Int)(x5:Int)(H1:SG fu cp)(H2:JC fu cp)(H3:V4 fu cp)(H4:K22 fu cp)(H5:K52 fu cp)(H6:K53 fu cp)(H7:vC fu cp)(H8:Tz fu cp)(H9:ZB fu cp)(H10:Og fu cp)(H11:aan fu cp)(H12:Dn fu cp)(H13:oV fu cp)(H14:Jy fu cp)(H15:NW fu cp)(H16:K34 fu cp)(H17:WJ fu cp)(H18:Yo fu cp)(H19:abu fu cp)(H20:abG fu cp)(H21:YV fu cp):J (go prog (bH [25,27,59,58,57,60]) cp (dO prog (bH [25,27,59,58,57,60]) cp (Dj cp fu) fu 25 qR ⟨b25,[.tmp 6,.tmp 7],[56,34]⟩ (Dj cp fu)) 0 [] CS fu (fin prog [.cell 10 28,.tmp 11] [28,34]) (ae Tryz.f15) (ay 0 [.v (.int .i64 x1),.agg (dL x2),.arr x3.length (fm bV x3),.v (.int .i64 x4),.v (.int .i64 x5)]) [] []) (bu fu x1 x2 x3 x4 x5) e15:=by
 unfold Dj Ry Q7 Nz Qh
 unfold bu e15
 have da:=acz
 conv=>arg 1;simp only[ae,Tryz.f15]
 have z0:=acz
 have z1:=RL
 have z2:=aeB
 have z3:=Tryz.f25.eq_1
 have z4:= @amh
 have z5:=agd
 have z6:=Tryz.f27.eq_1
 have z7:= @akS
 have z8:=amv
 have z9:=Tryz.f59.eq_1
 have z10:= @akx
 have z11:=amR
 have z12:=Tryz.f58.eq_1
 have z13:= @alg
 have z14:=adf
 have z15:=Tryz.f57.eq_1
 have z16:= @acQ
 have z17:=adp
 have z18:=Tryz.f60.eq_1
 have z19:= @ai9
 have z20:=RI
 have z21:=iO
 have z22:= @ae.eq_1
 have z23:= @ajM
 have z24:= @WV
 have z25:= @ahA
 have z26:= @ael
 have z27:= @ahj
 have z28:= @aaT
 have z29:= @alX
 have z30:= @amm
 have z31:= @abU
 have z32:= @Tq
 have z33:= @abL
 have z34:= @abK
 have z35:= @acI
 have z36:= @Zl
 have z37:= @aks
 have z38:= @akP
 have z39:= @adX
 have z40:= @aau
 have z41:= @acb
 have z42:= @amP
 have z43:= @ab6 (bH [25,27,59,58,57,60]) (by decide)
 have z44:= @agF (bH [25,27,59,58,57,60]) (by decide)
 have z45:= @akz (bH [25,27,59,58,57,60]) (by decide)
 have z46:= @aew (bH [25,27,59,58,57,60]) (by decide)
 have z47:= @acY (bH [25,27,59,58,57,60]) (by decide)
 have z48:= @aio (bH [25,27,59,58,57,60]) (by decide)
 have z49:= @ajL (bH [25,27,59,58,57,60]) (by decide)
 have z50:= @adw (bH [25,27,59,58,57,60]) (by decide)
 have z51:= @afu (bH [25,27,59,58,57,60]) (by decide)
 have z52:= @afJ (bH [25,27,59,58,57,60]) (by decide)
 exact Wk
theorem aAp(fu:Nat)(x1:Int)(x2:T_Setting)(x3:List T_Tensor)(x4:Int)(x5:Int)(r)(h:bu fu x1 x2 x3 x4 x5=some r):aA prog 15 [.v (.int .i64 x1),.agg (dL x2),.arr x3.length (fm bV x3),.v (.int .i64 x4),.v (.int .i64 x5)] (e15 r):=aH mixed [(OM fu).ct,(Hg fu).ct,(Oc fu).ct,(PG fu).ct,(MV fu).ct,(PH fu).ct,(sW fu).ct,(Ns fu).ct,(Oj fu).ct,(Gi fu).ct,(PY fu).ct,(Az fu).ct,(oC fu).ct,(Ja fu).ct,(GZ fu).ct,(VH fu).ct,(Pm fu).ct,(QM fu).ct,(Qj fu).ct,(Jr fu).ct,(PK fu).ct,(xG fu).ct,(Ap fu).ct,(oq fu).ct,(xP fu).ct,(Qq fu).ct,(QX fu).ct,(Fp fu).ct,(zh fu).ct,(PD fu).ct,(Jt fu).ct,(PL fu).ct,(KT fu).ct,(Lu fu).ct,(Qc fu).ct,(IW fu).ct,(Q3 fu).ct,(Qk fu).ct,(QP fu).ct,(NM fu).ct,(Lr fu).ct,(Lc fu).ct,(wL fu).ct,(nZ fu).ct,(Lp fu).ct,(Rl fu).ct,(NQ fu).ct,(Ql fu).ct,(Jm fu).ct,(Nh fu).ct,(Nu fu).ct,(Oz fu).ct,(KY fu).ct,(MP fu).ct,(NS fu).ct,(Pj fu).ct,(Ri fu).ct,(MO fu).ct] (ids:=[14,50,51,22,52,53,54,26,56,55,138,139,140,141,107,34,299,203,205,306,214,216,212,209,204,217,218,215,206,220,221,222,224,225,226,227,323,229,230,231,123,125,128,130,132,134,136,129,131,133,135,137,119,120,121,122,127,118]) rfl (by decide) Xa (C:=(bH [25,27,59,58,57,60])) (ci:=λcp=>(dO prog (bH [25,27,59,58,57,60]) cp (Dj cp fu) fu 25 qR ⟨b25,[.tmp 6,.tmp 7],[56,34]⟩ (Dj cp fu))) (λcp ok=>iF mixed ok (apt ok) i25 (apt ok)) (λcp H=>have h1:=H.2.2.2.2.2.2.2.2;have h2:=h1.2.2.2.2.2.2.2.2;have h3:=h2.2.2.2.2.2.2.2.2;have h4:=h3.2.2.2.2.2.2.2.2;have h5:=h4.2.2.2.2.2.2.2.2;have h6:=h5.2.2.2.2.2.2.2.2;have h7:=h6.2.2.2.2.2.2.2.2;w15 cp fu x1 x2 x3 x4 x5 (u14 H.1) (u50 H.2.1) (u51 H.2.2.1) (u22 H.2.2.2.1) (u52 H.2.2.2.2.1) (u53 H.2.2.2.2.2.1) (xw H.2.2.2.2.2.2.1) (u26 H.2.2.2.2.2.2.2.1) (u56 h1.1) (u55 h1.2.1) (u138 h1.2.2.1) (u139 h1.2.2.2.1) (pV h1.2.2.2.2.1) (aaH h1.2.2.2.2.2.1) (VG h1.2.2.2.2.2.2.1) (u34 h1.2.2.2.2.2.2.2.1) (aiV (akI h2.1) (ai7 h2.2.1) (agA h2.2.2.1) (aia h2.2.2.2.1) (aho h2.2.2.2.2.1) (BL h2.2.2.2.2.2.1) (Gz h2.2.2.2.2.2.2.1) (qG h2.2.2.2.2.2.2.2.1) (Bh h3.1) (agI h3.2.1) (aix h3.2.2.1) (KC h3.2.2.2.1) (u206 h3.2.2.2.2.1)) (ahI (ai8 h3.2.2.2.2.2.1) (amA h3.2.2.2.2.2.2.1) (aga h3.2.2.2.2.2.2.2.1) (aeh h4.1) (ahY h4.2.1) (agO h4.2.2.1) (U4 h4.2.2.2.1) (aeL h4.2.2.2.2.1) (ahL h4.2.2.2.2.2.1) (adm h4.2.2.2.2.2.2.1) (agX h4.2.2.2.2.2.2.2.1)) (ahX (agf h5.1) (ahi h5.2.1) (zX h5.2.2.1) (qp h5.2.2.2.1) (afH h5.2.2.2.2.1) (ajX h5.2.2.2.2.2.1) (acX h5.2.2.2.2.2.2.1)) (ag4 (agC h5.2.2.2.2.2.2.2.1) (u131 h6.1) (ajs h6.2.1) (amn h6.2.2.1) (ak2 h6.2.2.2.1)) (ahK (u119 h6.2.2.2.2.1) (aeK h6.2.2.2.2.2.1) (agy h6.2.2.2.2.2.2.1) (acH h6.2.2.2.2.2.2.2.1) (u127 h7.1) (ahR h7.2.1))) h
def ZE:TD:=[(0,[4]),(0,[0,1,5]),(0,[6,7,8,9]),(0,[]),(0,[]),(0,[]),(0,[]),(0,[]),(0,[11,12,13]),(0,[]),(0,[15,16]),(0,[]),(9,[17,18,19,20,21,22,23,24]),(0,[]),(0,[]),(0,[]),(0,[])]
def abX:=Da (aC ZE.eq_1)
theorem i16:au prog 16 ZE=some ⟨ae Tryz.f16,[.tmp 4],[4]⟩:=fA Tryz.func16
def e16:Bool->AV:=λr=> .v (.bool r)
def mM.m1:LJ 1 8 Unit Int:=⟨λr s e=>[(0,er e 0),(1,er e 1),(5,.v (.int .i64 s))],λr s h=>[]⟩
open mM in
theorem w16(cp:af)(fu:Nat)(x1:List Int)(x2:List Int):J (go prog ak cp aj 0 [] ZE fu (fin prog [.tmp 4] [4]) (ae Tryz.f16) (ay 0 [.arr x1.length (lm (ik .i64) x1),.arr x2.length (lm (ik .i64) x2)]) [] []) (mM fu x1 x2) e16:=by
 unfold mM e16
 have da:=abX
 conv=>arg 1;simp only[ae,Tryz.f16]
 have z0:=abX
 exact Wk
theorem ok16(fu:Nat)(x1:List Int)(x2:List Int)(r)(h:mM fu x1 x2=some r):aA prog 16 [.arr x1.length (lm (ik .i64) x1),.arr x2.length (lm (ik .i64) x2)] (e16 r):=aH mixed [] (ids:=[]) rfl (by decide) i16 (C:=ak) (ci:=λcp=>aj) (λcp ok=>aB) (λcp H=>w16 cp fu x1 x2) h
def d13:TD:=[(0,[0,1,4]),(0,[5]),(0,[8,9,10,11,12,13,14,15,16,17,18,19,20,21,22,23,24,25,26,27,28,29,30,31,32,33,34,35,36,37,38,39,40,41,42,43,44,45,46]),(0,[]),(0,[]),(0,[6]),(0,[]),(0,[]),(0,[48,49,50,51]),(0,[2,3,7]),(0,[53,54]),(0,[]),(11,[55,56,57,58,59,60,61,62,63,64]),(0,[]),(0,[]),(0,[]),(0,[]),(0,[]),(0,[66,67,68,69]),(0,[]),(0,[71,72]),(0,[]),(11,[73,74,75,76,77,78,79,80,81,82]),(0,[]),(0,[]),(0,[]),(0,[]),(0,[]),(0,[84,85,86,87]),(0,[]),(0,[89,90]),(0,[]),(11,[91,92,93,94,95,96,97,98,99,100]),(0,[]),(0,[]),(0,[]),(0,[])]
def ako:=Da (aC d13.eq_1)
theorem i13:au prog 13 d13=some ⟨ae Tryz.f13,[.tmp 4],[4]⟩:=fA Tryz.func13
def e13:Bool->AV:=λr=> .v (.bool r)
structure Ux (fu:Nat) (cp:af):Prop where
 ap: ∀ {a0:List Int} {a1:List Int} {r},mM fu a0 a1=some r->cp 16 [.arr a0.length (lm (ik .i64) a0),.arr a1.length (lm (ik .i64) a1)]=some (.v (.bool r))
noncomputable def MI(fu:Nat):Cm prog ((List Int)×(List Int)) Bool:=⟨16,λt=>[.arr t.1.length (lm (ik .i64) t.1),.arr t.2.length (lm (ik .i64) t.2)],λt=>mM fu t.1 t.2,e16,λt b h=>ok16 fu t.1 t.2 b h,Zi⟩
theorem u16(H:aI cp (MI fu).ct):Ux fu cp:=⟨λ {a0 a1 r} h=>(MI fu).at H (a0,a1) r h⟩
def dE.m1:LJ 1 28 Unit Int:=⟨λr s e=>[(2,er e 2),(3,er e 3),(7,.v (.int .i64 s))],λr s h=>[((0,2,0),hr h (0,2,0)),((0,3,0),hr h (0,3,0))]⟩
def dE.m2:LJ 2 18 Unit Int:=⟨λr s e=>[(2,er e 2),(3,er e 3),(6,.v (.int .i64 s))],λr s h=>[((0,2,0),hr h (0,2,0)),((0,3,0),hr h (0,3,0))]⟩
def dE.j3:LJ 3 26 Unit Unit:=⟨λr t e=>[(2,er e 2),(3,er e 3)],λr t h=>[((0,2,0),hr h (0,2,0)),((0,3,0),hr h (0,3,0))]⟩
def dE.m3:LJ 3 8 Unit Int:=⟨λr s e=>[(2,er e 2),(3,er e 3),(5,.v (.int .i64 s))],λr s h=>[((0,2,0),hr h (0,2,0)),((0,3,0),hr h (0,3,0))]⟩
def dE.j2:LJ 2 16 Unit Unit:=⟨λr t e=>[(2,er e 2),(3,er e 3)],λr t h=>[((0,2,0),hr h (0,2,0)),((0,3,0),hr h (0,3,0))]⟩
def dE.j1:LJ 1 6 Unit Unit:=⟨λr t e=>[(2,er e 2),(3,er e 3)],λr t h=>[((0,2,0),hr h (0,2,0)),((0,3,0),hr h (0,3,0))]⟩
open dE in
theorem w13(cp:af)(fu:Nat)(x1:T_Tensor)(x2:T_Tensor)(H1:Ux fu cp):J (go prog ak cp aj 0 [] d13 fu (fin prog [.tmp 4] [4]) (ae Tryz.f13) (ay 0 [.agg (bV x1),.agg (bV x2)]) [] []) (dE fu x1 x2) e13:=by
 unfold dE e13
 have da:=ako
 conv=>arg 1;simp only[ae,Tryz.f13]
 have z0:=ako
 exact Wk
theorem ar9(fu:Nat)(x1:T_Tensor)(x2:T_Tensor)(r)(h:dE fu x1 x2=some r):aA prog 13 [.agg (bV x1),.agg (bV x2)] (e13 r):=aH mixed [(MI fu).ct] (ids:=[16]) rfl (by decide) i13 (C:=ak) (ci:=λcp=>aj) (λcp ok=>aB) (λcp H=>w13 cp fu x1 x2 (u16 H.1)) h
def d4:TD:=[(0,[1,10]),(0,[]),(0,[22]),(0,[]),(0,[23,24,25,26,27,28,29]),(0,[]),(0,[30,31,32,33,34,35,36,37,38]),(0,[]),(0,[39]),(0,[]),(0,[41,42,43,44,45,46,47,48,49,50,51]),(0,[]),(0,[13,52,53,54,55,56,57,58,59,60,61,62]),(0,[]),(0,[63,64,65,66,67,68,69,70,71,72,73]),(0,[]),(0,[75,76,77,78,79]),(0,[]),(0,[80,81,82,83,84,85,86,87]),(0,[]),(0,[0,2,6,16,88,89,90,91,92,93,94,95,96]),(0,[]),(0,[15,18,20,97,98,99,100,101,102,103,104,105]),(0,[]),(0,[]),(0,[]),(0,[107,108,109,110,111,6001000021,7001000021,8001000021]),(0,[]),(3533694129556768659166609616502210340684149830773650397097915563070359520,[112,113,114,115,116,117,118,119,120,121,122,123]),(0,[]),(3533694129556768659166609616502210340684149830773650397097915563070359520,[124,125,126,127,128,129,130,131,132,133,134,135]),(0,[]),(3533694129556768659166609616502210340684149830773650397097915563070359520,[17,19,136,137,138,139,140,141,142,143,144,145,146,147]),(0,[]),(0,[3,4,11,12,14,21,148,149,150,151,152,153,154,155,156,157,158,159,160,161,162])]
def acu:=Da (aC d4.eq_1)
theorem i4:au prog 4 d4=some ⟨ae Tryz.f4,[.tmp 10],[4]⟩:=fA Tryz.func4
def e4:Bool->AV:=λr=> .v (.bool r)
noncomputable def C9:Cm prog Unit Bool:=⟨9,λ_=>[],λ_=>some true,λb=> .v (.bool b),λ_ b h=>by injection h with h;subst h;exact aBR,λ_ _ _=>rfl⟩
structure K11 (fu:Nat) (cp:af):Prop where
 ap: ∀ {a0:Int} {a1:T_Setting} {a2:List T_Tensor} {r},aN fu a0 a1 a2=some r->cp 11 [.v (.int .i64 a0),.agg (dL a1),.arr a2.length (fm bV a2)]=some (.tuple [.agg [.v (.int .i64 r.1.fType),.arr r.1.fDims.length (lm (ik .i64) r.1.fDims),.arr r.1.fF.length (lm (ik .u32) r.1.fF),.arr r.1.fI.length (lm (ik .i64) r.1.fI),.arr r.1.fB.length (lm (bk) r.1.fB)],.v (.int .i64 r.2)])
noncomputable def Zw(fu:Nat):Cm prog (Int×T_Setting×(List T_Tensor)) (T_Tensor×Int):=⟨11,λt=>[.v (.int .i64 t.1),.agg (dL t.2.1),.arr t.2.2.length (fm bV t.2.2)],λt=>aN fu t.1 t.2.1 t.2.2,e11,λt b h=>aro fu t.1 t.2.1 t.2.2 b h,Zi⟩
theorem u11(H:aI cp (Zw fu).ct):K11 fu cp:=⟨λ {a0 a1 a2 r} h=>(Zw fu).at H (a0,a1,a2) r h⟩
structure K15 (fu:Nat) (cp:af):Prop where
 ap: ∀ {a0:Int} {a1:T_Setting} {a2:List T_Tensor} {a3:Int} {a4:Int} {r},bu fu a0 a1 a2 a3 a4=some r->cp 15 [.v (.int .i64 a0),.agg (dL a1),.arr a2.length (fm bV a2),.v (.int .i64 a3),.v (.int .i64 a4)]=some (.tuple [.agg [.v (.int .i64 r.1.fType),.fresh 1 r.1.fDims.length (lm (ik .i64) r.1.fDims),.fresh 1 r.1.fF.length (lm (ik .u32) r.1.fF),.fresh 1 r.1.fI.length (lm (ik .i64) r.1.fI),.fresh 1 r.1.fB.length (lm (bk) r.1.fB)],.v (.int .i64 r.2)])
noncomputable def Wp(fu:Nat):Cm prog (Int×T_Setting×(List T_Tensor)×Int×Int) (T_Tensor×Int):=⟨15,λt=>[.v (.int .i64 t.1),.agg (dL t.2.1),.arr t.2.2.1.length (fm bV t.2.2.1),.v (.int .i64 t.2.2.2.1),.v (.int .i64 t.2.2.2.2)],λt=>bu fu t.1 t.2.1 t.2.2.1 t.2.2.2.1 t.2.2.2.2,e15,λt b h=>aAp fu t.1 t.2.1 t.2.2.1 t.2.2.2.1 t.2.2.2.2 b h,Zi⟩
theorem u15(H:aI cp (Wp fu).ct):K15 fu cp:=⟨λ {a0 a1 a2 a3 a4 r} h=>(Wp fu).at H (a0,a1,a2,a3,a4) r h⟩
structure K13 (fu:Nat) (cp:af):Prop where
 ap: ∀ {a0:T_Tensor} {a1:T_Tensor} {r},dE fu a0 a1=some r->cp 13 [.agg (bV a0),.agg (bV a1)]=some (.v (.bool r))
noncomputable def C13(fu:Nat):Cm prog (T_Tensor×T_Tensor) Bool:=⟨13,λt=>[.agg (bV t.1),.agg (bV t.2)],λt=>dE fu t.1 t.2,e13,λt b h=>ar9 fu t.1 t.2 b h,Zi⟩
theorem u13(H:aI cp (C13 fu).ct):K13 fu cp:=⟨λ {a0 a1 r} h=>(C13 fu).at H (a0,a1) r h⟩
def jr.j2:LJ 2 26 Unit Unit:=⟨λr t e=>[(3,er e 3),(4,er e 4),(11,er e 11),(12,er e 12),(14,er e 14),(17,er e 17),(19,er e 19)],λr t h=>[((0,12,0),hr h (0,12,0)),((0,36,0),hr h (0,36,0)),((0,36,1),hr h (0,36,1)),((0,36,2),hr h (0,36,2)),((0,36,3),hr h (0,36,3)),((0,14,0),hr h (0,14,0)),((0,85,0),hr h (0,85,0)),((0,85,1),hr h (0,85,1)),((0,85,2),hr h (0,85,2)),((0,85,3),hr h (0,85,3)),((0,17,0),hr h (0,17,0)),((0,94,0),hr h (0,94,0)),((0,94,1),hr h (0,94,1)),((0,94,2),hr h (0,94,2)),((0,94,3),hr h (0,94,3)),((0,19,0),hr h (0,19,0))]⟩
def jr.j1:LJ 1 18 Unit Unit:=⟨λr t e=>[(0,er e 0),(2,er e 2),(3,er e 3),(4,er e 4),(6,er e 6),(11,er e 11),(12,er e 12),(14,er e 14),(15,er e 15),(16,er e 16)],λr t h=>[((0,6,0),hr h (0,6,0)),((0,12,0),hr h (0,12,0)),((0,36,0),hr h (0,36,0)),((0,36,1),hr h (0,36,1)),((0,36,2),hr h (0,36,2)),((0,36,3),hr h (0,36,3)),((0,14,0),hr h (0,14,0))]⟩
def jr.j3:LJ 3 0 Unit Bool:=⟨λr t e=>[(0,er e 0),(2,er e 2),(3,er e 3),(4,er e 4),(6,er e 6),(10,.v (.bool t)),(11,er e 11),(12,er e 12),(13,er e 13),(14,er e 14),(15,er e 15)],λr t h=>[((0,6,0),hr h (0,6,0)),((0,12,0),hr h (0,12,0)),((0,36,0),hr h (0,36,0)),((0,36,1),hr h (0,36,1)),((0,36,2),hr h (0,36,2)),((0,36,3),hr h (0,36,3)),((0,14,0),hr h (0,14,0))]⟩
open jr in
theorem w4(cp:af)(fu:Nat)(x1:Int)(x2:T_Setting)(x3:List T_Tensor)(x4:Int)(x5:Int)(H1:cp 9 []=some (.v (.bool true)))(H2:K11 fu cp)(H3:K15 fu cp)(H4:K13 fu cp)(H5:Ux fu cp):J (go prog aeJ cp aj 0 [] d4 fu (fin prog [.tmp 10] [4]) (ae Tryz.f4) (ay 0 [.v (.int .i64 x1),.agg (dL x2),.arr x3.length (fm bV x3),.v (.int .i64 x4),.v (.int .i64 x5)]) [] []) (jr fu x1 x2 x3 x4 x5) e4:=by
 unfold jr e4
 have da:=acu
 conv=>arg 1;simp only[ae,Tryz.f4]
 have z0:=acu
 have z1:=uZ
 have z2:=yG
 have z3:=zx
 have z4:=Jf
 have z5:=OV
 have z6:=Nb
 have z7:=RUb
 have z8:=RL
 have z9:= @adY
 have z10:= @acU
 exact Wk
theorem ok4(fu:Nat)(x1:Int)(x2:T_Setting)(x3:List T_Tensor)(x4:Int)(x5:Int)(r)(h:jr fu x1 x2 x3 x4 x5=some r):aA prog 4 [.v (.int .i64 x1),.agg (dL x2),.arr x3.length (fm bV x3),.v (.int .i64 x4),.v (.int .i64 x5)] (e4 r):=aH mixed [C9.ct,(Zw fu).ct,(Wp fu).ct,(C13 fu).ct,(MI fu).ct] (ids:=[9,11,15,13,16]) rfl (by decide) i4 (C:=aeJ) (ci:=λcp=>aj) (λcp ok=>aB) (λcp H=>w4 cp fu x1 x2 x3 x4 x5 (C9.at H.1 () true rfl) (u11 H.2.1) (u15 H.2.2.1) (u13 H.2.2.2.1) (u16 H.2.2.2.2.1)) h
end Go.Av
