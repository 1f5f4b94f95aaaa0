/- The walks of the plain functions, part 2. Made by a program of mine. Conditions: none. -/
import Derived.Test.YteafmomjfnlkgaaGreatQ6W2
set_option linter.unusedVariables false
set_option linter.unusedSimpArgs false
set_option linter.defProp false
set_option maxRecDepth 20000
set_option maxHeartbeats 20000000
open Go Go.Proofs
open Tryz (prog)
namespace Go.Av
open Aw (d14 d22 d26 d49 d50 d51 d52 d53 d54 d55 d66 d102 d103 d104 d105 d106 d107 d108 d109 d110 d111 d112 d113 d114 d115 d124 d140 d151 d172 d174 d175 d176 d177 d178 d179 d189 d190 d191 d192 d193 d194 d195 d268 d269 d270 d276 d277 d351)
open Aw (d25 d27)
open Aw (d11)
def d11_at:=by have h:=tabL Aw.d11.eq_1;simp only[AllAt,Nat.zero_add,Nat.reduceAdd]at h;exact h
theorem i11:finfo prog 11 d11=some ⟨bodyOf Tryz.f11,[.cell 6 28,.tmp 7],[28,34]⟩:=fA Tryz.func11
def e11:(T_Tensor×Int)->AV:=λr=> .tuple [.agg [.v (.int .i64 r.1.fType),.arr r.1.fDims.length (lm (ik .i64) r.1.fDims),.arr r.1.fF.length (lm (ik .u32) r.1.fF),.arr r.1.fI.length (lm (ik .i64) r.1.fI),.arr r.1.fB.length (lm (bk) r.1.fB)],.v (.int .i64 r.2)]
structure K14 (fu:Nat) (cp:CallP):Prop where
 ap: ∀ {a0:Int} {r},ewise_Has fu a0=some r->cp 14 [.v (.int .i64 a0)]=some (.v (.bool r))
noncomputable def C14(fu:Nat):Cm prog Int Bool:=⟨14,λt=>[.v (.int .i64 t)],λt=>ewise_Has fu t,e14,λt b h=>ok14 fu t b h,Zi⟩
theorem u14{fu:Nat}{cp:CallP}(H:Hit cp (C14 fu).ct):K14 fu cp:=⟨λ {a0 r} h=>(C14 fu).at H a0 r h⟩
structure K51 (fu:Nat) (cp:CallP):Prop where
 ap: ∀ {a0:T_Tensor} {r},tens_Canon fu a0=some r->cp 51 [.agg (c_T_Tensor a0)]=some (.agg [.v (.int .i64 r.fType),.fresh 1 r.fDims.length (lm (ik .i64) r.fDims),.fresh 1 r.fF.length (lm (ik .u32) r.fF),.fresh 1 r.fI.length (lm (ik .i64) r.fI),.fresh 1 r.fB.length (lm (bk) r.fB)])
noncomputable def C51(fu:Nat):Cm prog T_Tensor T_Tensor:=⟨51,λt=>[.agg (c_T_Tensor t)],λt=>tens_Canon fu t,e51,λt b h=>ok51 fu t b h,Zi⟩
theorem u51{fu:Nat}{cp:CallP}(H:Hit cp (C51 fu).ct):K51 fu cp:=⟨λ {a0 r} h=>(C51 fu).at H a0 r h⟩
structure K22 (fu:Nat) (cp:CallP):Prop where
 ap: ∀ {a0:List T_Tensor} {r},ewise_Vals fu a0=some r->cp 22 [.arr a0.length (fm c_T_Tensor a0)]=some (.arr r.length (fm c_T_Val r))
noncomputable def C22(fu:Nat):Cm prog (List T_Tensor) (List T_Val):=⟨22,λt=>[.arr t.length (fm c_T_Tensor t)],λt=>ewise_Vals fu t,e22,λt b h=>ok22 fu t b h,Zi⟩
theorem u22{fu:Nat}{cp:CallP}(H:Hit cp (C22 fu).ct):K22 fu cp:=⟨λ {a0 r} h=>(C22 fu).at H a0 r h⟩
structure K52 (fu:Nat) (cp:CallP):Prop where
 ap: ∀ {a0:Int} {a1:T_Setting} {a2:List T_Val} {a3:Int} {r},infer_Node fu a0 a1 a2 a3=some r->cp 52 [.v (.int .i64 a0),.agg (c_T_Setting a1),.arr a2.length (fm c_T_Val a2),.v (.int .i64 a3)]=some (.tuple [.arr r.1.length (fm c_T_Val r.1),.v (.int .i64 r.2)])
noncomputable def C52(fu:Nat):Cm prog (Int×T_Setting×(List T_Val)×Int) ((List T_Val)×Int):=⟨52,λt=>[.v (.int .i64 t.1),.agg (c_T_Setting t.2.1),.arr t.2.2.1.length (fm c_T_Val t.2.2.1),.v (.int .i64 t.2.2.2)],λt=>infer_Node fu t.1 t.2.1 t.2.2.1 t.2.2.2,e52,λt b h=>ok52 fu t.1 t.2.1 t.2.2.1 t.2.2.2 b h,Zi⟩
theorem u52{fu:Nat}{cp:CallP}(H:Hit cp (C52 fu).ct):K52 fu cp:=⟨λ {a0 a1 a2 a3 r} h=>(C52 fu).at H (a0,a1,a2,a3) r h⟩
structure K53 (fu:Nat) (cp:CallP):Prop where
 ap: ∀ {a0:Int} {a1:List Int} {r},tens_New fu a0 a1=some r->cp 53 [.v (.int .i64 a0),.arr a1.length (lm (ik .i64) a1)]=some (.tuple [.agg [.v (.int .i64 r.1.fType),.fresh 1 r.1.fDims.length (lm (ik .i64) r.1.fDims),.fresh 1 r.1.fF.length (lm (ik .u32) r.1.fF),.fresh 1 r.1.fI.length (lm (ik .i64) r.1.fI),.fresh 1 r.1.fB.length (lm (bk) r.1.fB)],.v (.int .i64 r.2)])
noncomputable def C53(fu:Nat):Cm prog (Int×(List Int)) (T_Tensor×Int):=⟨53,λt=>[.v (.int .i64 t.1),.arr t.2.length (lm (ik .i64) t.2)],λt=>tens_New fu t.1 t.2,e53,λt b h=>ok53 fu t.1 t.2 b h,Zi⟩
theorem u53{fu:Nat}{cp:CallP}(H:Hit cp (C53 fu).ct):K53 fu cp:=⟨λ {a0 a1 r} h=>(C53 fu).at H (a0,a1) r h⟩
structure K26 (fu:Nat) (cp:CallP):Prop where
 ap: ∀ {a0:T_ewise_work} {r},ewise_work_divides fu a0=some r->cp 26 [.ref (c_T_ewise_work a0) 0]=some (.v (.bool r))
noncomputable def C26(fu:Nat):Cm prog T_ewise_work Bool:=⟨26,λt=>[.ref (c_T_ewise_work t) 0],λt=>ewise_work_divides fu t,e26,λt b h=>ok26 fu t b h,Zi⟩
theorem u26{fu:Nat}{cp:CallP}(H:Hit cp (C26 fu).ct):K26 fu cp:=⟨λ {a0 r} h=>(C26 fu).at H a0 r h⟩
structure K56 (fu:Nat) (cp:CallP):Prop where
 ap: ∀ {a0:Int} {a1:T_Setting} {r},ewise_kernelOf fu a0 a1=some r->cp 56 [.v (.int .i64 a0),.agg (c_T_Setting a1)]=some (.agg [kf56_0 r.1 r.2,kf56_1 r.1 r.2,kf56_2 r.1 r.2,kf56_3 r.1 r.2,kf56_4 r.1 r.2])
noncomputable def C56(fu:Nat):Cm prog (Int×T_Setting) (Int×T_Setting):=⟨56,λt=>[.v (.int .i64 t.1),.agg (c_T_Setting t.2)],λt=>ewise_kernelOf fu t.1 t.2,e56,λt b h=>ok56 fu t.1 t.2 b h,Zi⟩
theorem u56{fu:Nat}{cp:CallP}(H:Hit cp (C56 fu).ct):K56 fu cp:=⟨λ {a0 a1 r} h=>(C56 fu).at H (a0,a1) r h⟩
def ewise_Do.m1:LJ 1 4 Unit ((List Int)×(List Int)×(List Bool)×Int):=⟨λr s e=>[(0,er e 0),(2,er e 2),(6,er e 6),(7,.v (.int .i64 s.2.2.2))],λr s h=>[((0,6,0),hr h (0,6,0)),((1,20,0),hr h (1,20,0)),((1,8,115),hr h (1,8,115)),((1,68,0),hr h (1,68,0)),((1,68,1),.sl true true 1 (hx h (1,68,1)) (lm (ik .u32) s.1)),((1,68,2),.sl true true 1 (hx h (1,68,2)) (lm (ik .i64) s.2.1)),((1,68,3),.sl true true 1 (hx h (1,68,3)) (lm (bk) s.2.2.1)),((2,6,0),hr h (2,6,0))]⟩
def ewise_Do.m2:LJ 2 10 Unit ((List T_Tensor)×Int):=⟨λr s e=>[(0,er e 0),(2,er e 2),(4,er e 4),(8,er e 8),(21,er e 21),(22,er e 22),(23,.v (.int .i64 s.2))],λr s h=>[((0,4,0),hr h (0,4,0)),((0,6,0),hr h (0,6,0)),((1,4,0),hr h (1,4,0)),((1,20,0),bs (hr h (1,20,0)) 37 (.own (1,8,115) 0 s.1.length s.1.length)),((1,8,115),.sl true true 5 s.1.length (fm c_T_Tensor s.1))]⟩
def ewise_Do.j1:LJ 1 26 Unit (List T_Tensor):=⟨λr t e=>[(0,er e 0),(2,er e 2),(4,er e 4),(8,er e 8)],λr t h=>[((0,4,0),hr h (0,4,0)),((0,6,0),hr h (0,6,0)),((1,4,0),hr h (1,4,0)),((1,20,0),bs (hr h (1,20,0)) 37 (.own (1,8,115) 0 t.length t.length)),((1,8,115),.sl true true 5 t.length (fm c_T_Tensor t))]⟩
set_option maxHeartbeats 400000000 in
open ewise_Do in
theorem w11(cp:CallP)(fu:Nat)(x1:Int)(x2:T_Setting)(x3:List T_Tensor)(H1:K14 fu cp)(H2:K50 fu cp)(H3:K51 fu cp)(H4:K22 fu cp)(H5:K52 fu cp)(H6:K53 fu cp)(H7:K54 fu cp)(H8:K26 fu cp)(H9:K56 fu cp)(H10:K55 fu cp)(H11:K107 fu cp)(H12:Kk56_0 fu cp)(H13:Kk56_3 fu cp)(H14:Kk56_1 fu cp)(H15:Kk56_4 fu cp)(H16:Kk56_2 fu cp):J (go prog (inlC [25,27,60]) cp (ciE prog (inlC [25,27,60]) cp (ciE prog (inlC [25,27,60]) cp (ciE prog (inlC [25,27,60]) cp noI fu 60 d60 ⟨b60,[],[]⟩ noI) fu 27 d27 ⟨b27,[],[]⟩ (ciE prog (inlC [25,27,60]) cp noI fu 60 d60 ⟨b60,[],[]⟩ noI)) fu 25 d25 ⟨b25,[.tmp 6,.tmp 7],[56,34]⟩ (ciE prog (inlC [25,27,60]) cp (ciE prog (inlC [25,27,60]) cp noI fu 60 d60 ⟨b60,[],[]⟩ noI) fu 27 d27 ⟨b27,[],[]⟩ (ciE prog (inlC [25,27,60]) cp noI fu 60 d60 ⟨b60,[],[]⟩ noI))) 0 [] d11 fu (finS prog [.cell 6 28,.tmp 7] [28,34]) (bodyOf Tryz.f11) (initE 0 [.v (.int .i64 x1),.agg (c_T_Setting x2),.arr x3.length (fm c_T_Tensor x3)]) [] []) (ewise_Do fu x1 x2 x3) e11:=by
 unfold ewise_Do e11
 have da:=d11_at
 conv=>arg 1;simp only[bodyOf,Tryz.f11]
 have z0:=d11_at
 have z1:=SE
 have z2:=RL
 have z3:=d25_at
 have z4:=Tryz.f25.eq_1
 have z5:= @go_b25
 have z6:=d27_at
 have z7:=Tryz.f27.eq_1
 have z8:= @go_b27
 have z9:=d60_at
 have z10:=Tryz.f60.eq_1
 have z11:= @go_b60
 have z12:=RI
 have z13:=RIk
 have z14:= @bodyOf.eq_1
 have z15:= @kf_one0
 have z16:= @kf_imp0
 have z17:= @kf_qo0
 have z18:= @kf_nm0
 have z19:= @kf_one1
 have z20:= @kf_imp1
 have z21:= @kf_qo1
 have z22:= @kf_nm1
 have z23:= @kf_one2
 have z24:= @kf_imp2
 have z25:= @kf_qo2
 have z26:= @kf_nm2
 have z27:= @kf_one3
 have z28:= @kf_imp3
 have z29:= @kf_qo3
 have z30:= @kf_nm3
 have z31:= @kf_one4
 have z32:= @kf_imp4
 have z33:= @kf_qo4
 have z34:= @kf_nm4
 have z35:= @kf_app0 (inlC [25,27,60]) (by decide)
 have z36:= @kf_appQ0 (inlC [25,27,60]) (by decide)
 have z37:= @kf_app1 (inlC [25,27,60]) (by decide)
 have z38:= @kf_appQ1 (inlC [25,27,60]) (by decide)
 have z39:= @kf_app2 (inlC [25,27,60]) (by decide)
 have z40:= @kf_appQ2 (inlC [25,27,60]) (by decide)
 have z41:= @kf_app3 (inlC [25,27,60]) (by decide)
 have z42:= @kf_appQ3 (inlC [25,27,60]) (by decide)
 have z43:= @kf_app4 (inlC [25,27,60]) (by decide)
 have z44:= @kf_appQ4 (inlC [25,27,60]) (by decide)
 exact Wk
theorem ok11(fu:Nat)(x1:Int)(x2:T_Setting)(x3:List T_Tensor)(r)(h:ewise_Do fu x1 x2 x3=some r):PureOK prog 11 [.v (.int .i64 x1),.agg (c_T_Setting x2),.arr x3.length (fm c_T_Tensor x3)] (e11 r):=pureST mixed [(C14 fu).ct,(C50 fu).ct,(C51 fu).ct,(C22 fu).ct,(C52 fu).ct,(C53 fu).ct,(C54 fu).ct,(C26 fu).ct,(C56 fu).ct,(C55 fu).ct,(C107 fu).ct,(C216 fu).ct,(C212 fu).ct,(C209 fu).ct,(C204 fu).ct,(C217 fu).ct,(C218 fu).ct,(C215 fu).ct,(C206 fu).ct,(Ct306 fu).ct,(Ct299 fu).ct,(C128 fu).ct,(C130 fu).ct,(C132 fu).ct,(C134 fu).ct,(C136 fu).ct,(C224 fu).ct,(C225 fu).ct,(C226 fu).ct,(C227 fu).ct,(C323 fu).ct,(C229 fu).ct,(C230 fu).ct,(C231 fu).ct,(C129 fu).ct,(C131 fu).ct,(C133 fu).ct,(C135 fu).ct,(C137 fu).ct,(C120 fu).ct,(C121 fu).ct,(C122 fu).ct,(C127 fu).ct,(C118 fu).ct] (ids:=[14,50,51,22,52,53,54,26,56,55,107,216,212,209,204,217,218,215,206,306,299,128,130,132,134,136,224,225,226,227,323,229,230,231,129,131,133,135,137,120,121,122,127,118]) rfl (by decide) i11 (C:=(inlC [25,27,60])) (ci:=λcp=>(ciE prog (inlC [25,27,60]) cp (ciE prog (inlC [25,27,60]) cp (ciE prog (inlC [25,27,60]) cp noI fu 60 d60 ⟨b60,[],[]⟩ noI) fu 27 d27 ⟨b27,[],[]⟩ (ciE prog (inlC [25,27,60]) cp noI fu 60 d60 ⟨b60,[],[]⟩ noI)) fu 25 d25 ⟨b25,[.tmp 6,.tmp 7],[56,34]⟩ (ciE prog (inlC [25,27,60]) cp (ciE prog (inlC [25,27,60]) cp noI fu 60 d60 ⟨b60,[],[]⟩ noI) fu 27 d27 ⟨b27,[],[]⟩ (ciE prog (inlC [25,27,60]) cp noI fu 60 d60 ⟨b60,[],[]⟩ noI)))) (λcp ok=>(ciE_ok mixed ok (ciE_ok mixed ok (ciE_ok mixed ok noI_ok i60 noI_ok) i27 (ciE_ok mixed ok noI_ok i60 noI_ok)) i25 (ciE_ok mixed ok (ciE_ok mixed ok noI_ok i60 noI_ok) i27 (ciE_ok mixed ok noI_ok i60 noI_ok)))) (λcp H=>w11 cp fu x1 x2 x3 (u14 H.1) (u50 H.2.1) (u51 H.2.2.1) (u22 H.2.2.2.1) (u52 H.2.2.2.2.1) (u53 H.2.2.2.2.2.1) (u54 H.2.2.2.2.2.2.1) (u26 H.2.2.2.2.2.2.2.1) (u56 H.2.2.2.2.2.2.2.2.1) (u55 H.2.2.2.2.2.2.2.2.2.1) (u107 H.2.2.2.2.2.2.2.2.2.2.1) (kk56_0 (u216 H.2.2.2.2.2.2.2.2.2.2.2.1) (u212 H.2.2.2.2.2.2.2.2.2.2.2.2.1) (u209 H.2.2.2.2.2.2.2.2.2.2.2.2.2.1) (u204 H.2.2.2.2.2.2.2.2.2.2.2.2.2.2.1) (u217 H.2.2.2.2.2.2.2.2.2.2.2.2.2.2.2.1) (u218 H.2.2.2.2.2.2.2.2.2.2.2.2.2.2.2.2.1) (u215 H.2.2.2.2.2.2.2.2.2.2.2.2.2.2.2.2.2.1) (u206 H.2.2.2.2.2.2.2.2.2.2.2.2.2.2.2.2.2.2.1) (ut306 H.2.2.2.2.2.2.2.2.2.2.2.2.2.2.2.2.2.2.2.1) (ut299 H.2.2.2.2.2.2.2.2.2.2.2.2.2.2.2.2.2.2.2.2.1)) (kk56_3 (u128 H.2.2.2.2.2.2.2.2.2.2.2.2.2.2.2.2.2.2.2.2.2.1) (u130 H.2.2.2.2.2.2.2.2.2.2.2.2.2.2.2.2.2.2.2.2.2.2.1) (u132 H.2.2.2.2.2.2.2.2.2.2.2.2.2.2.2.2.2.2.2.2.2.2.2.1) (u134 H.2.2.2.2.2.2.2.2.2.2.2.2.2.2.2.2.2.2.2.2.2.2.2.2.1) (u136 H.2.2.2.2.2.2.2.2.2.2.2.2.2.2.2.2.2.2.2.2.2.2.2.2.2.1)) (kk56_1 (u224 H.2.2.2.2.2.2.2.2.2.2.2.2.2.2.2.2.2.2.2.2.2.2.2.2.2.2.1) (u225 H.2.2.2.2.2.2.2.2.2.2.2.2.2.2.2.2.2.2.2.2.2.2.2.2.2.2.2.1) (u226 H.2.2.2.2.2.2.2.2.2.2.2.2.2.2.2.2.2.2.2.2.2.2.2.2.2.2.2.2.1) (u227 H.2.2.2.2.2.2.2.2.2.2.2.2.2.2.2.2.2.2.2.2.2.2.2.2.2.2.2.2.2.1) (u323 H.2.2.2.2.2.2.2.2.2.2.2.2.2.2.2.2.2.2.2.2.2.2.2.2.2.2.2.2.2.2.1) (u229 H.2.2.2.2.2.2.2.2.2.2.2.2.2.2.2.2.2.2.2.2.2.2.2.2.2.2.2.2.2.2.2.1) (u230 H.2.2.2.2.2.2.2.2.2.2.2.2.2.2.2.2.2.2.2.2.2.2.2.2.2.2.2.2.2.2.2.2.1) (u231 H.2.2.2.2.2.2.2.2.2.2.2.2.2.2.2.2.2.2.2.2.2.2.2.2.2.2.2.2.2.2.2.2.2.1)) (kk56_4 (u129 H.2.2.2.2.2.2.2.2.2.2.2.2.2.2.2.2.2.2.2.2.2.2.2.2.2.2.2.2.2.2.2.2.2.2.1) (u131 H.2.2.2.2.2.2.2.2.2.2.2.2.2.2.2.2.2.2.2.2.2.2.2.2.2.2.2.2.2.2.2.2.2.2.2.1) (u133 H.2.2.2.2.2.2.2.2.2.2.2.2.2.2.2.2.2.2.2.2.2.2.2.2.2.2.2.2.2.2.2.2.2.2.2.2.1) (u135 H.2.2.2.2.2.2.2.2.2.2.2.2.2.2.2.2.2.2.2.2.2.2.2.2.2.2.2.2.2.2.2.2.2.2.2.2.2.1) (u137 H.2.2.2.2.2.2.2.2.2.2.2.2.2.2.2.2.2.2.2.2.2.2.2.2.2.2.2.2.2.2.2.2.2.2.2.2.2.2.1)) (kk56_2 (u120 H.2.2.2.2.2.2.2.2.2.2.2.2.2.2.2.2.2.2.2.2.2.2.2.2.2.2.2.2.2.2.2.2.2.2.2.2.2.2.2.1) (u121 H.2.2.2.2.2.2.2.2.2.2.2.2.2.2.2.2.2.2.2.2.2.2.2.2.2.2.2.2.2.2.2.2.2.2.2.2.2.2.2.2.1) (u122 H.2.2.2.2.2.2.2.2.2.2.2.2.2.2.2.2.2.2.2.2.2.2.2.2.2.2.2.2.2.2.2.2.2.2.2.2.2.2.2.2.2.1) (u127 H.2.2.2.2.2.2.2.2.2.2.2.2.2.2.2.2.2.2.2.2.2.2.2.2.2.2.2.2.2.2.2.2.2.2.2.2.2.2.2.2.2.2.1) (u118 H.2.2.2.2.2.2.2.2.2.2.2.2.2.2.2.2.2.2.2.2.2.2.2.2.2.2.2.2.2.2.2.2.2.2.2.2.2.2.2.2.2.2.2.1))) h
end Go.Av
