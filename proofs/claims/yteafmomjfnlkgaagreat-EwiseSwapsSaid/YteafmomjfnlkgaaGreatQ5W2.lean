/- The walks of the plain functions, part 2. Made by a program of mine. Conditions: none. -/
import Derived.Test.YteafmomjfnlkgaaGreatQ5W1
set_option linter.unusedVariables false
set_option linter.unusedSimpArgs false
set_option linter.defProp false
set_option maxRecDepth 20000
open Go Go.Proofs
namespace Go.Av
open Aw (d14 d22 d26 d49 d50 d51 d52 d53 d54 d55 d66 d102 d103 d104 d105 d106 d107 d108 d109 d110 d111 d112 d113 d114 d115 d124 d140 d151 d172 d174 d175 d176 d177 d178 d179 d189 d190 d191 d192 d193 d194 d195 d216 d268 d269 d270 d276 d277 d308 d313 d351 d361 d363 d364)
open Aw (d25)
def d25_at:=by have h:=tabL Aw.d25.eq_1;simp only[AllAt,Nat.zero_add,Nat.reduceAdd]at h;exact h
noncomputable def b25:Code:=bodyOf Tryz.f25
theorem go_b25{C:Cfg}{cp:CallP}{ci:CallI}{lvl:Nat}{prot:List Id}{D:List (Nat×List Nat)}{n:Nat}{K:KK}{e:Env}{h:Heap}{fs:List Fr}:go Tryz.prog C cp ci lvl prot D n K b25 e h fs=go Tryz.prog C cp ci lvl prot D n K (bodyOf Tryz.f25) e h fs:=rfl
theorem i25:finfo Tryz.prog 25 d25=some ⟨b25,[.tmp 6,.tmp 7],[56,34]⟩:=finfo_at Tryz.func25 rfl (by kernel_rfl) (by kernel_rfl)
open Aw (d27)
def d27_at:=by have h:=tabL Aw.d27.eq_1;simp only[AllAt,Nat.zero_add,Nat.reduceAdd]at h;exact h
noncomputable def b27:Code:=bodyOf Tryz.f27
theorem go_b27{C:Cfg}{cp:CallP}{ci:CallI}{lvl:Nat}{prot:List Id}{D:List (Nat×List Nat)}{n:Nat}{K:KK}{e:Env}{h:Heap}{fs:List Fr}:go Tryz.prog C cp ci lvl prot D n K b27 e h fs=go Tryz.prog C cp ci lvl prot D n K (bodyOf Tryz.f27) e h fs:=rfl
theorem i27:finfo Tryz.prog 27 d27=some ⟨b27,[],[]⟩:=finfo_at Tryz.func27 rfl (by kernel_rfl) (by kernel_rfl)
open Aw (d60)
def d60_at:=by have h:=tabL Aw.d60.eq_1;simp only[AllAt,Nat.zero_add,Nat.reduceAdd]at h;exact h
noncomputable def b60:Code:=bodyOf Tryz.f60
theorem go_b60{C:Cfg}{cp:CallP}{ci:CallI}{lvl:Nat}{prot:List Id}{D:List (Nat×List Nat)}{n:Nat}{K:KK}{e:Env}{h:Heap}{fs:List Fr}:go Tryz.prog C cp ci lvl prot D n K b60 e h fs=go Tryz.prog C cp ci lvl prot D n K (bodyOf Tryz.f60) e h fs:=rfl
theorem i60:finfo Tryz.prog 60 d60=some ⟨b60,[],[]⟩:=finfo_at Tryz.func60 rfl (by kernel_rfl) (by kernel_rfl)
open Aw (d11)
def d11_at:=by have h:=tabL Aw.d11.eq_1;simp only[AllAt,Nat.zero_add,Nat.reduceAdd]at h;exact h
theorem i11:finfo Tryz.prog 11 d11=some ⟨bodyOf Tryz.f11,[.cell 6 28,.tmp 7],[28,34]⟩:=finfo_at Tryz.func11 rfl (by kernel_rfl) (by kernel_rfl)
def e11:(T_Tensor×Int)->AV:=λr=> .tuple [.agg [.v (.int .i64 r.1.fType),.arr r.1.fDims.length (lm (ik .i64) r.1.fDims),.arr r.1.fF.length (lm (ik .u32) r.1.fF),.arr r.1.fI.length (lm (ik .i64) r.1.fI),.arr r.1.fB.length (lm (bk) r.1.fB)],.v (.int .i64 r.2)]
structure K14 (fu:Nat) (cp:CallP):Prop where
 ap: ∀ {a0:Int} {r},ewise_Has fu a0=some r->cp 14 [.v (.int .i64 a0)]=some (.v (.bool r))
noncomputable def C14(fu:Nat):Cm Tryz.prog Int Bool:=⟨14,λt=>[.v (.int .i64 t)],λt=>ewise_Has fu t,e14,λt b h=>ok14 fu t b h,Zi⟩
theorem u14{fu:Nat}{cp:CallP}(H:Hit cp (C14 fu).ct):K14 fu cp:=⟨λ {a0 r} h=>(C14 fu).at H a0 r h⟩
structure K51 (fu:Nat) (cp:CallP):Prop where
 ap: ∀ {a0:T_Tensor} {r},tens_Canon fu a0=some r->cp 51 [.agg (c_T_Tensor a0)]=some (.agg [.v (.int .i64 r.fType),.fresh 1 r.fDims.length (lm (ik .i64) r.fDims),.fresh 1 r.fF.length (lm (ik .u32) r.fF),.fresh 1 r.fI.length (lm (ik .i64) r.fI),.fresh 1 r.fB.length (lm (bk) r.fB)])
noncomputable def C51(fu:Nat):Cm Tryz.prog T_Tensor T_Tensor:=⟨51,λt=>[.agg (c_T_Tensor t)],λt=>tens_Canon fu t,e51,λt b h=>ok51 fu t b h,Zi⟩
theorem u51{fu:Nat}{cp:CallP}(H:Hit cp (C51 fu).ct):K51 fu cp:=⟨λ {a0 r} h=>(C51 fu).at H a0 r h⟩
structure K22 (fu:Nat) (cp:CallP):Prop where
 ap: ∀ {a0:List T_Tensor} {r},ewise_Vals fu a0=some r->cp 22 [.arr a0.length (fm c_T_Tensor a0)]=some (.arr r.length (fm c_T_Val r))
noncomputable def C22(fu:Nat):Cm Tryz.prog (List T_Tensor) (List T_Val):=⟨22,λt=>[.arr t.length (fm c_T_Tensor t)],λt=>ewise_Vals fu t,e22,λt b h=>ok22 fu t b h,Zi⟩
theorem u22{fu:Nat}{cp:CallP}(H:Hit cp (C22 fu).ct):K22 fu cp:=⟨λ {a0 r} h=>(C22 fu).at H a0 r h⟩
structure K52 (fu:Nat) (cp:CallP):Prop where
 ap: ∀ {a0:Int} {a1:T_Setting} {a2:List T_Val} {a3:Int} {r},infer_Node fu a0 a1 a2 a3=some r->cp 52 [.v (.int .i64 a0),.agg (c_T_Setting a1),.arr a2.length (fm c_T_Val a2),.v (.int .i64 a3)]=some (.tuple [.arr r.1.length (fm c_T_Val r.1),.v (.int .i64 r.2)])
noncomputable def C52(fu:Nat):Cm Tryz.prog (Int×T_Setting×(List T_Val)×Int) ((List T_Val)×Int):=⟨52,λt=>[.v (.int .i64 t.1),.agg (c_T_Setting t.2.1),.arr t.2.2.1.length (fm c_T_Val t.2.2.1),.v (.int .i64 t.2.2.2)],λt=>infer_Node fu t.1 t.2.1 t.2.2.1 t.2.2.2,e52,λt b h=>ok52 fu t.1 t.2.1 t.2.2.1 t.2.2.2 b h,Zi⟩
theorem u52{fu:Nat}{cp:CallP}(H:Hit cp (C52 fu).ct):K52 fu cp:=⟨λ {a0 a1 a2 a3 r} h=>(C52 fu).at H (a0,a1,a2,a3) r h⟩
structure K53 (fu:Nat) (cp:CallP):Prop where
 ap: ∀ {a0:Int} {a1:List Int} {r},tens_New fu a0 a1=some r->cp 53 [.v (.int .i64 a0),.arr a1.length (lm (ik .i64) a1)]=some (.tuple [.agg [.v (.int .i64 r.1.fType),.fresh 1 r.1.fDims.length (lm (ik .i64) r.1.fDims),.fresh 1 r.1.fF.length (lm (ik .u32) r.1.fF),.fresh 1 r.1.fI.length (lm (ik .i64) r.1.fI),.fresh 1 r.1.fB.length (lm (bk) r.1.fB)],.v (.int .i64 r.2)])
noncomputable def C53(fu:Nat):Cm Tryz.prog (Int×(List Int)) (T_Tensor×Int):=⟨53,λt=>[.v (.int .i64 t.1),.arr t.2.length (lm (ik .i64) t.2)],λt=>tens_New fu t.1 t.2,e53,λt b h=>ok53 fu t.1 t.2 b h,Zi⟩
theorem u53{fu:Nat}{cp:CallP}(H:Hit cp (C53 fu).ct):K53 fu cp:=⟨λ {a0 a1 r} h=>(C53 fu).at H (a0,a1) r h⟩
structure K26 (fu:Nat) (cp:CallP):Prop where
 ap: ∀ {a0:T_ewise_work} {r},ewise_work_divides fu a0=some r->cp 26 [.ref (c_T_ewise_work a0) 0]=some (.v (.bool r))
noncomputable def C26(fu:Nat):Cm Tryz.prog T_ewise_work Bool:=⟨26,λt=>[.ref (c_T_ewise_work t) 0],λt=>ewise_work_divides fu t,e26,λt b h=>ok26 fu t b h,Zi⟩
theorem u26{fu:Nat}{cp:CallP}(H:Hit cp (C26 fu).ct):K26 fu cp:=⟨λ {a0 r} h=>(C26 fu).at H a0 r h⟩
structure K55 (fu:Nat) (cp:CallP):Prop where
 ap: ∀ {a0:T_ewise_work} {a1:Int} {a2:Int} {r},ewise_work_place fu a0 a1 a2=some r->cp 55 [.ref (c_T_ewise_work a0) 0,.v (.int .i64 a1),.v (.int .i64 a2)]=some (.v (.int .i64 r))
noncomputable def C55(fu:Nat):Cm Tryz.prog (T_ewise_work×Int×Int) Int:=⟨55,λt=>[.ref (c_T_ewise_work t.1) 0,.v (.int .i64 t.2.1),.v (.int .i64 t.2.2)],λt=>ewise_work_place fu t.1 t.2.1 t.2.2,e55,λt b h=>ok55 fu t.1 t.2.1 t.2.2 b h,Zi⟩
theorem u55{fu:Nat}{cp:CallP}(H:Hit cp (C55 fu).ct):K55 fu cp:=⟨λ {a0 a1 a2 r} h=>(C55 fu).at H (a0,a1,a2) r h⟩
structure K231 (fu:Nat) (cp:CallP):Prop where
 ap: ∀ {a0:Int} {a1:Int} {r},ewise_intOf_9 fu a0 a1=some r->cp 231 [.v (.int .i64 a0),.v (.int .i64 a1)]=some (.v (.int .i64 r))
noncomputable def C231(fu:Nat):Cm Tryz.prog (Int×Int) Int:=⟨231,λt=>[.v (.int .i64 t.1),.v (.int .i64 t.2)],λt=>ewise_intOf_9 fu t.1 t.2,e231,λt b h=>ok231 fu t.1 t.2 b h,Zi⟩
theorem u231{fu:Nat}{cp:CallP}(H:Hit cp (C231 fu).ct):K231 fu cp:=⟨λ {a0 a1 r} h=>(C231 fu).at H (a0,a1) r h⟩
structure K120 (fu:Nat) (cp:CallP):Prop where
 ap: ∀ {a0:Bool} {a1:Bool} {r},ewise_kernelOf_3 fu a0 a1=some r->cp 120 [.v (.bool a0),.v (.bool a1)]=some (.v (.bool r))
noncomputable def C120(fu:Nat):Cm Tryz.prog (Bool×Bool) Bool:=⟨120,λt=>[.v (.bool t.1),.v (.bool t.2)],λt=>ewise_kernelOf_3 fu t.1 t.2,e120,λt b h=>ok120 fu t.1 t.2 b h,Zi⟩
theorem u120{fu:Nat}{cp:CallP}(H:Hit cp (C120 fu).ct):K120 fu cp:=⟨λ {a0 a1 r} h=>(C120 fu).at H (a0,a1) r h⟩
structure K121 (fu:Nat) (cp:CallP):Prop where
 ap: ∀ {a0:Bool} {a1:Bool} {r},ewise_kernelOf_4 fu a0 a1=some r->cp 121 [.v (.bool a0),.v (.bool a1)]=some (.v (.bool r))
noncomputable def C121(fu:Nat):Cm Tryz.prog (Bool×Bool) Bool:=⟨121,λt=>[.v (.bool t.1),.v (.bool t.2)],λt=>ewise_kernelOf_4 fu t.1 t.2,e121,λt b h=>ok121 fu t.1 t.2 b h,Zi⟩
theorem u121{fu:Nat}{cp:CallP}(H:Hit cp (C121 fu).ct):K121 fu cp:=⟨λ {a0 a1 r} h=>(C121 fu).at H (a0,a1) r h⟩
structure K122 (fu:Nat) (cp:CallP):Prop where
 ap: ∀ {a0:Bool} {a1:Bool} {r},ewise_kernelOf_5 fu a0 a1=some r->cp 122 [.v (.bool a0),.v (.bool a1)]=some (.v (.bool r))
noncomputable def C122(fu:Nat):Cm Tryz.prog (Bool×Bool) Bool:=⟨122,λt=>[.v (.bool t.1),.v (.bool t.2)],λt=>ewise_kernelOf_5 fu t.1 t.2,e122,λt b h=>ok122 fu t.1 t.2 b h,Zi⟩
theorem u122{fu:Nat}{cp:CallP}(H:Hit cp (C122 fu).ct):K122 fu cp:=⟨λ {a0 a1 r} h=>(C122 fu).at H (a0,a1) r h⟩
structure K216 (fu:Nat) (cp:CallP):Prop where
 ap: ∀ {a0:Int} {a1:Int} {r},soft_Add fu a0 a1=some r->cp 216 [.v (.int .u32 a0),.v (.int .u32 a1)]=some (.v (.int .u32 r))
noncomputable def C216(fu:Nat):Cm Tryz.prog (Int×Int) Int:=⟨216,λt=>[.v (.int .u32 t.1),.v (.int .u32 t.2)],λt=>soft_Add fu t.1 t.2,e216,λt b h=>ok216 fu t.1 t.2 b h,Zi⟩
theorem u216{fu:Nat}{cp:CallP}(H:Hit cp (C216 fu).ct):K216 fu cp:=⟨λ {a0 a1 r} h=>(C216 fu).at H (a0,a1) r h⟩
structure K224 (fu:Nat) (cp:CallP):Prop where
 ap: ∀ {a0:Int} {a1:Int} {r},ewise_intOf_4 fu a0 a1=some r->cp 224 [.v (.int .i64 a0),.v (.int .i64 a1)]=some (.v (.int .i64 r))
noncomputable def C224(fu:Nat):Cm Tryz.prog (Int×Int) Int:=⟨224,λt=>[.v (.int .i64 t.1),.v (.int .i64 t.2)],λt=>ewise_intOf_4 fu t.1 t.2,e224,λt b h=>ok224 fu t.1 t.2 b h,Zi⟩
theorem u224{fu:Nat}{cp:CallP}(H:Hit cp (C224 fu).ct):K224 fu cp:=⟨λ {a0 a1 r} h=>(C224 fu).at H (a0,a1) r h⟩
structure K118 (fu:Nat) (cp:CallP):Prop where
 ap: ∀ {a0:Bool} {a1:Bool} {r},ewise_kernelOf_1 fu a0 a1=some r->cp 118 [.v (.bool a0),.v (.bool a1)]=some (.v (.bool r))
noncomputable def C118(fu:Nat):Cm Tryz.prog (Bool×Bool) Bool:=⟨118,λt=>[.v (.bool t.1),.v (.bool t.2)],λt=>ewise_kernelOf_1 fu t.1 t.2,e118,λt b h=>ok118 fu t.1 t.2 b h,Zi⟩
theorem u118{fu:Nat}{cp:CallP}(H:Hit cp (C118 fu).ct):K118 fu cp:=⟨λ {a0 a1 r} h=>(C118 fu).at H (a0,a1) r h⟩
structure K209 (fu:Nat) (cp:CallP):Prop where
 ap: ∀ {a0:Int} {a1:Int} {r},soft_Mul fu a0 a1=some r->cp 209 [.v (.int .u32 a0),.v (.int .u32 a1)]=some (.v (.int .u32 r))
noncomputable def C209(fu:Nat):Cm Tryz.prog (Int×Int) Int:=⟨209,λt=>[.v (.int .u32 t.1),.v (.int .u32 t.2)],λt=>soft_Mul fu t.1 t.2,e209,λt b h=>ok209 fu t.1 t.2 b h,Zi⟩
theorem u209{fu:Nat}{cp:CallP}(H:Hit cp (C209 fu).ct):K209 fu cp:=⟨λ {a0 a1 r} h=>(C209 fu).at H (a0,a1) r h⟩
structure K226 (fu:Nat) (cp:CallP):Prop where
 ap: ∀ {a0:Int} {a1:Int} {r},ewise_intOf_6 fu a0 a1=some r->cp 226 [.v (.int .i64 a0),.v (.int .i64 a1)]=some (.v (.int .i64 r))
noncomputable def C226(fu:Nat):Cm Tryz.prog (Int×Int) Int:=⟨226,λt=>[.v (.int .i64 t.1),.v (.int .i64 t.2)],λt=>ewise_intOf_6 fu t.1 t.2,e226,λt b h=>ok226 fu t.1 t.2 b h,Zi⟩
theorem u226{fu:Nat}{cp:CallP}(H:Hit cp (C226 fu).ct):K226 fu cp:=⟨λ {a0 a1 r} h=>(C226 fu).at H (a0,a1) r h⟩
structure K215 (fu:Nat) (cp:CallP):Prop where
 ap: ∀ {a0:Int} {a1:Int} {r},soft_Min fu a0 a1=some r->cp 215 [.v (.int .u32 a0),.v (.int .u32 a1)]=some (.v (.int .u32 r))
noncomputable def C215(fu:Nat):Cm Tryz.prog (Int×Int) Int:=⟨215,λt=>[.v (.int .u32 t.1),.v (.int .u32 t.2)],λt=>soft_Min fu t.1 t.2,e215,λt b h=>ok215 fu t.1 t.2 b h,Zi⟩
theorem u215{fu:Nat}{cp:CallP}(H:Hit cp (C215 fu).ct):K215 fu cp:=⟨λ {a0 a1 r} h=>(C215 fu).at H (a0,a1) r h⟩
structure K229 (fu:Nat) (cp:CallP):Prop where
 ap: ∀ {a0:Int} {a1:Int} {r},ewise_intOf_7 fu a0 a1=some r->cp 229 [.v (.int .i64 a0),.v (.int .i64 a1)]=some (.v (.int .i64 r))
noncomputable def C229(fu:Nat):Cm Tryz.prog (Int×Int) Int:=⟨229,λt=>[.v (.int .i64 t.1),.v (.int .i64 t.2)],λt=>ewise_intOf_7 fu t.1 t.2,e229,λt b h=>ok229 fu t.1 t.2 b h,Zi⟩
theorem u229{fu:Nat}{cp:CallP}(H:Hit cp (C229 fu).ct):K229 fu cp:=⟨λ {a0 a1 r} h=>(C229 fu).at H (a0,a1) r h⟩
structure K206 (fu:Nat) (cp:CallP):Prop where
 ap: ∀ {a0:Int} {a1:Int} {r},soft_Max fu a0 a1=some r->cp 206 [.v (.int .u32 a0),.v (.int .u32 a1)]=some (.v (.int .u32 r))
noncomputable def C206(fu:Nat):Cm Tryz.prog (Int×Int) Int:=⟨206,λt=>[.v (.int .u32 t.1),.v (.int .u32 t.2)],λt=>soft_Max fu t.1 t.2,e206,λt b h=>ok206 fu t.1 t.2 b h,Zi⟩
theorem u206{fu:Nat}{cp:CallP}(H:Hit cp (C206 fu).ct):K206 fu cp:=⟨λ {a0 a1 r} h=>(C206 fu).at H (a0,a1) r h⟩
structure K230 (fu:Nat) (cp:CallP):Prop where
 ap: ∀ {a0:Int} {a1:Int} {r},ewise_intOf_8 fu a0 a1=some r->cp 230 [.v (.int .i64 a0),.v (.int .i64 a1)]=some (.v (.int .i64 r))
noncomputable def C230(fu:Nat):Cm Tryz.prog (Int×Int) Int:=⟨230,λt=>[.v (.int .i64 t.1),.v (.int .i64 t.2)],λt=>ewise_intOf_8 fu t.1 t.2,e230,λt b h=>ok230 fu t.1 t.2 b h,Zi⟩
theorem u230{fu:Nat}{cp:CallP}(H:Hit cp (C230 fu).ct):K230 fu cp:=⟨λ {a0 a1 r} h=>(C230 fu).at H (a0,a1) r h⟩
structure K129 (fu:Nat) (cp:CallP):Prop where
 ap: ∀ {a0:Int} {a1:Int} {r},ewise_kernelOf_9 fu a0 a1=some r->cp 129 [.v (.int .i64 a0),.v (.int .i64 a1)]=some (.v (.bool r))
noncomputable def C129(fu:Nat):Cm Tryz.prog (Int×Int) Bool:=⟨129,λt=>[.v (.int .i64 t.1),.v (.int .i64 t.2)],λt=>ewise_kernelOf_9 fu t.1 t.2,e129,λt b h=>ok129 fu t.1 t.2 b h,Zi⟩
theorem u129{fu:Nat}{cp:CallP}(H:Hit cp (C129 fu).ct):K129 fu cp:=⟨λ {a0 a1 r} h=>(C129 fu).at H (a0,a1) r h⟩
structure K127 (fu:Nat) (cp:CallP):Prop where
 ap: ∀ {a0:Bool} {a1:Bool} {r},ewise_kernelOf_8 fu a0 a1=some r->cp 127 [.v (.bool a0),.v (.bool a1)]=some (.v (.bool r))
noncomputable def C127(fu:Nat):Cm Tryz.prog (Bool×Bool) Bool:=⟨127,λt=>[.v (.bool t.1),.v (.bool t.2)],λt=>ewise_kernelOf_8 fu t.1 t.2,e127,λt b h=>ok127 fu t.1 t.2 b h,Zi⟩
theorem u127{fu:Nat}{cp:CallP}(H:Hit cp (C127 fu).ct):K127 fu cp:=⟨λ {a0 a1 r} h=>(C127 fu).at H (a0,a1) r h⟩
def kv56(x:Int)(s:T_Setting):AV:=if x=23 then .agg [.fn 299 [] [.ref [.fn 322 [] []] 0],.fn 231 [] [],.fn 120 [] [],.v .nilFunc,.v .nilFunc]else if x=24 then .agg [.fn 299 [] [.ref [.fn 322 [] []] 0],.fn 231 [] [],.fn 121 [] [],.v .nilFunc,.v .nilFunc]else if x=25 then .agg [.fn 299 [] [.ref [.fn 322 [] []] 0],.fn 231 [] [],.fn 122 [] [],.v .nilFunc,.v .nilFunc]else if x=28 then .agg [.fn 216 [] [],.fn 224 [] [],.fn 118 [] [],.v .nilFunc,.v .nilFunc]else if x=30 then .agg [.fn 209 [] [],.fn 226 [] [],.fn 118 [] [],.v .nilFunc,.v .nilFunc]else if x=34 then .agg [.fn 215 [] [],.fn 229 [] [],.fn 118 [] [],.v .nilFunc,.v .nilFunc]else if x=35 then .agg [.fn 206 [] [],.fn 230 [] [],.fn 118 [] [],.v .nilFunc,.v .nilFunc]else .agg [.fn 299 [] [.ref [.fn 322 [] []] 0],.fn 231 [] [],.fn 127 [] [],.fn 128 [] [],.fn 129 [] []]
theorem ck56(t b:Int×T_Setting)(h:(if t.1=23∨t.1=24∨t.1=25∨t.1=28∨t.1=30∨t.1=34∨t.1=35∨t.1=37 then some t else none)=some b):PureOK Tryz.prog 56 [.v (.int .i64 t.1),.agg (c_T_Setting t.2)] (kv56 b.1 b.2):=by
  obtain⟨x,s⟩:=t
  split at h
  · rename_i hx;injection h with h;subst h;simp only at hx ⊢;rcases hx with rfl|rfl|rfl|rfl|rfl|rfl|rfl|rfl
    · exact Aw.c81_ok 56 _ _ (by kernel_rfl)
    · exact Aw.c81_ok 56 _ _ (by kernel_rfl)
    · exact Aw.c81_ok 56 _ _ (by kernel_rfl)
    · exact Aw.c81_ok 56 _ _ (by kernel_rfl)
    · exact Aw.c81_ok 56 _ _ (by kernel_rfl)
    · exact Aw.c81_ok 56 _ _ (by kernel_rfl)
    · exact Aw.c81_ok 56 _ _ (by kernel_rfl)
    · exact Aw.c81_ok 56 _ _ (by kernel_rfl)
  · cases h
noncomputable def C56:Cm Tryz.prog (Int×T_Setting) (Int×T_Setting):=⟨56,λt=>[.v (.int .i64 t.1),.agg (c_T_Setting t.2)],λt=>if t.1=23∨t.1=24∨t.1=25∨t.1=28∨t.1=30∨t.1=34∨t.1=35∨t.1=37 then some t else none,λt=>kv56 t.1 t.2,ck56,Zi⟩
def ewise_Do.m1:LJ 1 4 Unit ((List Int)×(List Bool)×Int):=⟨λr s e=>[(0,er e 0),(2,er e 2),(6,er e 6),(7,.v (.int .i64 s.2.2))],λr s h=>[((0,6,0),hr h (0,6,0)),((1,20,0),hr h (1,20,0)),((1,8,115),hr h (1,8,115)),((1,68,0),hr h (1,68,0)),((1,68,1),hr h (1,68,1)),((1,68,2),.sl true true 1 (hx h (1,68,2)) (lm (ik .i64) s.1)),((1,68,3),.sl true true 1 (hx h (1,68,3)) (lm (bk) s.2.1)),((2,6,0),hr h (2,6,0))]⟩
def ewise_Do.m2:LJ 2 4 Unit ((List Int)×(List Bool)×Int):=⟨λr s e=>[(0,er e 0),(2,er e 2),(6,er e 6),(7,.v (.int .i64 s.2.2))],λr s h=>[((0,6,0),hr h (0,6,0)),((1,20,0),hr h (1,20,0)),((1,8,115),hr h (1,8,115)),((1,68,0),hr h (1,68,0)),((1,68,1),hr h (1,68,1)),((1,68,2),.sl true true 1 (hx h (1,68,2)) (lm (ik .i64) s.1)),((1,68,3),.sl true true 1 (hx h (1,68,3)) (lm (bk) s.2.1)),((2,6,0),hr h (2,6,0))]⟩
def ewise_Do.m3:LJ 3 4 Unit ((List Int)×(List Bool)×Int):=⟨λr s e=>[(0,er e 0),(2,er e 2),(6,er e 6),(7,.v (.int .i64 s.2.2))],λr s h=>[((0,6,0),hr h (0,6,0)),((1,20,0),hr h (1,20,0)),((1,8,115),hr h (1,8,115)),((1,68,0),hr h (1,68,0)),((1,68,1),hr h (1,68,1)),((1,68,2),.sl true true 1 (hx h (1,68,2)) (lm (ik .i64) s.1)),((1,68,3),.sl true true 1 (hx h (1,68,3)) (lm (bk) s.2.1)),((2,6,0),hr h (2,6,0))]⟩
def ewise_Do.m4:LJ 4 4 Unit ((List Int)×(List Int)×(List Bool)×Int):=⟨λr s e=>[(0,er e 0),(2,er e 2),(6,er e 6),(7,.v (.int .i64 s.2.2.2))],λr s h=>[((0,6,0),hr h (0,6,0)),((1,20,0),hr h (1,20,0)),((1,8,115),hr h (1,8,115)),((1,68,0),hr h (1,68,0)),((1,68,1),.sl true true 1 (hx h (1,68,1)) (lm (ik .u32) s.1)),((1,68,2),.sl true true 1 (hx h (1,68,2)) (lm (ik .i64) s.2.1)),((1,68,3),.sl true true 1 (hx h (1,68,3)) (lm (bk) s.2.2.1)),((2,6,0),hr h (2,6,0))]⟩
def ewise_Do.m5:LJ 5 4 Unit ((List Int)×(List Int)×(List Bool)×Int):=⟨λr s e=>[(0,er e 0),(2,er e 2),(6,er e 6),(7,.v (.int .i64 s.2.2.2))],λr s h=>[((0,6,0),hr h (0,6,0)),((1,20,0),hr h (1,20,0)),((1,8,115),hr h (1,8,115)),((1,68,0),hr h (1,68,0)),((1,68,1),.sl true true 1 (hx h (1,68,1)) (lm (ik .u32) s.1)),((1,68,2),.sl true true 1 (hx h (1,68,2)) (lm (ik .i64) s.2.1)),((1,68,3),.sl true true 1 (hx h (1,68,3)) (lm (bk) s.2.2.1)),((2,6,0),hr h (2,6,0))]⟩
def ewise_Do.m6:LJ 6 4 Unit ((List Int)×(List Int)×(List Bool)×Int):=⟨λr s e=>[(0,er e 0),(2,er e 2),(6,er e 6),(7,.v (.int .i64 s.2.2.2))],λr s h=>[((0,6,0),hr h (0,6,0)),((1,20,0),hr h (1,20,0)),((1,8,115),hr h (1,8,115)),((1,68,0),hr h (1,68,0)),((1,68,1),.sl true true 1 (hx h (1,68,1)) (lm (ik .u32) s.1)),((1,68,2),.sl true true 1 (hx h (1,68,2)) (lm (ik .i64) s.2.1)),((1,68,3),.sl true true 1 (hx h (1,68,3)) (lm (bk) s.2.2.1)),((2,6,0),hr h (2,6,0))]⟩
def ewise_Do.m7:LJ 7 4 Unit ((List Int)×(List Int)×(List Bool)×Int):=⟨λr s e=>[(0,er e 0),(2,er e 2),(6,er e 6),(7,.v (.int .i64 s.2.2.2))],λr s h=>[((0,6,0),hr h (0,6,0)),((1,20,0),hr h (1,20,0)),((1,8,115),hr h (1,8,115)),((1,68,0),hr h (1,68,0)),((1,68,1),.sl true true 1 (hx h (1,68,1)) (lm (ik .u32) s.1)),((1,68,2),.sl true true 1 (hx h (1,68,2)) (lm (ik .i64) s.2.1)),((1,68,3),.sl true true 1 (hx h (1,68,3)) (lm (bk) s.2.2.1)),((2,6,0),hr h (2,6,0))]⟩
def ewise_Do.m8:LJ 8 4 Unit ((List Int)×(List Bool)×Int):=⟨λr s e=>[(0,er e 0),(2,er e 2),(6,er e 6),(7,.v (.int .i64 s.2.2))],λr s h=>[((0,6,0),hr h (0,6,0)),((1,20,0),hr h (1,20,0)),((1,8,115),hr h (1,8,115)),((1,68,0),hr h (1,68,0)),((1,68,1),hr h (1,68,1)),((1,68,2),.sl true true 1 (hx h (1,68,2)) (lm (ik .i64) s.1)),((1,68,3),.sl true true 1 (hx h (1,68,3)) (lm (bk) s.2.1)),((2,6,0),hr h (2,6,0))]⟩
def ewise_Do.m9:LJ 9 10 Unit ((List T_Tensor)×Int):=⟨λr s e=>[(0,er e 0),(2,er e 2),(4,er e 4),(8,er e 8),(21,er e 21),(22,er e 22),(23,.v (.int .i64 s.2))],λr s h=>[((0,4,0),hr h (0,4,0)),((0,6,0),hr h (0,6,0)),((1,4,0),hr h (1,4,0)),((1,20,0),bs (hr h (1,20,0)) 37 (.own (1,8,115) 0 s.1.length s.1.length)),((1,8,115),.sl true true 5 s.1.length (fm c_T_Tensor s.1))]⟩
def ewise_Do.j1:LJ 1 26 Unit (List T_Tensor):=⟨λr t e=>[(0,er e 0),(2,er e 2),(4,er e 4),(8,er e 8)],λr t h=>[((0,4,0),hr h (0,4,0)),((0,6,0),hr h (0,6,0)),((1,4,0),hr h (1,4,0)),((1,20,0),bs (hr h (1,20,0)) 37 (.own (1,8,115) 0 t.length t.length)),((1,8,115),.sl true true 5 t.length (fm c_T_Tensor t))]⟩
set_option maxHeartbeats 400000000 in
open ewise_Do in
theorem w11(cp:CallP)(fu:Nat)(x1:Int)(x2:T_Setting)(x3:List T_Tensor)(H1:K14 fu cp)(H2:K50 fu cp)(H3:K51 fu cp)(H4:K22 fu cp)(H5:K52 fu cp)(H6:K53 fu cp)(H7:K54 fu cp)(H8:K26 fu cp)(H9:K55 fu cp)(H10:K231 fu cp)(H11:K120 fu cp)(H12:K121 fu cp)(H13:K122 fu cp)(H14:K216 fu cp)(H15:K107 fu cp)(H16:K224 fu cp)(H17:K118 fu cp)(H18:K209 fu cp)(H19:K226 fu cp)(H20:K215 fu cp)(H21:K229 fu cp)(H22:K206 fu cp)(H23:K230 fu cp)(H24:K128 fu cp)(H25:K129 fu cp)(H26:K127 fu cp)(H27:(∀ s:T_Setting,cp 56 [.v (.int .i64 23),.agg (c_T_Setting s)]=some (.agg [.fn 299 [] [.ref [.fn 322 [] []] 0],.fn 231 [] [],.fn 120 [] [],.v .nilFunc,.v .nilFunc]))∧(∀ s:T_Setting,cp 56 [.v (.int .i64 24),.agg (c_T_Setting s)]=some (.agg [.fn 299 [] [.ref [.fn 322 [] []] 0],.fn 231 [] [],.fn 121 [] [],.v .nilFunc,.v .nilFunc]))∧(∀ s:T_Setting,cp 56 [.v (.int .i64 25),.agg (c_T_Setting s)]=some (.agg [.fn 299 [] [.ref [.fn 322 [] []] 0],.fn 231 [] [],.fn 122 [] [],.v .nilFunc,.v .nilFunc]))∧(∀ s:T_Setting,cp 56 [.v (.int .i64 28),.agg (c_T_Setting s)]=some (.agg [.fn 216 [] [],.fn 224 [] [],.fn 118 [] [],.v .nilFunc,.v .nilFunc]))∧(∀ s:T_Setting,cp 56 [.v (.int .i64 30),.agg (c_T_Setting s)]=some (.agg [.fn 209 [] [],.fn 226 [] [],.fn 118 [] [],.v .nilFunc,.v .nilFunc]))∧(∀ s:T_Setting,cp 56 [.v (.int .i64 34),.agg (c_T_Setting s)]=some (.agg [.fn 215 [] [],.fn 229 [] [],.fn 118 [] [],.v .nilFunc,.v .nilFunc]))∧(∀ s:T_Setting,cp 56 [.v (.int .i64 35),.agg (c_T_Setting s)]=some (.agg [.fn 206 [] [],.fn 230 [] [],.fn 118 [] [],.v .nilFunc,.v .nilFunc]))∧(∀ s:T_Setting,cp 56 [.v (.int .i64 37),.agg (c_T_Setting s)]=some (.agg [.fn 299 [] [.ref [.fn 322 [] []] 0],.fn 231 [] [],.fn 127 [] [],.fn 128 [] [],.fn 129 [] []]))):J (go Tryz.prog (inlC [25,27,60]) cp (ciE Tryz.prog (inlC [25,27,60]) cp (ciE Tryz.prog (inlC [25,27,60]) cp (ciE Tryz.prog (inlC [25,27,60]) cp noI fu 60 d60 ⟨b60,[],[]⟩ noI) fu 27 d27 ⟨b27,[],[]⟩ (ciE Tryz.prog (inlC [25,27,60]) cp noI fu 60 d60 ⟨b60,[],[]⟩ noI)) fu 25 d25 ⟨b25,[.tmp 6,.tmp 7],[56,34]⟩ (ciE Tryz.prog (inlC [25,27,60]) cp (ciE Tryz.prog (inlC [25,27,60]) cp noI fu 60 d60 ⟨b60,[],[]⟩ noI) fu 27 d27 ⟨b27,[],[]⟩ (ciE Tryz.prog (inlC [25,27,60]) cp noI fu 60 d60 ⟨b60,[],[]⟩ noI))) 0 [] d11 fu (finS Tryz.prog [.cell 6 28,.tmp 7] [28,34]) (bodyOf Tryz.f11) (initE 0 [.v (.int .i64 x1),.agg (c_T_Setting x2),.arr x3.length (fm c_T_Tensor x3)]) [] []) (ewise_Do fu x1 x2 x3) e11:=by
 unfold ewise_Do e11
 have da:=d11_at
 conv=>arg 1;simp only[bodyOf,Tryz.f11]
 have z0:=d11_at
 have z1:=SE
 have z2:=RL
 have z3:=d25_at
 have z4:=Tryz.f25.eq_1
 have z5:= @go_b25
 have z6:=d27_at
 have z7:=Tryz.f27.eq_1
 have z8:= @go_b27
 have z9:=d60_at
 have z10:=Tryz.f60.eq_1
 have z11:= @go_b60
 have z12:=RI
 have z13:=RIk
 have z14:= @bodyOf.eq_1
 simp only[c_T_Setting]at H27
 exact Wk
theorem ok11(fu:Nat)(x1:Int)(x2:T_Setting)(x3:List T_Tensor)(r)(h:ewise_Do fu x1 x2 x3=some r):PureOK Tryz.prog 11 [.v (.int .i64 x1),.agg (c_T_Setting x2),.arr x3.length (fm c_T_Tensor x3)] (e11 r):=pureST mixed [(C14 fu).ct,(C50 fu).ct,(C51 fu).ct,(C22 fu).ct,(C52 fu).ct,(C53 fu).ct,(C54 fu).ct,(C26 fu).ct,(C55 fu).ct,(C231 fu).ct,(C120 fu).ct,(C121 fu).ct,(C122 fu).ct,(C216 fu).ct,(C107 fu).ct,(C224 fu).ct,(C118 fu).ct,(C209 fu).ct,(C226 fu).ct,(C215 fu).ct,(C229 fu).ct,(C206 fu).ct,(C230 fu).ct,(C128 fu).ct,(C129 fu).ct,(C127 fu).ct,C56.ct] (ids:=[14,50,51,22,52,53,54,26,55,231,120,121,122,216,107,224,118,209,226,215,229,206,230,128,129,127,56]) rfl (by decide) i11 (C:=(inlC [25,27,60])) (ci:=λcp=>(ciE Tryz.prog (inlC [25,27,60]) cp (ciE Tryz.prog (inlC [25,27,60]) cp (ciE Tryz.prog (inlC [25,27,60]) cp noI fu 60 d60 ⟨b60,[],[]⟩ noI) fu 27 d27 ⟨b27,[],[]⟩ (ciE Tryz.prog (inlC [25,27,60]) cp noI fu 60 d60 ⟨b60,[],[]⟩ noI)) fu 25 d25 ⟨b25,[.tmp 6,.tmp 7],[56,34]⟩ (ciE Tryz.prog (inlC [25,27,60]) cp (ciE Tryz.prog (inlC [25,27,60]) cp noI fu 60 d60 ⟨b60,[],[]⟩ noI) fu 27 d27 ⟨b27,[],[]⟩ (ciE Tryz.prog (inlC [25,27,60]) cp noI fu 60 d60 ⟨b60,[],[]⟩ noI)))) (λcp ok=>(ciE_ok mixed ok (ciE_ok mixed ok (ciE_ok mixed ok noI_ok i60 noI_ok) i27 (ciE_ok mixed ok noI_ok i60 noI_ok)) i25 (ciE_ok mixed ok (ciE_ok mixed ok noI_ok i60 noI_ok) i27 (ciE_ok mixed ok noI_ok i60 noI_ok)))) (λcp H=>w11 cp fu x1 x2 x3 (u14 H.1) (u50 H.2.1) (u51 H.2.2.1) (u22 H.2.2.2.1) (u52 H.2.2.2.2.1) (u53 H.2.2.2.2.2.1) (u54 H.2.2.2.2.2.2.1) (u26 H.2.2.2.2.2.2.2.1) (u55 H.2.2.2.2.2.2.2.2.1) (u231 H.2.2.2.2.2.2.2.2.2.1) (u120 H.2.2.2.2.2.2.2.2.2.2.1) (u121 H.2.2.2.2.2.2.2.2.2.2.2.1) (u122 H.2.2.2.2.2.2.2.2.2.2.2.2.1) (u216 H.2.2.2.2.2.2.2.2.2.2.2.2.2.1) (u107 H.2.2.2.2.2.2.2.2.2.2.2.2.2.2.1) (u224 H.2.2.2.2.2.2.2.2.2.2.2.2.2.2.2.1) (u118 H.2.2.2.2.2.2.2.2.2.2.2.2.2.2.2.2.1) (u209 H.2.2.2.2.2.2.2.2.2.2.2.2.2.2.2.2.2.1) (u226 H.2.2.2.2.2.2.2.2.2.2.2.2.2.2.2.2.2.2.1) (u215 H.2.2.2.2.2.2.2.2.2.2.2.2.2.2.2.2.2.2.2.1) (u229 H.2.2.2.2.2.2.2.2.2.2.2.2.2.2.2.2.2.2.2.2.1) (u206 H.2.2.2.2.2.2.2.2.2.2.2.2.2.2.2.2.2.2.2.2.2.1) (u230 H.2.2.2.2.2.2.2.2.2.2.2.2.2.2.2.2.2.2.2.2.2.2.1) (u128 H.2.2.2.2.2.2.2.2.2.2.2.2.2.2.2.2.2.2.2.2.2.2.2.1) (u129 H.2.2.2.2.2.2.2.2.2.2.2.2.2.2.2.2.2.2.2.2.2.2.2.2.1) (u127 H.2.2.2.2.2.2.2.2.2.2.2.2.2.2.2.2.2.2.2.2.2.2.2.2.2.1) ⟨λs=>C56.at H.2.2.2.2.2.2.2.2.2.2.2.2.2.2.2.2.2.2.2.2.2.2.2.2.2.2.1 (23,s) (23,s) rfl,λs=>C56.at H.2.2.2.2.2.2.2.2.2.2.2.2.2.2.2.2.2.2.2.2.2.2.2.2.2.2.1 (24,s) (24,s) rfl,λs=>C56.at H.2.2.2.2.2.2.2.2.2.2.2.2.2.2.2.2.2.2.2.2.2.2.2.2.2.2.1 (25,s) (25,s) rfl,λs=>C56.at H.2.2.2.2.2.2.2.2.2.2.2.2.2.2.2.2.2.2.2.2.2.2.2.2.2.2.1 (28,s) (28,s) rfl,λs=>C56.at H.2.2.2.2.2.2.2.2.2.2.2.2.2.2.2.2.2.2.2.2.2.2.2.2.2.2.1 (30,s) (30,s) rfl,λs=>C56.at H.2.2.2.2.2.2.2.2.2.2.2.2.2.2.2.2.2.2.2.2.2.2.2.2.2.2.1 (34,s) (34,s) rfl,λs=>C56.at H.2.2.2.2.2.2.2.2.2.2.2.2.2.2.2.2.2.2.2.2.2.2.2.2.2.2.1 (35,s) (35,s) rfl,λs=>C56.at H.2.2.2.2.2.2.2.2.2.2.2.2.2.2.2.2.2.2.2.2.2.2.2.2.2.2.1 (37,s) (37,s) rfl⟩) h
def d16:List (Nat×List Nat):=[(0,[4]),(0,[0,1,5]),(0,[6,7,8,9]),(0,[]),(0,[]),(0,[]),(0,[]),(0,[]),(0,[11,12,13]),(0,[]),(0,[15,16]),(0,[]),(9,[17,18,19,20,21,22,23,24]),(0,[]),(0,[]),(0,[]),(0,[])]
def d16_at:=by have h:=tabL d16.eq_1;simp only[AllAt,Nat.zero_add,Nat.reduceAdd]at h;exact h
theorem i16:finfo Tryz.prog 16 d16=some ⟨bodyOf Tryz.f16,[.tmp 4],[4]⟩:=finfo_at Tryz.func16 rfl (by kernel_rfl) (by kernel_rfl)
def e16:Bool->AV:=λr=> .v (.bool r)
def ref04_SameInts.m1:LJ 1 8 Unit Int:=⟨λr s e=>[(0,er e 0),(1,er e 1),(5,.v (.int .i64 s))],λr s h=>[]⟩
set_option maxHeartbeats 20000000 in
open ref04_SameInts in
theorem w16(cp:CallP)(fu:Nat)(x1:List Int)(x2:List Int):J (go Tryz.prog noC cp noI 0 [] d16 fu (fin Tryz.prog [.tmp 4] [4]) (bodyOf Tryz.f16) (initE 0 [.arr x1.length (lm (ik .i64) x1),.arr x2.length (lm (ik .i64) x2)]) [] []) (ref04_SameInts fu x1 x2) e16:=by
 unfold ref04_SameInts e16
 have da:=d16_at
 conv=>arg 1;simp only[bodyOf,Tryz.f16]
 have z0:=d16_at
 exact Wk
theorem ok16(fu:Nat)(x1:List Int)(x2:List Int)(r)(h:ref04_SameInts fu x1 x2=some r):PureOK Tryz.prog 16 [.arr x1.length (lm (ik .i64) x1),.arr x2.length (lm (ik .i64) x2)] (e16 r):=pureT mixed [] (ids:=[]) rfl (by decide) i16 (C:=noC) (ci:=λcp=>noI) (λcp ok=>noI_ok) (λcp H=>w16 cp fu x1 x2) h
def d13:List (Nat×List Nat):=[(0,[0,1,4]),(0,[5]),(0,[8,9,10,11,12,13,14,15,16,17,18,19,20,21,22,23,24,25,26,27,28,29,30,31,32,33,34,35,36,37,38,39,40,41,42,43,44,45,46]),(0,[]),(0,[]),(0,[6]),(0,[]),(0,[]),(0,[48,49,50,51]),(0,[2,3,7]),(0,[53,54]),(0,[]),(11,[55,56,57,58,59,60,61,62,63,64]),(0,[]),(0,[]),(0,[]),(0,[]),(0,[]),(0,[66,67,68,69]),(0,[]),(0,[71,72]),(0,[]),(11,[73,74,75,76,77,78,79,80,81,82]),(0,[]),(0,[]),(0,[]),(0,[]),(0,[]),(0,[84,85,86,87]),(0,[]),(0,[89,90]),(0,[]),(11,[91,92,93,94,95,96,97,98,99,100]),(0,[]),(0,[]),(0,[]),(0,[])]
def d13_at:=by have h:=tabL d13.eq_1;simp only[AllAt,Nat.zero_add,Nat.reduceAdd]at h;exact h
theorem i13:finfo Tryz.prog 13 d13=some ⟨bodyOf Tryz.f13,[.tmp 4],[4]⟩:=finfo_at Tryz.func13 rfl (by kernel_rfl) (by kernel_rfl)
def e13:Bool->AV:=λr=> .v (.bool r)
structure K16 (fu:Nat) (cp:CallP):Prop where
 ap: ∀ {a0:List Int} {a1:List Int} {r},ref04_SameInts fu a0 a1=some r->cp 16 [.arr a0.length (lm (ik .i64) a0),.arr a1.length (lm (ik .i64) a1)]=some (.v (.bool r))
noncomputable def C16(fu:Nat):Cm Tryz.prog ((List Int)×(List Int)) Bool:=⟨16,λt=>[.arr t.1.length (lm (ik .i64) t.1),.arr t.2.length (lm (ik .i64) t.2)],λt=>ref04_SameInts fu t.1 t.2,e16,λt b h=>ok16 fu t.1 t.2 b h,Zi⟩
theorem u16{fu:Nat}{cp:CallP}(H:Hit cp (C16 fu).ct):K16 fu cp:=⟨λ {a0 a1 r} h=>(C16 fu).at H (a0,a1) r h⟩
def ref05_Same.m1:LJ 1 28 Unit Int:=⟨λr s e=>[(2,er e 2),(3,er e 3),(7,.v (.int .i64 s))],λr s h=>[((0,2,0),hr h (0,2,0)),((0,3,0),hr h (0,3,0))]⟩
def ref05_Same.m2:LJ 2 18 Unit Int:=⟨λr s e=>[(2,er e 2),(3,er e 3),(6,.v (.int .i64 s))],λr s h=>[((0,2,0),hr h (0,2,0)),((0,3,0),hr h (0,3,0))]⟩
def ref05_Same.j3:LJ 3 26 Unit Unit:=⟨λr t e=>[(2,er e 2),(3,er e 3)],λr t h=>[((0,2,0),hr h (0,2,0)),((0,3,0),hr h (0,3,0))]⟩
def ref05_Same.m3:LJ 3 8 Unit Int:=⟨λr s e=>[(2,er e 2),(3,er e 3),(5,.v (.int .i64 s))],λr s h=>[((0,2,0),hr h (0,2,0)),((0,3,0),hr h (0,3,0))]⟩
def ref05_Same.j2:LJ 2 16 Unit Unit:=⟨λr t e=>[(2,er e 2),(3,er e 3)],λr t h=>[((0,2,0),hr h (0,2,0)),((0,3,0),hr h (0,3,0))]⟩
def ref05_Same.j1:LJ 1 6 Unit Unit:=⟨λr t e=>[(2,er e 2),(3,er e 3)],λr t h=>[((0,2,0),hr h (0,2,0)),((0,3,0),hr h (0,3,0))]⟩
set_option maxHeartbeats 20000000 in
open ref05_Same in
theorem w13(cp:CallP)(fu:Nat)(x1:T_Tensor)(x2:T_Tensor)(H1:K16 fu cp):J (go Tryz.prog noC cp noI 0 [] d13 fu (fin Tryz.prog [.tmp 4] [4]) (bodyOf Tryz.f13) (initE 0 [.agg (c_T_Tensor x1),.agg (c_T_Tensor x2)]) [] []) (ref05_Same fu x1 x2) e13:=by
 unfold ref05_Same e13
 have da:=d13_at
 conv=>arg 1;simp only[bodyOf,Tryz.f13]
 have z0:=d13_at
 exact Wk
theorem ok13(fu:Nat)(x1:T_Tensor)(x2:T_Tensor)(r)(h:ref05_Same fu x1 x2=some r):PureOK Tryz.prog 13 [.agg (c_T_Tensor x1),.agg (c_T_Tensor x2)] (e13 r):=pureT mixed [(C16 fu).ct] (ids:=[16]) rfl (by decide) i13 (C:=noC) (ci:=λcp=>noI) (λcp ok=>noI_ok) (λcp H=>w13 cp fu x1 x2 (u16 H.1)) h
def d5:List (Nat×List Nat):=[(0,[1,2,6]),(0,[]),(0,[13]),(0,[]),(0,[0,14,15,16,17,18]),(0,[]),(0,[19,20,21,22,23,24,25,26,27]),(0,[]),(0,[4,5,8,28,29,30,31,32,33,34,35,36]),(0,[]),(0,[7,9,10,11,12,37,38,39,40,41,42,43,44,45,46,47,48,49])]
def d5_at:=by have h:=tabL d5.eq_1;simp only[AllAt,Nat.zero_add,Nat.reduceAdd]at h;exact h
theorem i5:finfo Tryz.prog 5 d5=some ⟨bodyOf Tryz.f5,[.tmp 6],[4]⟩:=finfo_at Tryz.func5 rfl (by kernel_rfl) (by kernel_rfl)
def e5:Bool->AV:=λr=> .v (.bool r)
noncomputable def C9:Cm Tryz.prog Unit Bool:=⟨9,λ_=>[],λ_=>some true,λb=> .v (.bool b),λ_ b h=>by injection h with h;subst h;exact awake9,λ_ _ _=>rfl⟩
structure K11 (fu:Nat) (cp:CallP):Prop where
 ap: ∀ {a0:Int} {a1:T_Setting} {a2:List T_Tensor} {r},ewise_Do fu a0 a1 a2=some r->cp 11 [.v (.int .i64 a0),.agg (c_T_Setting a1),.arr a2.length (fm c_T_Tensor a2)]=some (.tuple [.agg [.v (.int .i64 r.1.fType),.arr r.1.fDims.length (lm (ik .i64) r.1.fDims),.arr r.1.fF.length (lm (ik .u32) r.1.fF),.arr r.1.fI.length (lm (ik .i64) r.1.fI),.arr r.1.fB.length (lm (bk) r.1.fB)],.v (.int .i64 r.2)])
noncomputable def C11(fu:Nat):Cm Tryz.prog (Int×T_Setting×(List T_Tensor)) (T_Tensor×Int):=⟨11,λt=>[.v (.int .i64 t.1),.agg (c_T_Setting t.2.1),.arr t.2.2.length (fm c_T_Tensor t.2.2)],λt=>ewise_Do fu t.1 t.2.1 t.2.2,e11,λt b h=>ok11 fu t.1 t.2.1 t.2.2 b h,Zi⟩
theorem u11{fu:Nat}{cp:CallP}(H:Hit cp (C11 fu).ct):K11 fu cp:=⟨λ {a0 a1 a2 r} h=>(C11 fu).at H (a0,a1,a2) r h⟩
structure K13 (fu:Nat) (cp:CallP):Prop where
 ap: ∀ {a0:T_Tensor} {a1:T_Tensor} {r},ref05_Same fu a0 a1=some r->cp 13 [.agg (c_T_Tensor a0),.agg (c_T_Tensor a1)]=some (.v (.bool r))
noncomputable def C13(fu:Nat):Cm Tryz.prog (T_Tensor×T_Tensor) Bool:=⟨13,λt=>[.agg (c_T_Tensor t.1),.agg (c_T_Tensor t.2)],λt=>ref05_Same fu t.1 t.2,e13,λt b h=>ok13 fu t.1 t.2 b h,Zi⟩
theorem u13{fu:Nat}{cp:CallP}(H:Hit cp (C13 fu).ct):K13 fu cp:=⟨λ {a0 a1 r} h=>(C13 fu).at H (a0,a1) r h⟩
set_option maxHeartbeats 20000000 in
theorem w5(cp:CallP)(fu:Nat)(x1:Int)(x2:T_Tensor)(x3:T_Tensor)(H1:cp 9 []=some (.v (.bool true)))(H2:K11 fu cp)(H3:K13 fu cp):J (go Tryz.prog noCs cp noI 0 [] d5 fu (fin Tryz.prog [.tmp 6] [4]) (bodyOf Tryz.f5) (initE 0 [.v (.int .i64 x1),.agg (c_T_Tensor x2),.agg (c_T_Tensor x3)]) [] []) (law11_EwiseSwaps fu x1 x2 x3) e5:=by
 unfold law11_EwiseSwaps e5
 have da:=d5_at
 conv=>arg 1;simp only[bodyOf,Tryz.f5]
 have z0:=d5_at
 have z1:= @aop_callC
 have z2:= @aq_callC
 exact Wk
theorem ok5(fu:Nat)(x1:Int)(x2:T_Tensor)(x3:T_Tensor)(r)(h:law11_EwiseSwaps fu x1 x2 x3=some r):PureOK Tryz.prog 5 [.v (.int .i64 x1),.agg (c_T_Tensor x2),.agg (c_T_Tensor x3)] (e5 r):=pureT mixed [C9.ct,(C11 fu).ct,(C13 fu).ct] (ids:=[9,11,13]) rfl (by decide) i5 (C:=noCs) (ci:=λcp=>noI) (λcp ok=>noI_ok) (λcp H=>w5 cp fu x1 x2 x3 (C9.at H.1 () true rfl) (u11 H.2.1) (u13 H.2.2.1)) h
end Go.Av
