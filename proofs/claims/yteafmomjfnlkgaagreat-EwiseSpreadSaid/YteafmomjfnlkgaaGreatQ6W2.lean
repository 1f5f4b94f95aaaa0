/- The walks of the plain functions, part 2. Made by a program of mine. Conditions: none. -/
import Derived.Test.YteafmomjfnlkgaaGreatQ6W1
set_option linter.unusedVariables false
set_option linter.unusedSimpArgs false
set_option linter.defProp false
set_option maxRecDepth 20000
set_option maxHeartbeats 20000000
open Go Go.Proofs
open Tryz (prog)
namespace Go.Av
open Aw (d14 d22 d26 d49 d50 d51 d52 d53 d54 d55 d66 d102 d103 d104 d105 d106 d107 d108 d109 d110 d111 d112 d113 d114 d115 d124 d140 d151 d172 d174 d175 d176 d177 d178 d179 d189 d190 d191 d192 d193 d194 d195 d268 d269 d270 d276 d277 d351)
def d212:TD:=[(0,[4]),(0,[]),(0,[0,1,5,6,7,8])]
def d212_at:=by have h:=tabL d212.eq_1;simp only[AllAt,Nat.zero_add,Nat.reduceAdd]at h;exact h
theorem i212:finfo prog 212 d212=some ⟨bodyOf Tryz.f212,[.tmp 4],[23]⟩:=fA Tryz.func212
def e212:Int->AV:=λr=> .v (.int .u32 r)
structure K197 (fu:Nat) (cp:CallP):Prop where
 ap: ∀ {a0:Int} {r},soft_Neg fu a0=some r->cp 197 [.v (.int .u32 a0)]=some (.v (.int .u32 r))
noncomputable def C197(fu:Nat):Cm prog Int Int:=⟨197,λt=>[.v (.int .u32 t)],λt=>soft_Neg fu t,e197,λt b h=>ok197 fu t b h,Zi⟩
theorem u197{fu:Nat}{cp:CallP}(H:Hit cp (C197 fu).ct):K197 fu cp:=⟨λ {a0 r} h=>(C197 fu).at H a0 r h⟩
theorem w212(cp:CallP)(fu:Nat)(x1:Int)(x2:Int)(H1:K197 fu cp)(H2:K308 fu cp):J (go prog noC cp noI 0 [] d212 fu (fin prog [.tmp 4] [23]) (bodyOf Tryz.f212) (initE 0 [.v (.int .u32 x1),.v (.int .u32 x2)]) [] []) (soft_Sub fu x1 x2) e212:=by
 unfold soft_Sub e212
 have da:=d212_at
 conv=>arg 1;simp only[bodyOf,Tryz.f212]
 have z0:=d212_at
 exact Wk
theorem ok212(fu:Nat)(x1:Int)(x2:Int)(r)(h:soft_Sub fu x1 x2=some r):PureOK prog 212 [.v (.int .u32 x1),.v (.int .u32 x2)] (e212 r):=pureT mixed [(C197 fu).ct,(C308 fu).ct] (ids:=[197,308]) rfl (by decide) i212 (C:=noC) (ci:=λcp=>noI) (λcp ok=>noI_ok) (λcp H=>w212 cp fu x1 x2 (u197 H.1) (u308 H.2.1)) h
def d307:TD:=[(0,[6]),(0,[]),(0,[1,2,10,11,12,13]),(0,[]),(0,[14,15,16,17,18]),(0,[]),(0,[20,21,22,23,24,25,26,27,28,29,30,31,32,33,34,35,36,37,38,39,40,41,42,43,44,45,46,47,48,49,50,51,52,53]),(0,[]),(0,[]),(0,[]),(0,[55,56,57,58,59,60]),(0,[]),(0,[61,62,63]),(0,[]),(0,[0,7,8,9,64,65,66,67,68,69,70,71,72,73,74,75,76])]
def d307_at:=by have h:=tabL d307.eq_1;simp only[AllAt,Nat.zero_add,Nat.reduceAdd]at h;exact h
theorem i307:finfo prog 307 d307=some ⟨bodyOf Tryz.f307,[.tmp 6],[23]⟩:=fA Tryz.func307
def e307:Int->AV:=λr=> .v (.int .u32 r)
def soft_MulBy.j1:LJ 1 14 Unit Unit:=⟨λr t e=>[(0,er e 0),(7,er e 7),(8,er e 8),(9,er e 9)],λr t h=>[((0,7,0),bs (bs (hr h (0,7,0)) 1 (.v (.bool false))) 2 (.v (.bool false))),((0,8,0),bs (bs (hr h (0,8,0)) 1 (.v (.bool false))) 2 (.v (.bool false)))]⟩
open soft_MulBy in
theorem w307(cp:CallP)(fu:Nat)(x1:Int)(x2:Int)(x3:Int)(H1:K363 fu cp)(H2:K364 fu cp)(H3:K313 fu cp):J (go prog noC cp noI 0 [] d307 fu (fin prog [.tmp 6] [23]) (bodyOf Tryz.f307) (initE 0 [.v (.int .i64 x1),.v (.int .u32 x2),.v (.int .u32 x3)]) [] []) (soft_MulBy fu x1 x2 x3) e307:=by
 unfold soft_MulBy e307
 have da:=d307_at
 conv=>arg 1;simp only[bodyOf,Tryz.f307]
 have z0:=d307_at
 exact Wk
theorem ok307(fu:Nat)(x1:Int)(x2:Int)(x3:Int)(r)(h:soft_MulBy fu x1 x2 x3=some r):PureOK prog 307 [.v (.int .i64 x1),.v (.int .u32 x2),.v (.int .u32 x3)] (e307 r):=pureT mixed [(C363 fu).ct,(C364 fu).ct,(C313 fu).ct] (ids:=[363,364,313]) rfl (by decide) i307 (C:=noC) (ci:=λcp=>noI) (λcp ok=>noI_ok) (λcp H=>w307 cp fu x1 x2 x3 (u363 H.1) (u364 H.2.1) (u313 H.2.2.1)) h
def d209:TD:=[(0,[4]),(0,[]),(0,[0,1,5,6,7])]
def d209_at:=by have h:=tabL d209.eq_1;simp only[AllAt,Nat.zero_add,Nat.reduceAdd]at h;exact h
theorem i209:finfo prog 209 d209=some ⟨bodyOf Tryz.f209,[.tmp 4],[23]⟩:=fA Tryz.func209
def e209:Int->AV:=λr=> .v (.int .u32 r)
structure K307 (fu:Nat) (cp:CallP):Prop where
 ap: ∀ {a0:Int} {a1:Int} {a2:Int} {r},soft_MulBy fu a0 a1 a2=some r->cp 307 [.v (.int .i64 a0),.v (.int .u32 a1),.v (.int .u32 a2)]=some (.v (.int .u32 r))
noncomputable def C307(fu:Nat):Cm prog (Int×Int×Int) Int:=⟨307,λt=>[.v (.int .i64 t.1),.v (.int .u32 t.2.1),.v (.int .u32 t.2.2)],λt=>soft_MulBy fu t.1 t.2.1 t.2.2,e307,λt b h=>ok307 fu t.1 t.2.1 t.2.2 b h,Zi⟩
theorem u307{fu:Nat}{cp:CallP}(H:Hit cp (C307 fu).ct):K307 fu cp:=⟨λ {a0 a1 a2 r} h=>(C307 fu).at H (a0,a1,a2) r h⟩
theorem w209(cp:CallP)(fu:Nat)(x1:Int)(x2:Int)(H1:K307 fu cp):J (go prog noC cp noI 0 [] d209 fu (fin prog [.tmp 4] [23]) (bodyOf Tryz.f209) (initE 0 [.v (.int .u32 x1),.v (.int .u32 x2)]) [] []) (soft_Mul fu x1 x2) e209:=by
 unfold soft_Mul e209
 have da:=d209_at
 conv=>arg 1;simp only[bodyOf,Tryz.f209]
 have z0:=d209_at
 exact Wk
theorem ok209(fu:Nat)(x1:Int)(x2:Int)(r)(h:soft_Mul fu x1 x2=some r):PureOK prog 209 [.v (.int .u32 x1),.v (.int .u32 x2)] (e209 r):=pureT mixed [(C307 fu).ct] (ids:=[307]) rfl (by decide) i209 (C:=noC) (ci:=λcp=>noI) (λcp ok=>noI_ok) (λcp H=>w209 cp fu x1 x2 (u307 H.1)) h
def d365:TD:=[(0,[0]),(0,[]),(0,[4,5,6,7]),(0,[]),(0,[8,9,10,11,12]),(0,[]),(0,[3,13,14,15,16,17]),(0,[]),(0,[1,18])]
def d365_at:=by have h:=tabL d365.eq_1;simp only[AllAt,Nat.zero_add,Nat.reduceAdd]at h;exact h
theorem i365:finfo prog 365 d365=some ⟨bodyOf Tryz.f365,[.cell 2 236],[236]⟩:=fA Tryz.func365
def e365:T_soft_number->AV:=λr=> .agg [.v (.bool r.fneg),.v (.bool r.fnan),.v (.bool r.finf),.v (.int .i64 r.fexp),.v (.int .u64 r.fsig)]
theorem w365(cp:CallP)(fu:Nat)(x1:T_soft_number)(H1:K361 fu cp):J (go prog noC cp noI 0 [] d365 fu (fin prog [.cell 2 236] [236]) (bodyOf Tryz.f365) (initE 0 [.agg (c_T_soft_number x1)]) [] []) (soft_number_full fu x1) e365:=by
 unfold soft_number_full e365
 have da:=d365_at
 conv=>arg 1;simp only[bodyOf,Tryz.f365]
 have z0:=d365_at
 exact Wk
theorem ok365(fu:Nat)(x1:T_soft_number)(r)(h:soft_number_full fu x1=some r):PureOK prog 365 [.agg (c_T_soft_number x1)] (e365 r):=pureT mixed [(C361 fu).ct] (ids:=[361]) rfl (by decide) i365 (C:=noC) (ci:=λcp=>noI) (λcp ok=>noI_ok) (λcp H=>w365 cp fu x1 (u361 H.1)) h
def d305:TD:=[(0,[6]),(0,[10,11]),(0,[1,2,14,15,16,17]),(0,[]),(0,[18,19,20,21,22]),(0,[]),(18,[23,24,25,26,27,28,29,30,31,32,33,34,35,36,37,38]),(0,[]),(0,[40,41,42,43,44,45,46,47,48,49,50,51,52,53,54,55,56,57,58,59]),(0,[]),(0,[]),(0,[]),(0,[61,62,63,64,65]),(0,[]),(0,[66,67,68]),(0,[]),(0,[70,71,72,73,74]),(0,[]),(0,[75,76]),(0,[]),(4,[77,78,79,80]),(0,[]),(14,[81,82,83,84,85,86,87,88,89,90,91,92]),(0,[]),(0,[0,7,8,9,12,13,93,94,95,96,97,98,99,100,101,102,103,104])]
def d305_at:=by have h:=tabL d305.eq_1;simp only[AllAt,Nat.zero_add,Nat.reduceAdd]at h;exact h
theorem i305:finfo prog 305 d305=some ⟨bodyOf Tryz.f305,[.tmp 6],[23]⟩:=fA Tryz.func305
def e305:Int->AV:=λr=> .v (.int .u32 r)
structure K365 (fu:Nat) (cp:CallP):Prop where
 ap: ∀ {a0:T_soft_number} {r},soft_number_full fu a0=some r->cp 365 [.agg (c_T_soft_number a0)]=some (.agg [.v (.bool r.fneg),.v (.bool r.fnan),.v (.bool r.finf),.v (.int .i64 r.fexp),.v (.int .u64 r.fsig)])
noncomputable def C365(fu:Nat):Cm prog T_soft_number T_soft_number:=⟨365,λt=>[.agg (c_T_soft_number t)],λt=>soft_number_full fu t,e365,λt b h=>ok365 fu t b h,Zi⟩
theorem u365{fu:Nat}{cp:CallP}(H:Hit cp (C365 fu).ct):K365 fu cp:=⟨λ {a0 r} h=>(C365 fu).at H a0 r h⟩
def soft_DivBy.j2:LJ 2 20 Unit Unit:=⟨λr t e=>[(0,er e 0),(7,er e 7),(8,er e 8),(9,er e 9)],λr t h=>[((0,7,0),bs (bs (hr h (0,7,0)) 1 (.v (.bool false))) 2 (.v (.bool false))),((0,8,0),bs (bs (hr h (0,8,0)) 1 (.v (.bool false))) 2 (.v (.bool false)))]⟩
def soft_DivBy.j1:LJ 1 1 Unit (Bool×Bool×Bool×Bool):=⟨λr t e=>[(0,er e 0),(7,er e 7),(8,er e 8),(9,er e 9),(10,.v (.bool t.2.2.1)),(11,.v (.bool t.2.2.2))],λr t h=>[((0,7,0),bs (hr h (0,7,0)) 2 (.v (.bool t.1))),((0,8,0),bs (hr h (0,8,0)) 2 (.v (.bool t.2.1)))]⟩
open soft_DivBy in
theorem w305(cp:CallP)(fu:Nat)(x1:Int)(x2:Int)(x3:Int)(H1:K363 fu cp)(H2:K364 fu cp)(H3:K365 fu cp)(H4:K313 fu cp):J (go prog noC cp noI 0 [] d305 fu (fin prog [.tmp 6] [23]) (bodyOf Tryz.f305) (initE 0 [.v (.int .i64 x1),.v (.int .u32 x2),.v (.int .u32 x3)]) [] []) (soft_DivBy fu x1 x2 x3) e305:=by
 unfold soft_DivBy e305
 have da:=d305_at
 conv=>arg 1;simp only[bodyOf,Tryz.f305]
 have z0:=d305_at
 exact Wk
theorem ok305(fu:Nat)(x1:Int)(x2:Int)(x3:Int)(r)(h:soft_DivBy fu x1 x2 x3=some r):PureOK prog 305 [.v (.int .i64 x1),.v (.int .u32 x2),.v (.int .u32 x3)] (e305 r):=pureT mixed [(C363 fu).ct,(C364 fu).ct,(C365 fu).ct,(C313 fu).ct] (ids:=[363,364,365,313]) rfl (by decide) i305 (C:=noC) (ci:=λcp=>noI) (λcp ok=>noI_ok) (λcp H=>w305 cp fu x1 x2 x3 (u363 H.1) (u364 H.2.1) (u365 H.2.2.1) (u313 H.2.2.2.1)) h
def d204:TD:=[(0,[4]),(0,[]),(0,[0,1,5,6,7])]
def d204_at:=by have h:=tabL d204.eq_1;simp only[AllAt,Nat.zero_add,Nat.reduceAdd]at h;exact h
theorem i204:finfo prog 204 d204=some ⟨bodyOf Tryz.f204,[.tmp 4],[23]⟩:=fA Tryz.func204
def e204:Int->AV:=λr=> .v (.int .u32 r)
structure K305 (fu:Nat) (cp:CallP):Prop where
 ap: ∀ {a0:Int} {a1:Int} {a2:Int} {r},soft_DivBy fu a0 a1 a2=some r->cp 305 [.v (.int .i64 a0),.v (.int .u32 a1),.v (.int .u32 a2)]=some (.v (.int .u32 r))
noncomputable def C305(fu:Nat):Cm prog (Int×Int×Int) Int:=⟨305,λt=>[.v (.int .i64 t.1),.v (.int .u32 t.2.1),.v (.int .u32 t.2.2)],λt=>soft_DivBy fu t.1 t.2.1 t.2.2,e305,λt b h=>ok305 fu t.1 t.2.1 t.2.2 b h,Zi⟩
theorem u305{fu:Nat}{cp:CallP}(H:Hit cp (C305 fu).ct):K305 fu cp:=⟨λ {a0 a1 a2 r} h=>(C305 fu).at H (a0,a1,a2) r h⟩
theorem w204(cp:CallP)(fu:Nat)(x1:Int)(x2:Int)(H1:K305 fu cp):J (go prog noC cp noI 0 [] d204 fu (fin prog [.tmp 4] [23]) (bodyOf Tryz.f204) (initE 0 [.v (.int .u32 x1),.v (.int .u32 x2)]) [] []) (soft_Div fu x1 x2) e204:=by
 unfold soft_Div e204
 have da:=d204_at
 conv=>arg 1;simp only[bodyOf,Tryz.f204]
 have z0:=d204_at
 exact Wk
theorem ok204(fu:Nat)(x1:Int)(x2:Int)(r)(h:soft_Div fu x1 x2=some r):PureOK prog 204 [.v (.int .u32 x1),.v (.int .u32 x2)] (e204 r):=pureT mixed [(C305 fu).ct] (ids:=[305]) rfl (by decide) i204 (C:=noC) (ci:=λcp=>noI) (λcp ok=>noI_ok) (λcp H=>w204 cp fu x1 x2 (u305 H.1)) h
def d126:TD:=[(0,[2]),(0,[]),(0,[0,3,4,5])]
def d126_at:=by have h:=tabL d126.eq_1;simp only[AllAt,Nat.zero_add,Nat.reduceAdd]at h;exact h
theorem i126:finfo prog 126 d126=some ⟨bodyOf Tryz.f126,[.tmp 2],[4]⟩:=fA Tryz.func126
def e126:Bool->AV:=λr=> .v (.bool r)
theorem w126(cp:CallP)(fu:Nat)(x1:Int)(H1:K140 fu cp):J (go prog noC cp noI 0 [] d126 fu (fin prog [.tmp 2] [4]) (bodyOf Tryz.f126) (initE 0 [.v (.int .u32 x1)]) [] []) (soft_Inf fu x1) e126:=by
 unfold soft_Inf e126
 have da:=d126_at
 conv=>arg 1;simp only[bodyOf,Tryz.f126]
 have z0:=d126_at
 exact Wk
theorem ok126(fu:Nat)(x1:Int)(r)(h:soft_Inf fu x1=some r):PureOK prog 126 [.v (.int .u32 x1)] (e126 r):=pureT mixed [(C140 fu).ct] (ids:=[140]) rfl (by decide) i126 (C:=noC) (ci:=λcp=>noI) (λcp ok=>noI_ok) (λcp H=>w126 cp fu x1 (u140 H.1)) h
def d312:TD:=[(0,[2,3]),(0,[]),(0,[6,7,8,9]),(0,[]),(0,[0,10,11,12]),(0,[]),(0,[13]),(0,[]),(0,[15]),(0,[]),(0,[4,5,16,17,18])]
def d312_at:=by have h:=tabL d312.eq_1;simp only[AllAt,Nat.zero_add,Nat.reduceAdd]at h;exact h
theorem i312:finfo prog 312 d312=some ⟨bodyOf Tryz.f312,[.tmp 2,.tmp 3],[172,3]⟩:=fA Tryz.func312
def e312:(Int×Int)->AV:=λr=> .tuple [.v (.int .u64 r.1),.v (.int .i64 r.2)]
theorem w312(cp:CallP)(fu:Nat)(x1:Int):J (go prog noC cp noI 0 [] d312 fu (fin prog [.tmp 2,.tmp 3] [172,3]) (bodyOf Tryz.f312) (initE 0 [.v (.int .u32 x1)]) [] []) (ewise_parts fu x1) e312:=by
 unfold ewise_parts e312
 have da:=d312_at
 conv=>arg 1;simp only[bodyOf,Tryz.f312]
 have z0:=d312_at
 exact Wk
theorem ok312(fu:Nat)(x1:Int)(r)(h:ewise_parts fu x1=some r):PureOK prog 312 [.v (.int .u32 x1)] (e312 r):=pureT mixed [] (ids:=[]) rfl (by decide) i312 (C:=noC) (ci:=λcp=>noI) (λcp ok=>noI_ok) (λcp H=>w312 cp fu x1) h
def d217:TD:=[(0,[4]),(0,[]),(0,[10,11,12,13,14,15,16,17,18,19,20,21,22,23,24]),(0,[6,7]),(0,[]),(0,[]),(0,[26,27]),(0,[]),(0,[28]),(0,[]),(0,[29,30,31,32,33]),(0,[]),(0,[1,34,35,36,37,38]),(0,[]),(0,[39,40]),(0,[]),(0,[42,43,44]),(0,[]),(0,[46]),(0,[]),(0,[47,48,49,50,51]),(0,[]),(0,[52]),(0,[]),(0,[53,54,55]),(0,[]),(0,[56,57]),(0,[]),(0,[59,60]),(0,[]),(0,[61,62,63,64]),(0,[]),(0,[0,5,8,65,66,67,68,69,70,71])]
def d217_at:=by have h:=tabL d217.eq_1;simp only[AllAt,Nat.zero_add,Nat.reduceAdd]at h;exact h
theorem i217:finfo prog 217 d217=some ⟨bodyOf Tryz.f217,[.tmp 4],[23]⟩:=fA Tryz.func217
def e217:Int->AV:=λr=> .v (.int .u32 r)
structure K126 (fu:Nat) (cp:CallP):Prop where
 ap: ∀ {a0:Int} {r},soft_Inf fu a0=some r->cp 126 [.v (.int .u32 a0)]=some (.v (.bool r))
noncomputable def C126(fu:Nat):Cm prog Int Bool:=⟨126,λt=>[.v (.int .u32 t)],λt=>soft_Inf fu t,e126,λt b h=>ok126 fu t b h,Zi⟩
theorem u126{fu:Nat}{cp:CallP}(H:Hit cp (C126 fu).ct):K126 fu cp:=⟨λ {a0 r} h=>(C126 fu).at H a0 r h⟩
structure K312 (fu:Nat) (cp:CallP):Prop where
 ap: ∀ {a0:Int} {r},ewise_parts fu a0=some r->cp 312 [.v (.int .u32 a0)]=some (.tuple [.v (.int .u64 r.1),.v (.int .i64 r.2)])
noncomputable def C312(fu:Nat):Cm prog Int (Int×Int):=⟨312,λt=>[.v (.int .u32 t)],λt=>ewise_parts fu t,e312,λt b h=>ok312 fu t b h,Zi⟩
theorem u312{fu:Nat}{cp:CallP}(H:Hit cp (C312 fu).ct):K312 fu cp:=⟨λ {a0 r} h=>(C312 fu).at H a0 r h⟩
def ewise_rest.m1:LJ 1 26 Unit (Int×Int):=⟨λr s e=>[(0,er e 0),(5,.v (.int .u64 s.1)),(6,.v (.int .i64 s.2)),(7,er e 7),(8,er e 8)],λr s h=>[]⟩
def ewise_rest.j3:LJ 3 32 Unit Int:=⟨λr t e=>[(0,er e 0),(5,.v (.int .u64 t)),(8,er e 8)],λr t h=>[]⟩
def ewise_rest.j2:LJ 2 24 Unit (Int×Int):=⟨λr t e=>[(0,er e 0),(5,er e 5),(6,er e 6),(7,.v (.int .u64 t.1)),(8,.v (.int .i64 t.2))],λr t h=>[]⟩
def ewise_rest.j1:LJ 1 10 Unit Unit:=⟨λr t e=>[(0,er e 0),(1,er e 1)],λr t h=>[]⟩
open ewise_rest in
theorem w217(cp:CallP)(fu:Nat)(x1:Int)(x2:Int)(H1:K124 fu cp)(H2:K126 fu cp)(H3:K140 fu cp)(H4:K312 fu cp)(H5:K313 fu cp):J (go prog noC cp noI 0 [] d217 fu (fin prog [.tmp 4] [23]) (bodyOf Tryz.f217) (initE 0 [.v (.int .u32 x1),.v (.int .u32 x2)]) [] []) (ewise_rest fu x1 x2) e217:=by
 unfold ewise_rest e217
 have da:=d217_at
 conv=>arg 1;simp only[bodyOf,Tryz.f217]
 have z0:=d217_at
 exact Wk
theorem ok217(fu:Nat)(x1:Int)(x2:Int)(r)(h:ewise_rest fu x1 x2=some r):PureOK prog 217 [.v (.int .u32 x1),.v (.int .u32 x2)] (e217 r):=pureT mixed [(C124 fu).ct,(C126 fu).ct,(C140 fu).ct,(C312 fu).ct,(C313 fu).ct] (ids:=[124,126,140,312,313]) rfl (by decide) i217 (C:=noC) (ci:=λcp=>noI) (λcp ok=>noI_ok) (λcp H=>w217 cp fu x1 x2 (u124 H.1) (u126 H.2.1) (u140 H.2.2.1) (u312 H.2.2.2.1) (u313 H.2.2.2.2.1)) h
def d232:TD:=[(0,[2]),(0,[]),(0,[4,5,6]),(0,[]),(0,[0,7,8]),(0,[]),(0,[10,11]),(0,[]),(0,[3,12])]
def d232_at:=by have h:=tabL d232.eq_1;simp only[AllAt,Nat.zero_add,Nat.reduceAdd]at h;exact h
theorem i232:finfo prog 232 d232=some ⟨bodyOf Tryz.f232,[.tmp 2],[3]⟩:=fA Tryz.func232
def e232:Int->AV:=λr=> .v (.int .i64 r)
theorem w232(cp:CallP)(fu:Nat)(x1:Int)(H1:K140 fu cp):J (go prog noC cp noI 0 [] d232 fu (fin prog [.tmp 2] [3]) (bodyOf Tryz.f232) (initE 0 [.v (.int .u32 x1)]) [] []) (soft_place fu x1) e232:=by
 unfold soft_place e232
 have da:=d232_at
 conv=>arg 1;simp only[bodyOf,Tryz.f232]
 have z0:=d232_at
 exact Wk
theorem ok232(fu:Nat)(x1:Int)(r)(h:soft_place fu x1=some r):PureOK prog 232 [.v (.int .u32 x1)] (e232 r):=pureT mixed [(C140 fu).ct] (ids:=[140]) rfl (by decide) i232 (C:=noC) (ci:=λcp=>noI) (λcp ok=>noI_ok) (λcp H=>w232 cp fu x1 (u140 H.1)) h
def d130:TD:=[(0,[4]),(0,[]),(0,[0,1,5,6,7,8,9,10,11,12,13,14,15,16,17,18,19])]
def d130_at:=by have h:=tabL d130.eq_1;simp only[AllAt,Nat.zero_add,Nat.reduceAdd]at h;exact h
theorem i130:finfo prog 130 d130=some ⟨bodyOf Tryz.f130,[.tmp 4],[4]⟩:=fA Tryz.func130
def e130:Bool->AV:=λr=> .v (.bool r)
structure K232 (fu:Nat) (cp:CallP):Prop where
 ap: ∀ {a0:Int} {r},soft_place fu a0=some r->cp 232 [.v (.int .u32 a0)]=some (.v (.int .i64 r))
noncomputable def C232(fu:Nat):Cm prog Int Int:=⟨232,λt=>[.v (.int .u32 t)],λt=>soft_place fu t,e232,λt b h=>ok232 fu t b h,Zi⟩
theorem u232{fu:Nat}{cp:CallP}(H:Hit cp (C232 fu).ct):K232 fu cp:=⟨λ {a0 r} h=>(C232 fu).at H a0 r h⟩
theorem w130(cp:CallP)(fu:Nat)(x1:Int)(x2:Int)(H1:K124 fu cp)(H2:K232 fu cp):J (go prog noC cp noI 0 [] d130 fu (fin prog [.tmp 4] [4]) (bodyOf Tryz.f130) (initE 0 [.v (.int .u32 x1),.v (.int .u32 x2)]) [] []) (soft_Less fu x1 x2) e130:=by
 unfold soft_Less e130
 have da:=d130_at
 conv=>arg 1;simp only[bodyOf,Tryz.f130]
 have z0:=d130_at
 exact Wk
theorem ok130(fu:Nat)(x1:Int)(x2:Int)(r)(h:soft_Less fu x1 x2=some r):PureOK prog 130 [.v (.int .u32 x1),.v (.int .u32 x2)] (e130 r):=pureT mixed [(C124 fu).ct,(C232 fu).ct] (ids:=[124,232]) rfl (by decide) i130 (C:=noC) (ci:=λcp=>noI) (λcp ok=>noI_ok) (λcp H=>w130 cp fu x1 x2 (u124 H.1) (u232 H.2.1)) h
def d233:TD:=[(0,[]),(0,[]),(0,[5,6,7,8]),(0,[]),(0,[9,10,11]),(0,[]),(0,[12]),(0,[]),(0,[14,15,16,17,18]),(0,[]),(0,[0,3,4,19,20,21,22,23,24,25,26])]
def d233_at:=by have h:=tabL d233.eq_1;simp only[AllAt,Nat.zero_add,Nat.reduceAdd]at h;exact h
theorem i233:finfo prog 233 d233=some ⟨bodyOf Tryz.f233,[.cell 2 174],[174]⟩:=fA Tryz.func233
def e233:T_round_number->AV:=λr=> .agg [.v (.bool r.fneg),.v (.int .i64 r.fexp),.v (.int .u64 r.fsig)]
theorem w233(cp:CallP)(fu:Nat)(x1:Int):J (go prog noC cp noI 0 [] d233 fu (fin prog [.cell 2 174] [174]) (bodyOf Tryz.f233) (initE 0 [.v (.int .u32 x1)]) [] []) (round_open fu x1) e233:=by
 unfold round_open e233
 have da:=d233_at
 conv=>arg 1;simp only[bodyOf,Tryz.f233]
 have z0:=d233_at
 exact Wk
theorem ok233(fu:Nat)(x1:Int)(r)(h:round_open fu x1=some r):PureOK prog 233 [.v (.int .u32 x1)] (e233 r):=pureT mixed [] (ids:=[]) rfl (by decide) i233 (C:=noC) (ci:=λcp=>noI) (λcp ok=>noI_ok) (λcp H=>w233 cp fu x1) h
def d303:TD:=[(0,[0,6]),(0,[]),(0,[1,2,7,8,9,10,11,12,13,14,15])]
def d303_at:=by have h:=tabL d303.eq_1;simp only[AllAt,Nat.zero_add,Nat.reduceAdd]at h;exact h
theorem i303:finfo prog 303 d303=some ⟨bodyOf Tryz.f303,[.tmp 6],[4]⟩:=fA Tryz.func303
def e303:Bool->AV:=λr=> .v (.bool r)
theorem w303(cp:CallP)(fu:Nat)(x1:Bool)(x2:Int)(x3:Bool):J (go prog noC cp noI 0 [] d303 fu (fin prog [.tmp 6] [4]) (bodyOf Tryz.f303) (initE 0 [.v (.bool x1),.v (.int .i64 x2),.v (.bool x3)]) [] []) (round_Even_1 fu x1 x2 x3) e303:=by
 unfold round_Even_1 e303
 have da:=d303_at
 conv=>arg 1;simp only[bodyOf,Tryz.f303]
 have z0:=d303_at
 exact Wk
theorem ok303(fu:Nat)(x1:Bool)(x2:Int)(x3:Bool)(r)(h:round_Even_1 fu x1 x2 x3=some r):PureOK prog 303 [.v (.bool x1),.v (.int .i64 x2),.v (.bool x3)] (e303 r):=pureT mixed [] (ids:=[]) rfl (by decide) i303 (C:=noC) (ci:=λcp=>noI) (λcp ok=>noI_ok) (λcp H=>w303 cp fu x1 x2 x3) h
def d300:TD:=[(0,[4]),(0,[9]),(0,[10]),(0,[]),(0,[]),(0,[]),(0,[12,13]),(0,[]),(0,[14,15,16,17,18,19,20,21,22,23,24]),(0,[]),(0,[26]),(0,[]),(0,[27,28,29,30,31,32]),(0,[]),(9,[33,34,35,36,37,38,39,40]),(0,[]),(0,[41]),(0,[]),(0,[43]),(0,[]),(0,[0]),(0,[]),(0,[44,45]),(0,[]),(0,[47,48,49,50,51]),(0,[]),(0,[53,54,55]),(0,[]),(0,[]),(0,[]),(0,[57,58,59]),(0,[]),(0,[]),(0,[]),(0,[1,7,8,60,61,62,63,64,65,66]),(0,[]),(0,[68,69]),(0,[]),(0,[5,6,70,71,72,73])]
def d300_at:=by have h:=tabL d300.eq_1;simp only[AllAt,Nat.zero_add,Nat.reduceAdd]at h;exact h
noncomputable def b300:Code:=bodyOf Tryz.f300
theorem go_b300{C:Cfg}{cp:CallP}{ci:CallI}{lvl:Nat}{prot:List Id}{D:TD}{n:Nat}{K:KK}{e:Env}{h:Heap}{fs:List Fr}:go prog C cp ci lvl prot D n K b300 e h fs=go prog C cp ci lvl prot D n K (bodyOf Tryz.f300) e h fs:=rfl
theorem i300:finfo prog 300 d300=some ⟨b300,[.tmp 4],[23]⟩:=fA Tryz.func300
def d201:TD:=[(0,[2]),(0,[]),(0,[0,3,4])]
def d201_at:=by have h:=tabL d201.eq_1;simp only[AllAt,Nat.zero_add,Nat.reduceAdd]at h;exact h
theorem i201:finfo prog 201 d201=some ⟨bodyOf Tryz.f201,[.tmp 2],[23]⟩:=fA Tryz.func201
def e201:Int->AV:=λr=> .v (.int .u32 r)
structure K233 (fu:Nat) (cp:CallP):Prop where
 ap: ∀ {a0:Int} {r},round_open fu a0=some r->cp 233 [.v (.int .u32 a0)]=some (.agg [.v (.bool r.fneg),.v (.int .i64 r.fexp),.v (.int .u64 r.fsig)])
noncomputable def C233(fu:Nat):Cm prog Int T_round_number:=⟨233,λt=>[.v (.int .u32 t)],λt=>round_open fu t,e233,λt b h=>ok233 fu t b h,Zi⟩
theorem u233{fu:Nat}{cp:CallP}(H:Hit cp (C233 fu).ct):K233 fu cp:=⟨λ {a0 r} h=>(C233 fu).at H a0 r h⟩
structure K303 (fu:Nat) (cp:CallP):Prop where
 ap: ∀ {a0:Bool} {a1:Int} {a2:Bool} {r},round_Even_1 fu a0 a1 a2=some r->cp 303 [.v (.bool a0),.v (.int .i64 a1),.v (.bool a2)]=some (.v (.bool r))
noncomputable def C303(fu:Nat):Cm prog (Bool×Int×Bool) Bool:=⟨303,λt=>[.v (.bool t.1),.v (.int .i64 t.2.1),.v (.bool t.2.2)],λt=>round_Even_1 fu t.1 t.2.1 t.2.2,e303,λt b h=>ok303 fu t.1 t.2.1 t.2.2 b h,Zi⟩
theorem u303{fu:Nat}{cp:CallP}(H:Hit cp (C303 fu).ct):K303 fu cp:=⟨λ {a0 a1 a2 r} h=>(C303 fu).at H (a0,a1,a2) r h⟩
def round_Even.j3:LJ 3 38 Unit Int:=⟨λr t e=>[(5,er e 5),(6,.v (.int .u64 t))],λr t h=>[((1,5,0),hr h (1,5,0))]⟩
def round_Even.j2:LJ 2 34 Unit Int:=⟨λr t e=>[(1,er e 1),(5,er e 5),(6,er e 6),(7,er e 7),(8,.v (.int .i64 t))],λr t h=>[((1,5,0),hr h (1,5,0))]⟩
def round_Even.j1:LJ 1 12 Unit Unit:=⟨λr t e=>[(0,er e 0),(1,er e 1),(5,er e 5)],λr t h=>[((1,5,0),hr h (1,5,0))]⟩
open round_Even in
theorem w201(cp:CallP)(fu:Nat)(x1:Int)(H1:K124 fu cp)(H2:K233 fu cp)(H3:K126 fu cp)(H4:K303 fu cp)(H5:K313 fu cp):J (go prog (inlC [300]) cp (ciE prog (inlC [300]) cp noI fu 300 d300 ⟨b300,[.tmp 4],[23]⟩ noI) 0 [] d201 fu (fin prog [.tmp 2] [23]) (bodyOf Tryz.f201) (initE 0 [.v (.int .u32 x1)]) [] []) (round_Even fu x1) e201:=by
 unfold round_Even e201
 have da:=d201_at
 conv=>arg 1;simp only[bodyOf,Tryz.f201]
 have z0:=d201_at
 have z1:=d300_at
 have z2:=Tryz.f300.eq_1
 have z3:= @go_b300
 have z4:=RI
 have z5:=RIk
 have z6:= @bodyOf.eq_1
 exact Wk
theorem ok201(fu:Nat)(x1:Int)(r)(h:round_Even fu x1=some r):PureOK prog 201 [.v (.int .u32 x1)] (e201 r):=pureT mixed [(C124 fu).ct,(C233 fu).ct,(C126 fu).ct,(C303 fu).ct,(C313 fu).ct] (ids:=[124,233,126,303,313]) rfl (by decide) i201 (C:=(inlC [300])) (ci:=λcp=>(ciE prog (inlC [300]) cp noI fu 300 d300 ⟨b300,[.tmp 4],[23]⟩ noI)) (λcp ok=>(ciE_ok mixed ok noI_ok i300 noI_ok)) (λcp H=>w201 cp fu x1 (u124 H.1) (u233 H.2.1) (u126 H.2.2.1) (u303 H.2.2.2.1) (u313 H.2.2.2.2.1)) h
def d128:TD:=[(0,[4]),(0,[]),(0,[0,1,5,6,7,8,9,10,11,12,13,14,15,16,17,18,19])]
def d128_at:=by have h:=tabL d128.eq_1;simp only[AllAt,Nat.zero_add,Nat.reduceAdd]at h;exact h
theorem i128:finfo prog 128 d128=some ⟨bodyOf Tryz.f128,[.tmp 4],[4]⟩:=fA Tryz.func128
def e128:Bool->AV:=λr=> .v (.bool r)
theorem w128(cp:CallP)(fu:Nat)(x1:Int)(x2:Int)(H1:K124 fu cp)(H2:K232 fu cp):J (go prog noC cp noI 0 [] d128 fu (fin prog [.tmp 4] [4]) (bodyOf Tryz.f128) (initE 0 [.v (.int .u32 x1),.v (.int .u32 x2)]) [] []) (soft_Equal fu x1 x2) e128:=by
 unfold soft_Equal e128
 have da:=d128_at
 conv=>arg 1;simp only[bodyOf,Tryz.f128]
 have z0:=d128_at
 exact Wk
theorem ok128(fu:Nat)(x1:Int)(x2:Int)(r)(h:soft_Equal fu x1 x2=some r):PureOK prog 128 [.v (.int .u32 x1),.v (.int .u32 x2)] (e128 r):=pureT mixed [(C124 fu).ct,(C232 fu).ct] (ids:=[124,232]) rfl (by decide) i128 (C:=noC) (ci:=λcp=>noI) (λcp ok=>noI_ok) (λcp H=>w128 cp fu x1 x2 (u124 H.1) (u232 H.2.1)) h
def d311:TD:=[(0,[4]),(0,[]),(0,[6]),(0,[]),(0,[]),(0,[]),(0,[8,9]),(0,[]),(0,[10,11,12,13,14,15]),(0,[]),(0,[17]),(0,[]),(0,[0,1,5,18,19,20,21,22,23,24,25,26,27,28])]
def d311_at:=by have h:=tabL d311.eq_1;simp only[AllAt,Nat.zero_add,Nat.reduceAdd]at h;exact h
theorem i311:finfo prog 311 d311=some ⟨bodyOf Tryz.f311,[.tmp 4],[23]⟩:=fA Tryz.func311
def e311:Int->AV:=λr=> .v (.int .u32 r)
def round_Scale.j1:LJ 1 12 Unit Unit:=⟨λr t e=>[(0,er e 0),(1,er e 1),(5,er e 5)],λr t h=>[((0,5,0),hr h (0,5,0))]⟩
open round_Scale in
theorem w311(cp:CallP)(fu:Nat)(x1:Int)(x2:Int)(H1:K124 fu cp)(H2:K233 fu cp)(H3:K126 fu cp)(H4:K313 fu cp):J (go prog noC cp noI 0 [] d311 fu (fin prog [.tmp 4] [23]) (bodyOf Tryz.f311) (initE 0 [.v (.int .u32 x1),.v (.int .i64 x2)]) [] []) (round_Scale fu x1 x2) e311:=by
 unfold round_Scale e311
 have da:=d311_at
 conv=>arg 1;simp only[bodyOf,Tryz.f311]
 have z0:=d311_at
 exact Wk
theorem ok311(fu:Nat)(x1:Int)(x2:Int)(r)(h:round_Scale fu x1 x2=some r):PureOK prog 311 [.v (.int .u32 x1),.v (.int .i64 x2)] (e311 r):=pureT mixed [(C124 fu).ct,(C233 fu).ct,(C126 fu).ct,(C313 fu).ct] (ids:=[124,233,126,313]) rfl (by decide) i311 (C:=noC) (ci:=λcp=>noI) (λcp ok=>noI_ok) (λcp H=>w311 cp fu x1 x2 (u124 H.1) (u233 H.2.1) (u126 H.2.2.1) (u313 H.2.2.2.1)) h
def d371:TD:=[(0,[2,3]),(0,[]),(0,[]),(0,[]),(0,[5,6]),(0,[]),(0,[8,9]),(0,[]),(0,[0,4,10,11,12,13,14,15,16,17,18])]
def d371_at:=by have h:=tabL d371.eq_1;simp only[AllAt,Nat.zero_add,Nat.reduceAdd]at h;exact h
theorem i371:finfo prog 371 d371=some ⟨bodyOf Tryz.f371,[.tmp 2,.tmp 3],[23,3]⟩:=fA Tryz.func371
def e371:(Int×Int)->AV:=λr=> .tuple [.v (.int .u32 r.1),.v (.int .i64 r.2)]
structure K311 (fu:Nat) (cp:CallP):Prop where
 ap: ∀ {a0:Int} {a1:Int} {r},round_Scale fu a0 a1=some r->cp 311 [.v (.int .u32 a0),.v (.int .i64 a1)]=some (.v (.int .u32 r))
noncomputable def C311(fu:Nat):Cm prog (Int×Int) Int:=⟨311,λt=>[.v (.int .u32 t.1),.v (.int .i64 t.2)],λt=>round_Scale fu t.1 t.2,e311,λt b h=>ok311 fu t.1 t.2 b h,Zi⟩
theorem u311{fu:Nat}{cp:CallP}(H:Hit cp (C311 fu).ct):K311 fu cp:=⟨λ {a0 a1 r} h=>(C311 fu).at H (a0,a1) r h⟩
def elem_parts.j1:LJ 1 8 Unit (Int×Int):=⟨λr t e=>[(0,.v (.int .u32 t.1)),(4,.v (.int .i64 t.2))],λr t h=>[]⟩
open elem_parts in
theorem w371(cp:CallP)(fu:Nat)(x1:Int)(H1:K311 fu cp):J (go prog noC cp noI 0 [] d371 fu (fin prog [.tmp 2,.tmp 3] [23,3]) (bodyOf Tryz.f371) (initE 0 [.v (.int .u32 x1)]) [] []) (elem_parts fu x1) e371:=by
 unfold elem_parts e371
 have da:=d371_at
 conv=>arg 1;simp only[bodyOf,Tryz.f371]
 have z0:=d371_at
 exact Wk
theorem ok371(fu:Nat)(x1:Int)(r)(h:elem_parts fu x1=some r):PureOK prog 371 [.v (.int .u32 x1)] (e371 r):=pureT mixed [(C311 fu).ct] (ids:=[311]) rfl (by decide) i371 (C:=noC) (ci:=λcp=>noI) (λcp ok=>noI_ok) (λcp H=>w371 cp fu x1 (u311 H.1)) h
def d392:TD:=[(0,[2]),(0,[]),(0,[0]),(0,[]),(0,[]),(0,[]),(0,[])]
def d392_at:=by have h:=tabL d392.eq_1;simp only[AllAt,Nat.zero_add,Nat.reduceAdd]at h;exact h
theorem i392:finfo prog 392 d392=some ⟨bodyOf Tryz.f392,[.tmp 2],[23]⟩:=fA Tryz.func392
def e392:Int->AV:=λr=> .v (.int .u32 r)
theorem w392(cp:CallP)(fu:Nat)(x1:Bool):J (go prog noC cp noI 0 [] d392 fu (fin prog [.tmp 2] [23]) (bodyOf Tryz.f392) (initE 0 [.v (.bool x1)]) [] []) (round_sign fu x1) e392:=by
 unfold round_sign e392
 have da:=d392_at
 conv=>arg 1;simp only[bodyOf,Tryz.f392]
 have z0:=d392_at
 exact Wk
theorem ok392(fu:Nat)(x1:Bool)(r)(h:round_sign fu x1=some r):PureOK prog 392 [.v (.bool x1)] (e392 r):=pureT mixed [] (ids:=[]) rfl (by decide) i392 (C:=noC) (ci:=λcp=>noI) (λcp ok=>noI_ok) (λcp H=>w392 cp fu x1) h
def d397:TD:=[(0,[5]),(0,[]),(0,[8,9]),(0,[]),(0,[10,11,12,13,14]),(0,[]),(0,[16,17]),(0,[]),(8,[18,19,20,21,22,23,24,25]),(0,[]),(0,[27,28]),(0,[]),(0,[29,30]),(0,[]),(0,[32,33]),(0,[]),(0,[34,35,36]),(0,[]),(0,[37,38,39,40]),(0,[]),(13153514735978126263833472979456368521972119668092,[0,1,6,41,42,43,44,45,46,47,48])]
def d397_at:=by have h:=tabL d397.eq_1;simp only[AllAt,Nat.zero_add,Nat.reduceAdd]at h;exact h
theorem i397:finfo prog 397 d397=some ⟨bodyOf Tryz.f397,[.cell 4 260,.tmp 5],[260,4]⟩:=fA Tryz.func397
def e397:(T_round_wide×Bool)->AV:=λr=> .tuple [.agg [.v (.int .u64 r.1.fhigh),.v (.int .u64 r.1.flow)],.v (.bool r.2)]
theorem w397(cp:CallP)(fu:Nat)(x1:Int)(x2:Int):J (go prog noC cp noI 0 [] d397 fu (fin prog [.cell 4 260,.tmp 5] [260,4]) (bodyOf Tryz.f397) (initE 0 [.v (.int .u64 x1),.v (.int .i64 x2)]) [] []) (round_moved fu x1 x2) e397:=by
 unfold round_moved e397
 have da:=d397_at
 conv=>arg 1;simp only[bodyOf,Tryz.f397]
 have z0:=d397_at
 have z1:=RL
 exact Wk
theorem ok397(fu:Nat)(x1:Int)(x2:Int)(r)(h:round_moved fu x1 x2=some r):PureOK prog 397 [.v (.int .u64 x1),.v (.int .i64 x2)] (e397 r):=pureT mixed [] (ids:=[]) rfl (by decide) i397 (C:=noC) (ci:=λcp=>noI) (λcp ok=>noI_ok) (λcp H=>w397 cp fu x1 x2) h
def d398:TD:=[(0,[0,1]),(0,[]),(0,[9,10,11,12,13,14,15,16]),(0,[]),(0,[2,3,6,8,17,18,19,20,21,22,23,24,25]),(0,[]),(0,[5,7,26,27,28])]
def d398_at:=by have h:=tabL d398.eq_1;simp only[AllAt,Nat.zero_add,Nat.reduceAdd]at h;exact h
theorem i398:finfo prog 398 d398=some ⟨bodyOf Tryz.f398,[.cell 4 260],[260]⟩:=fA Tryz.func398
def e398:T_round_wide->AV:=λr=> .agg [.v (.int .u64 r.fhigh),.v (.int .u64 r.flow)]
theorem w398(cp:CallP)(fu:Nat)(x1:T_round_wide)(x2:T_round_wide):J (go prog (inlC [402]) cp (ciX 402 addX noI) 0 [] d398 fu (fin prog [.cell 4 260] [260]) (bodyOf Tryz.f398) (initE 0 [.agg (c_T_round_wide x1),.agg (c_T_round_wide x2)]) [] []) (round_wide_plus fu x1 x2) e398:=by
 unfold round_wide_plus e398
 have da:=d398_at
 conv=>arg 1;simp only[bodyOf,Tryz.f398]
 have z0:=d398_at
 have z1:=RX
 have z2:=RI
 have z3:=RIk
 have z4:= @bodyOf.eq_1
 exact Wk
theorem ok398(fu:Nat)(x1:T_round_wide)(x2:T_round_wide)(r)(h:round_wide_plus fu x1 x2=some r):PureOK prog 398 [.agg (c_T_round_wide x1),.agg (c_T_round_wide x2)] (e398 r):=pureT mixed [] (ids:=[]) rfl (by decide) i398 (C:=(inlC [402])) (ci:=λcp=>(ciX 402 addX noI)) (λcp ok=>(ciX_ok noI_ok (addX_ok Tryz.func402 (by kernel_rfl) (by kernel_rfl) (by kernel_rfl) (by kernel_rfl)))) (λcp H=>w398 cp fu x1 x2) h
def d399:TD:=[(0,[0,10]),(0,[]),(0,[13,14,15]),(0,[]),(0,[16]),(0,[]),(0,[18,19,20,21,22,23,24]),(0,[]),(11,[25,26,27,28,29,30,31,32,33,34]),(0,[]),(0,[1,2,3,4,5,11,12,35,36,37,38,39,40,41,42,43,44,45,46,47,48,49,50])]
def d399_at:=by have h:=tabL d399.eq_1;simp only[AllAt,Nat.zero_add,Nat.reduceAdd]at h;exact h
theorem i399:finfo prog 399 d399=some ⟨bodyOf Tryz.f399,[.tmp 10],[23]⟩:=fA Tryz.func399
def e399:Int->AV:=λr=> .v (.int .u32 r)
theorem w399(cp:CallP)(fu:Nat)(x1:T_round_wide)(x2:Int)(x3:Bool)(x4:Int)(x5:Bool)(H1:K361 fu cp)(H2:K313 fu cp):J (go prog noC cp noI 0 [] d399 fu (fin prog [.tmp 10] [23]) (bodyOf Tryz.f399) (initE 0 [.agg (c_T_round_wide x1),.v (.int .i64 x2),.v (.bool x3),.v (.int .i64 x4),.v (.bool x5)]) [] []) (round_wide_rounded fu x1 x2 x3 x4 x5) e399:=by
 unfold round_wide_rounded e399
 have da:=d399_at
 conv=>arg 1;simp only[bodyOf,Tryz.f399]
 have z0:=d399_at
 exact Wk
theorem ok399(fu:Nat)(x1:T_round_wide)(x2:Int)(x3:Bool)(x4:Int)(x5:Bool)(r)(h:round_wide_rounded fu x1 x2 x3 x4 x5=some r):PureOK prog 399 [.agg (c_T_round_wide x1),.v (.int .i64 x2),.v (.bool x3),.v (.int .i64 x4),.v (.bool x5)] (e399 r):=pureT mixed [(C361 fu).ct,(C313 fu).ct] (ids:=[361,313]) rfl (by decide) i399 (C:=noC) (ci:=λcp=>noI) (λcp ok=>noI_ok) (λcp H=>w399 cp fu x1 x2 x3 x4 x5 (u361 H.1) (u313 H.2.1)) h
def d400:TD:=[(0,[0,1]),(0,[]),(0,[9,10,11,12,13,14,15,16]),(0,[]),(0,[2,3,6,8,17,18,19,20,21,22,23,24,25]),(0,[]),(0,[5,7,26,27,28])]
def d400_at:=by have h:=tabL d400.eq_1;simp only[AllAt,Nat.zero_add,Nat.reduceAdd]at h;exact h
theorem i400:finfo prog 400 d400=some ⟨bodyOf Tryz.f400,[.cell 4 260],[260]⟩:=fA Tryz.func400
def e400:T_round_wide->AV:=λr=> .agg [.v (.int .u64 r.fhigh),.v (.int .u64 r.flow)]
theorem w400(cp:CallP)(fu:Nat)(x1:T_round_wide)(x2:T_round_wide):J (go prog (inlC [403]) cp (ciX 403 subX noI) 0 [] d400 fu (fin prog [.cell 4 260] [260]) (bodyOf Tryz.f400) (initE 0 [.agg (c_T_round_wide x1),.agg (c_T_round_wide x2)]) [] []) (round_wide_minus fu x1 x2) e400:=by
 unfold round_wide_minus e400
 have da:=d400_at
 conv=>arg 1;simp only[bodyOf,Tryz.f400]
 have z0:=d400_at
 have z1:=RX
 have z2:=RI
 have z3:=RIk
 have z4:= @bodyOf.eq_1
 exact Wk
theorem ok400(fu:Nat)(x1:T_round_wide)(x2:T_round_wide)(r)(h:round_wide_minus fu x1 x2=some r):PureOK prog 400 [.agg (c_T_round_wide x1),.agg (c_T_round_wide x2)] (e400 r):=pureT mixed [] (ids:=[]) rfl (by decide) i400 (C:=(inlC [403])) (ci:=λcp=>(ciX 403 subX noI)) (λcp ok=>(ciX_ok noI_ok (subX_ok Tryz.func403 (by kernel_rfl) (by kernel_rfl) (by kernel_rfl) (by kernel_rfl)))) (λcp H=>w400 cp fu x1 x2) h
def d401:TD:=[(0,[0,1,4]),(0,[]),(0,[2,3,5,6,7,8,9,10,11,12,13,14,15,16,17,18,19,20,21,22,23])]
def d401_at:=by have h:=tabL d401.eq_1;simp only[AllAt,Nat.zero_add,Nat.reduceAdd]at h;exact h
theorem i401:finfo prog 401 d401=some ⟨bodyOf Tryz.f401,[.tmp 4],[4]⟩:=fA Tryz.func401
def e401:Bool->AV:=λr=> .v (.bool r)
theorem w401(cp:CallP)(fu:Nat)(x1:T_round_wide)(x2:T_round_wide):J (go prog noC cp noI 0 [] d401 fu (fin prog [.tmp 4] [4]) (bodyOf Tryz.f401) (initE 0 [.agg (c_T_round_wide x1),.agg (c_T_round_wide x2)]) [] []) (round_wide_less fu x1 x2) e401:=by
 unfold round_wide_less e401
 have da:=d401_at
 conv=>arg 1;simp only[bodyOf,Tryz.f401]
 have z0:=d401_at
 exact Wk
theorem ok401(fu:Nat)(x1:T_round_wide)(x2:T_round_wide)(r)(h:round_wide_less fu x1 x2=some r):PureOK prog 401 [.agg (c_T_round_wide x1),.agg (c_T_round_wide x2)] (e401 r):=pureT mixed [] (ids:=[]) rfl (by decide) i401 (C:=noC) (ci:=λcp=>noI) (λcp ok=>noI_ok) (λcp H=>w401 cp fu x1 x2) h
def d393:TD:=[(0,[1,2,6]),(0,[5,11]),(13,[12,13,14,15,16,17,18,19,20,21,22,23]),(0,[]),(0,[25,26]),(0,[]),(8,[27,28,29,30,31,32,33]),(0,[]),(0,[9,34,35,36,37,38,39,40,41,42,43]),(0,[]),(0,[44,45,46,47,48,49,50,51,52,53]),(0,[]),(0,[55,56,57,58,59]),(0,[]),(10,[60,61,62,63,64,65,66,67,68]),(0,[]),(0,[70]),(0,[]),(11,[71,72,73,74,75,76,77,78,79,80]),(0,[]),(0,[82,83,84]),(0,[]),(0,[85,86,87]),(0,[]),(0,[89,90,91]),(0,[]),(9,[92,93,94,95,96,97,98,99]),(0,[]),(9,[0,4,7,8,10,100,101,102,103,104,105,106,107])]
def d393_at:=by have h:=tabL d393.eq_1;simp only[AllAt,Nat.zero_add,Nat.reduceAdd]at h;exact h
theorem i393:finfo prog 393 d393=some ⟨bodyOf Tryz.f393,[.tmp 6],[23]⟩:=fA Tryz.func393
def e393:Int->AV:=λr=> .v (.int .u32 r)
structure K397 (fu:Nat) (cp:CallP):Prop where
 ap: ∀ {a0:Int} {a1:Int} {r},round_moved fu a0 a1=some r->cp 397 [.v (.int .u64 a0),.v (.int .i64 a1)]=some (.tuple [.agg [.v (.int .u64 r.1.fhigh),.v (.int .u64 r.1.flow)],.v (.bool r.2)])
noncomputable def C397(fu:Nat):Cm prog (Int×Int) (T_round_wide×Bool):=⟨397,λt=>[.v (.int .u64 t.1),.v (.int .i64 t.2)],λt=>round_moved fu t.1 t.2,e397,λt b h=>ok397 fu t.1 t.2 b h,Zi⟩
theorem u397{fu:Nat}{cp:CallP}(H:Hit cp (C397 fu).ct):K397 fu cp:=⟨λ {a0 a1 r} h=>(C397 fu).at H (a0,a1) r h⟩
structure K398 (fu:Nat) (cp:CallP):Prop where
 ap: ∀ {a0:T_round_wide} {a1:T_round_wide} {r},round_wide_plus fu a0 a1=some r->cp 398 [.agg (c_T_round_wide a0),.agg (c_T_round_wide a1)]=some (.agg [.v (.int .u64 r.fhigh),.v (.int .u64 r.flow)])
noncomputable def C398(fu:Nat):Cm prog (T_round_wide×T_round_wide) T_round_wide:=⟨398,λt=>[.agg (c_T_round_wide t.1),.agg (c_T_round_wide t.2)],λt=>round_wide_plus fu t.1 t.2,e398,λt b h=>ok398 fu t.1 t.2 b h,Zi⟩
theorem u398{fu:Nat}{cp:CallP}(H:Hit cp (C398 fu).ct):K398 fu cp:=⟨λ {a0 a1 r} h=>(C398 fu).at H (a0,a1) r h⟩
structure K399 (fu:Nat) (cp:CallP):Prop where
 ap: ∀ {a0:T_round_wide} {a1:Int} {a2:Bool} {a3:Int} {a4:Bool} {r},round_wide_rounded fu a0 a1 a2 a3 a4=some r->cp 399 [.agg (c_T_round_wide a0),.v (.int .i64 a1),.v (.bool a2),.v (.int .i64 a3),.v (.bool a4)]=some (.v (.int .u32 r))
noncomputable def C399(fu:Nat):Cm prog (T_round_wide×Int×Bool×Int×Bool) Int:=⟨399,λt=>[.agg (c_T_round_wide t.1),.v (.int .i64 t.2.1),.v (.bool t.2.2.1),.v (.int .i64 t.2.2.2.1),.v (.bool t.2.2.2.2)],λt=>round_wide_rounded fu t.1 t.2.1 t.2.2.1 t.2.2.2.1 t.2.2.2.2,e399,λt b h=>ok399 fu t.1 t.2.1 t.2.2.1 t.2.2.2.1 t.2.2.2.2 b h,Zi⟩
theorem u399{fu:Nat}{cp:CallP}(H:Hit cp (C399 fu).ct):K399 fu cp:=⟨λ {a0 a1 a2 a3 a4 r} h=>(C399 fu).at H (a0,a1,a2,a3,a4) r h⟩
structure K400 (fu:Nat) (cp:CallP):Prop where
 ap: ∀ {a0:T_round_wide} {a1:T_round_wide} {r},round_wide_minus fu a0 a1=some r->cp 400 [.agg (c_T_round_wide a0),.agg (c_T_round_wide a1)]=some (.agg [.v (.int .u64 r.fhigh),.v (.int .u64 r.flow)])
noncomputable def C400(fu:Nat):Cm prog (T_round_wide×T_round_wide) T_round_wide:=⟨400,λt=>[.agg (c_T_round_wide t.1),.agg (c_T_round_wide t.2)],λt=>round_wide_minus fu t.1 t.2,e400,λt b h=>ok400 fu t.1 t.2 b h,Zi⟩
theorem u400{fu:Nat}{cp:CallP}(H:Hit cp (C400 fu).ct):K400 fu cp:=⟨λ {a0 a1 r} h=>(C400 fu).at H (a0,a1) r h⟩
structure K392 (fu:Nat) (cp:CallP):Prop where
 ap: ∀ {a0:Bool} {r},round_sign fu a0=some r->cp 392 [.v (.bool a0)]=some (.v (.int .u32 r))
noncomputable def C392(fu:Nat):Cm prog Bool Int:=⟨392,λt=>[.v (.bool t)],λt=>round_sign fu t,e392,λt b h=>ok392 fu t b h,Zi⟩
theorem u392{fu:Nat}{cp:CallP}(H:Hit cp (C392 fu).ct):K392 fu cp:=⟨λ {a0 r} h=>(C392 fu).at H a0 r h⟩
structure K401 (fu:Nat) (cp:CallP):Prop where
 ap: ∀ {a0:T_round_wide} {a1:T_round_wide} {r},round_wide_less fu a0 a1=some r->cp 401 [.agg (c_T_round_wide a0),.agg (c_T_round_wide a1)]=some (.v (.bool r))
noncomputable def C401(fu:Nat):Cm prog (T_round_wide×T_round_wide) Bool:=⟨401,λt=>[.agg (c_T_round_wide t.1),.agg (c_T_round_wide t.2)],λt=>round_wide_less fu t.1 t.2,e401,λt b h=>ok401 fu t.1 t.2 b h,Zi⟩
theorem u401{fu:Nat}{cp:CallP}(H:Hit cp (C401 fu).ct):K401 fu cp:=⟨λ {a0 a1 r} h=>(C401 fu).at H (a0,a1) r h⟩
def round_sum.j1:LJ 1 6 Unit (Bool×Int×Int×Bool×Int×Int):=⟨λr t e=>[(0,er e 0),(4,er e 4),(5,er e 5)],λr t h=>[((0,4,0),bs (bs (bs (hr h (0,4,0)) 0 (.v (.bool t.1))) 1 (.v (.int .i64 t.2.1))) 2 (.v (.int .u64 t.2.2.1))),((0,5,0),bs (bs (bs (hr h (0,5,0)) 0 (.v (.bool t.2.2.2.1))) 1 (.v (.int .i64 t.2.2.2.2.1))) 2 (.v (.int .u64 t.2.2.2.2.2)))]⟩
open round_sum in
theorem w393(cp:CallP)(fu:Nat)(x1:Int)(x2:T_round_number)(x3:T_round_number)(H1:K361 fu cp)(H2:K397 fu cp)(H3:K398 fu cp)(H4:K399 fu cp)(H5:K400 fu cp)(H6:K392 fu cp)(H7:K401 fu cp):J (go prog noC cp noI 0 [] d393 fu (fin prog [.tmp 6] [23]) (bodyOf Tryz.f393) (initE 0 [.v (.int .i64 x1),.agg (c_T_round_number x2),.agg (c_T_round_number x3)]) [] []) (round_sum fu x1 x2 x3) e393:=by
 unfold round_sum e393
 have da:=d393_at
 conv=>arg 1;simp only[bodyOf,Tryz.f393]
 have z0:=d393_at
 exact Wk
theorem ok393(fu:Nat)(x1:Int)(x2:T_round_number)(x3:T_round_number)(r)(h:round_sum fu x1 x2 x3=some r):PureOK prog 393 [.v (.int .i64 x1),.agg (c_T_round_number x2),.agg (c_T_round_number x3)] (e393 r):=pureT mixed [(C361 fu).ct,(C397 fu).ct,(C398 fu).ct,(C399 fu).ct,(C400 fu).ct,(C392 fu).ct,(C401 fu).ct] (ids:=[361,397,398,399,400,392,401]) rfl (by decide) i393 (C:=noC) (ci:=λcp=>noI) (λcp ok=>noI_ok) (λcp H=>w393 cp fu x1 x2 x3 (u361 H.1) (u397 H.2.1) (u398 H.2.2.1) (u399 H.2.2.2.1) (u400 H.2.2.2.2.1) (u392 H.2.2.2.2.2.1) (u401 H.2.2.2.2.2.2.1)) h
def d367:TD:=[(0,[8]),(0,[9]),(0,[15,16,17,18,19,20]),(0,[3,10]),(0,[21,22,23,24,25]),(0,[]),(0,[27,28,29,30,31,32,33,34,35,36,37,38,39,40,41,42]),(0,[]),(0,[]),(0,[]),(0,[44,45,46,47,48,49,50,51,52,53,54,55]),(0,[]),(0,[]),(0,[]),(0,[57]),(0,[]),(0,[58,59,60]),(0,[]),(0,[62,63]),(0,[]),(0,[64]),(0,[]),(0,[1,2,65,66,67,68,69,70]),(0,[]),(0,[11,12,71,72,73,74,75,76,77,78,79,80,81,82]),(0,[]),(0,[84,85,86,87,88,89,90,91]),(0,[]),(0,[92,93,94]),(0,[]),(0,[96]),(0,[]),(0,[97,98,99]),(0,[]),(0,[101,102,103]),(0,[]),(0,[104]),(0,[]),(0,[106,107,108]),(0,[]),(0,[109,110,111,112,113,114,115]),(0,[]),(0,[0,13,14,116,117,118,119])]
def d367_at:=by have h:=tabL d367.eq_1;simp only[AllAt,Nat.zero_add,Nat.reduceAdd]at h;exact h
theorem i367:finfo prog 367 d367=some ⟨bodyOf Tryz.f367,[.tmp 8],[23]⟩:=fA Tryz.func367
def e367:Int->AV:=λr=> .v (.int .u32 r)
structure K209 (fu:Nat) (cp:CallP):Prop where
 ap: ∀ {a0:Int} {a1:Int} {r},soft_Mul fu a0 a1=some r->cp 209 [.v (.int .u32 a0),.v (.int .u32 a1)]=some (.v (.int .u32 r))
noncomputable def C209(fu:Nat):Cm prog (Int×Int) Int:=⟨209,λt=>[.v (.int .u32 t.1),.v (.int .u32 t.2)],λt=>soft_Mul fu t.1 t.2,e209,λt b h=>ok209 fu t.1 t.2 b h,Zi⟩
theorem u209{fu:Nat}{cp:CallP}(H:Hit cp (C209 fu).ct):K209 fu cp:=⟨λ {a0 a1 r} h=>(C209 fu).at H (a0,a1) r h⟩
structure K393 (fu:Nat) (cp:CallP):Prop where
 ap: ∀ {a0:Int} {a1:T_round_number} {a2:T_round_number} {r},round_sum fu a0 a1 a2=some r->cp 393 [.v (.int .i64 a0),.agg (c_T_round_number a1),.agg (c_T_round_number a2)]=some (.v (.int .u32 r))
noncomputable def C393(fu:Nat):Cm prog (Int×T_round_number×T_round_number) Int:=⟨393,λt=>[.v (.int .i64 t.1),.agg (c_T_round_number t.2.1),.agg (c_T_round_number t.2.2)],λt=>round_sum fu t.1 t.2.1 t.2.2,e393,λt b h=>ok393 fu t.1 t.2.1 t.2.2 b h,Zi⟩
theorem u393{fu:Nat}{cp:CallP}(H:Hit cp (C393 fu).ct):K393 fu cp:=⟨λ {a0 a1 a2 r} h=>(C393 fu).at H (a0,a1,a2) r h⟩
def round_FmaBy.j3:LJ 3 42 Unit Unit:=⟨λr t e=>[(0,er e 0),(13,er e 13),(14,er e 14)],λr t h=>[((0,13,0),hr h (0,13,0)),((0,14,0),hr h (0,14,0))]⟩
def round_FmaBy.j2:LJ 2 22 Unit Unit:=⟨λr t e=>[(0,er e 0),(1,er e 1),(2,er e 2),(3,er e 3),(10,er e 10)],λr t h=>[]⟩
def round_FmaBy.j1:LJ 1 4 Unit Bool:=⟨λr t e=>[(0,er e 0),(1,er e 1),(2,er e 2),(3,er e 3),(9,.v (.bool t))],λr t h=>[]⟩
open round_FmaBy in
theorem w367(cp:CallP)(fu:Nat)(x1:Int)(x2:Int)(x3:Int)(x4:Int)(H1:K126 fu cp)(H2:K124 fu cp)(H3:K209 fu cp)(H4:K392 fu cp)(H5:K233 fu cp)(H6:K313 fu cp)(H7:K393 fu cp):J (go prog noC cp noI 0 [] d367 fu (fin prog [.tmp 8] [23]) (bodyOf Tryz.f367) (initE 0 [.v (.int .i64 x1),.v (.int .u32 x2),.v (.int .u32 x3),.v (.int .u32 x4)]) [] []) (round_FmaBy fu x1 x2 x3 x4) e367:=by
 unfold round_FmaBy e367
 have da:=d367_at
 conv=>arg 1;simp only[bodyOf,Tryz.f367]
 have z0:=d367_at
 exact Wk
theorem ok367(fu:Nat)(x1:Int)(x2:Int)(x3:Int)(x4:Int)(r)(h:round_FmaBy fu x1 x2 x3 x4=some r):PureOK prog 367 [.v (.int .i64 x1),.v (.int .u32 x2),.v (.int .u32 x3),.v (.int .u32 x4)] (e367 r):=pureT mixed [(C126 fu).ct,(C124 fu).ct,(C209 fu).ct,(C392 fu).ct,(C233 fu).ct,(C313 fu).ct,(C393 fu).ct] (ids:=[126,124,209,392,233,313,393]) rfl (by decide) i367 (C:=noC) (ci:=λcp=>noI) (λcp ok=>noI_ok) (λcp H=>w367 cp fu x1 x2 x3 x4 (u126 H.1) (u124 H.2.1) (u209 H.2.2.1) (u392 H.2.2.2.1) (u233 H.2.2.2.2.1) (u313 H.2.2.2.2.2.1) (u393 H.2.2.2.2.2.2.1)) h
def d309:TD:=[(0,[6]),(0,[]),(0,[0,1,2,7,8,9,10])]
def d309_at:=by have h:=tabL d309.eq_1;simp only[AllAt,Nat.zero_add,Nat.reduceAdd]at h;exact h
theorem i309:finfo prog 309 d309=some ⟨bodyOf Tryz.f309,[.tmp 6],[23]⟩:=fA Tryz.func309
def e309:Int->AV:=λr=> .v (.int .u32 r)
structure K367 (fu:Nat) (cp:CallP):Prop where
 ap: ∀ {a0:Int} {a1:Int} {a2:Int} {a3:Int} {r},round_FmaBy fu a0 a1 a2 a3=some r->cp 367 [.v (.int .i64 a0),.v (.int .u32 a1),.v (.int .u32 a2),.v (.int .u32 a3)]=some (.v (.int .u32 r))
noncomputable def C367(fu:Nat):Cm prog (Int×Int×Int×Int) Int:=⟨367,λt=>[.v (.int .i64 t.1),.v (.int .u32 t.2.1),.v (.int .u32 t.2.2.1),.v (.int .u32 t.2.2.2)],λt=>round_FmaBy fu t.1 t.2.1 t.2.2.1 t.2.2.2,e367,λt b h=>ok367 fu t.1 t.2.1 t.2.2.1 t.2.2.2 b h,Zi⟩
theorem u367{fu:Nat}{cp:CallP}(H:Hit cp (C367 fu).ct):K367 fu cp:=⟨λ {a0 a1 a2 a3 r} h=>(C367 fu).at H (a0,a1,a2,a3) r h⟩
theorem w309(cp:CallP)(fu:Nat)(x1:Int)(x2:Int)(x3:Int)(H1:K367 fu cp):J (go prog noC cp noI 0 [] d309 fu (fin prog [.tmp 6] [23]) (bodyOf Tryz.f309) (initE 0 [.v (.int .u32 x1),.v (.int .u32 x2),.v (.int .u32 x3)]) [] []) (round_Fma fu x1 x2 x3) e309:=by
 unfold round_Fma e309
 have da:=d309_at
 conv=>arg 1;simp only[bodyOf,Tryz.f309]
 have z0:=d309_at
 exact Wk
theorem ok309(fu:Nat)(x1:Int)(x2:Int)(x3:Int)(r)(h:round_Fma fu x1 x2 x3=some r):PureOK prog 309 [.v (.int .u32 x1),.v (.int .u32 x2),.v (.int .u32 x3)] (e309 r):=pureT mixed [(C367 fu).ct] (ids:=[367]) rfl (by decide) i309 (C:=noC) (ci:=λcp=>noI) (λcp ok=>noI_ok) (λcp H=>w309 cp fu x1 x2 x3 (u367 H.1)) h
def d310:TD:=[(0,[4]),(0,[0,12,13,14]),(0,[8,9,10]),(0,[]),(0,[1,11]),(0,[]),(0,[]),(0,[]),(0,[16,17]),(0,[]),(0,[7,18,19,20,21]),(0,[]),(0,[22]),(0,[]),(0,[5,23])]
def d310_at:=by have h:=tabL d310.eq_1;simp only[AllAt,Nat.zero_add,Nat.reduceAdd]at h;exact h
theorem i310:finfo prog 310 d310=some ⟨bodyOf Tryz.f310,[.tmp 4],[23]⟩:=fA Tryz.func310
def e310:Int->AV:=λr=> .v (.int .u32 r)
structure K309 (fu:Nat) (cp:CallP):Prop where
 ap: ∀ {a0:Int} {a1:Int} {a2:Int} {r},round_Fma fu a0 a1 a2=some r->cp 309 [.v (.int .u32 a0),.v (.int .u32 a1),.v (.int .u32 a2)]=some (.v (.int .u32 r))
noncomputable def C309(fu:Nat):Cm prog (Int×Int×Int) Int:=⟨309,λt=>[.v (.int .u32 t.1),.v (.int .u32 t.2.1),.v (.int .u32 t.2.2)],λt=>round_Fma fu t.1 t.2.1 t.2.2,e309,λt b h=>ok309 fu t.1 t.2.1 t.2.2 b h,Zi⟩
theorem u309{fu:Nat}{cp:CallP}(H:Hit cp (C309 fu).ct):K309 fu cp:=⟨λ {a0 a1 a2 r} h=>(C309 fu).at H (a0,a1,a2) r h⟩
def elem_row.m1:LJ 1 6 Unit (Int×Int):=⟨λr s e=>[(0,er e 0),(5,.v (.int .u32 s.1)),(12,er e 12),(13,er e 13),(14,.v (.int .i64 s.2))],λr s h=>[]⟩
open elem_row in
theorem w310(cp:CallP)(fu:Nat)(x1:Int)(x2:List Int)(H1:K309 fu cp):J (go prog noC cp noI 0 [] d310 fu (fin prog [.tmp 4] [23]) (bodyOf Tryz.f310) (initE 0 [.v (.int .u32 x1),.arr x2.length (lm (ik .u32) x2)]) [] []) (elem_row fu x1 x2) e310:=by
 unfold elem_row e310
 have da:=d310_at
 conv=>arg 1;simp only[bodyOf,Tryz.f310]
 have z0:=d310_at
 exact Wk
theorem ok310(fu:Nat)(x1:Int)(x2:List Int)(r)(h:elem_row fu x1 x2=some r):PureOK prog 310 [.v (.int .u32 x1),.arr x2.length (lm (ik .u32) x2)] (e310 r):=pureT mixed [(C309 fu).ct] (ids:=[309]) rfl (by decide) i310 (C:=noC) (ci:=λcp=>noI) (λcp ok=>noI_ok) (λcp H=>w310 cp fu x1 x2 (u309 H.1)) h
def d234:TD:=[(0,[4]),(0,[]),(0,[5]),(0,[]),(0,[7,8,9,10,11]),(0,[]),(0,[0,1,12,13,14,15])]
def d234_at:=by have h:=tabL d234.eq_1;simp only[AllAt,Nat.zero_add,Nat.reduceAdd]at h;exact h
theorem i234:finfo prog 234 d234=some ⟨bodyOf Tryz.f234,[.tmp 4],[23]⟩:=fA Tryz.func234
def e234:Int->AV:=λr=> .v (.int .u32 r)
theorem w234(cp:CallP)(fu:Nat)(x1:Int)(x2:Int)(H1:K313 fu cp):J (go prog noC cp noI 0 [] d234 fu (fin prog [.tmp 4] [23]) (bodyOf Tryz.f234) (initE 0 [.v (.int .i64 x1),.v (.int .i64 x2)]) [] []) (round_FromIntBy fu x1 x2) e234:=by
 unfold round_FromIntBy e234
 have da:=d234_at
 conv=>arg 1;simp only[bodyOf,Tryz.f234]
 have z0:=d234_at
 exact Wk
theorem ok234(fu:Nat)(x1:Int)(x2:Int)(r)(h:round_FromIntBy fu x1 x2=some r):PureOK prog 234 [.v (.int .i64 x1),.v (.int .i64 x2)] (e234 r):=pureT mixed [(C313 fu).ct] (ids:=[313]) rfl (by decide) i234 (C:=noC) (ci:=λcp=>noI) (λcp ok=>noI_ok) (λcp H=>w234 cp fu x1 x2 (u313 H.1)) h
def d141:TD:=[(0,[2]),(0,[]),(0,[0,3,4])]
def d141_at:=by have h:=tabL d141.eq_1;simp only[AllAt,Nat.zero_add,Nat.reduceAdd]at h;exact h
theorem i141:finfo prog 141 d141=some ⟨bodyOf Tryz.f141,[.tmp 2],[23]⟩:=fA Tryz.func141
def e141:Int->AV:=λr=> .v (.int .u32 r)
structure K234 (fu:Nat) (cp:CallP):Prop where
 ap: ∀ {a0:Int} {a1:Int} {r},round_FromIntBy fu a0 a1=some r->cp 234 [.v (.int .i64 a0),.v (.int .i64 a1)]=some (.v (.int .u32 r))
noncomputable def C234(fu:Nat):Cm prog (Int×Int) Int:=⟨234,λt=>[.v (.int .i64 t.1),.v (.int .i64 t.2)],λt=>round_FromIntBy fu t.1 t.2,e234,λt b h=>ok234 fu t.1 t.2 b h,Zi⟩
theorem u234{fu:Nat}{cp:CallP}(H:Hit cp (C234 fu).ct):K234 fu cp:=⟨λ {a0 a1 r} h=>(C234 fu).at H (a0,a1) r h⟩
theorem w141(cp:CallP)(fu:Nat)(x1:Int)(H1:K234 fu cp):J (go prog noC cp noI 0 [] d141 fu (fin prog [.tmp 2] [23]) (bodyOf Tryz.f141) (initE 0 [.v (.int .i64 x1)]) [] []) (round_FromInt fu x1) e141:=by
 unfold round_FromInt e141
 have da:=d141_at
 conv=>arg 1;simp only[bodyOf,Tryz.f141]
 have z0:=d141_at
 exact Wk
theorem ok141(fu:Nat)(x1:Int)(r)(h:round_FromInt fu x1=some r):PureOK prog 141 [.v (.int .i64 x1)] (e141 r):=pureT mixed [(C234 fu).ct] (ids:=[234]) rfl (by decide) i141 (C:=noC) (ci:=λcp=>noI) (λcp ok=>noI_ok) (λcp H=>w141 cp fu x1 (u234 H.1)) h
def d315:TD:=[(0,[2]),(0,[]),(0,[10,11]),(0,[]),(0,[]),(0,[]),(0,[13,14,15]),(0,[]),(0,[]),(0,[]),(0,[17,18,19]),(0,[]),(0,[]),(0,[]),(0,[21,22]),(0,[]),(0,[23]),(0,[]),(0,[0,24,25,26,27,28]),(0,[]),(0,[29]),(0,[]),(0,[31,32,33,34,35]),(0,[]),(0,[3,36,37]),(0,[]),(0,[5,38,39,40,41]),(0,[]),(0,[6,42,43,44,45,46,47,48]),(0,[]),(0,[4,49,50]),(0,[]),(0,[7,8,51,52,53,54,55])]
def d315_at:=by have h:=tabL d315.eq_1;simp only[AllAt,Nat.zero_add,Nat.reduceAdd]at h;exact h
theorem i315:finfo prog 315 d315=some ⟨bodyOf Tryz.f315,[.tmp 2],[23]⟩:=fA Tryz.func315
def e315:Int->AV:=λr=> .v (.int .u32 r)
structure K371 (fu:Nat) (cp:CallP):Prop where
 ap: ∀ {a0:Int} {r},elem_parts fu a0=some r->cp 371 [.v (.int .u32 a0)]=some (.tuple [.v (.int .u32 r.1),.v (.int .i64 r.2)])
noncomputable def C371(fu:Nat):Cm prog Int (Int×Int):=⟨371,λt=>[.v (.int .u32 t)],λt=>elem_parts fu t,e371,λt b h=>ok371 fu t b h,Zi⟩
theorem u371{fu:Nat}{cp:CallP}(H:Hit cp (C371 fu).ct):K371 fu cp:=⟨λ {a0 r} h=>(C371 fu).at H a0 r h⟩
structure K130 (fu:Nat) (cp:CallP):Prop where
 ap: ∀ {a0:Int} {a1:Int} {r},soft_Less fu a0 a1=some r->cp 130 [.v (.int .u32 a0),.v (.int .u32 a1)]=some (.v (.bool r))
noncomputable def C130(fu:Nat):Cm prog (Int×Int) Bool:=⟨130,λt=>[.v (.int .u32 t.1),.v (.int .u32 t.2)],λt=>soft_Less fu t.1 t.2,e130,λt b h=>ok130 fu t.1 t.2 b h,Zi⟩
theorem u130{fu:Nat}{cp:CallP}(H:Hit cp (C130 fu).ct):K130 fu cp:=⟨λ {a0 a1 r} h=>(C130 fu).at H (a0,a1) r h⟩
structure K216 (fu:Nat) (cp:CallP):Prop where
 ap: ∀ {a0:Int} {a1:Int} {r},soft_Add fu a0 a1=some r->cp 216 [.v (.int .u32 a0),.v (.int .u32 a1)]=some (.v (.int .u32 r))
noncomputable def C216(fu:Nat):Cm prog (Int×Int) Int:=⟨216,λt=>[.v (.int .u32 t.1),.v (.int .u32 t.2)],λt=>soft_Add fu t.1 t.2,e216,λt b h=>ok216 fu t.1 t.2 b h,Zi⟩
theorem u216{fu:Nat}{cp:CallP}(H:Hit cp (C216 fu).ct):K216 fu cp:=⟨λ {a0 a1 r} h=>(C216 fu).at H (a0,a1) r h⟩
structure K212 (fu:Nat) (cp:CallP):Prop where
 ap: ∀ {a0:Int} {a1:Int} {r},soft_Sub fu a0 a1=some r->cp 212 [.v (.int .u32 a0),.v (.int .u32 a1)]=some (.v (.int .u32 r))
noncomputable def C212(fu:Nat):Cm prog (Int×Int) Int:=⟨212,λt=>[.v (.int .u32 t.1),.v (.int .u32 t.2)],λt=>soft_Sub fu t.1 t.2,e212,λt b h=>ok212 fu t.1 t.2 b h,Zi⟩
theorem u212{fu:Nat}{cp:CallP}(H:Hit cp (C212 fu).ct):K212 fu cp:=⟨λ {a0 a1 r} h=>(C212 fu).at H (a0,a1) r h⟩
structure K204 (fu:Nat) (cp:CallP):Prop where
 ap: ∀ {a0:Int} {a1:Int} {r},soft_Div fu a0 a1=some r->cp 204 [.v (.int .u32 a0),.v (.int .u32 a1)]=some (.v (.int .u32 r))
noncomputable def C204(fu:Nat):Cm prog (Int×Int) Int:=⟨204,λt=>[.v (.int .u32 t.1),.v (.int .u32 t.2)],λt=>soft_Div fu t.1 t.2,e204,λt b h=>ok204 fu t.1 t.2 b h,Zi⟩
theorem u204{fu:Nat}{cp:CallP}(H:Hit cp (C204 fu).ct):K204 fu cp:=⟨λ {a0 a1 r} h=>(C204 fu).at H (a0,a1) r h⟩
structure K310 (fu:Nat) (cp:CallP):Prop where
 ap: ∀ {a0:Int} {a1:List Int} {r},elem_row fu a0 a1=some r->cp 310 [.v (.int .u32 a0),.arr a1.length (lm (ik .u32) a1)]=some (.v (.int .u32 r))
noncomputable def C310(fu:Nat):Cm prog (Int×(List Int)) Int:=⟨310,λt=>[.v (.int .u32 t.1),.arr t.2.length (lm (ik .u32) t.2)],λt=>elem_row fu t.1 t.2,e310,λt b h=>ok310 fu t.1 t.2 b h,Zi⟩
theorem u310{fu:Nat}{cp:CallP}(H:Hit cp (C310 fu).ct):K310 fu cp:=⟨λ {a0 a1 r} h=>(C310 fu).at H (a0,a1) r h⟩
structure K141 (fu:Nat) (cp:CallP):Prop where
 ap: ∀ {a0:Int} {r},round_FromInt fu a0=some r->cp 141 [.v (.int .i64 a0)]=some (.v (.int .u32 r))
noncomputable def C141(fu:Nat):Cm prog Int Int:=⟨141,λt=>[.v (.int .i64 t)],λt=>round_FromInt fu t,e141,λt b h=>ok141 fu t b h,Zi⟩
theorem u141{fu:Nat}{cp:CallP}(H:Hit cp (C141 fu).ct):K141 fu cp:=⟨λ {a0 r} h=>(C141 fu).at H a0 r h⟩
def elem_Log.j1:LJ 1 24 Unit (Int×Int):=⟨λr t e=>[(3,.v (.int .u32 t.1)),(4,.v (.int .i64 t.2))],λr t h=>[]⟩
open elem_Log in
theorem w315(cp:CallP)(fu:Nat)(x1:Int)(H1:K124 fu cp)(H2:K140 fu cp)(H3:K126 fu cp)(H4:K371 fu cp)(H5:K130 fu cp)(H6:K216 fu cp)(H7:K212 fu cp)(H8:K204 fu cp)(H9:K209 fu cp)(H10:K310 fu cp)(H11:K141 fu cp)(H12:K309 fu cp):J (go prog noC cp noI 0 [] d315 fu (fin prog [.tmp 2] [23]) (bodyOf Tryz.f315) (initE 0 [.v (.int .u32 x1)]) [] []) (elem_Log fu x1) e315:=by
 unfold elem_Log e315
 have da:=d315_at
 conv=>arg 1;simp only[bodyOf,Tryz.f315]
 have z0:=d315_at
 exact Wk
theorem ok315(fu:Nat)(x1:Int)(r)(h:elem_Log fu x1=some r):PureOK prog 315 [.v (.int .u32 x1)] (e315 r):=pureT mixed [(C124 fu).ct,(C140 fu).ct,(C126 fu).ct,(C371 fu).ct,(C130 fu).ct,(C216 fu).ct,(C212 fu).ct,(C204 fu).ct,(C209 fu).ct,(C310 fu).ct,(C141 fu).ct,(C309 fu).ct] (ids:=[124,140,126,371,130,216,212,204,209,310,141,309]) rfl (by decide) i315 (C:=noC) (ci:=λcp=>noI) (λcp ok=>noI_ok) (λcp H=>w315 cp fu x1 (u124 H.1) (u140 H.2.1) (u126 H.2.2.1) (u371 H.2.2.2.1) (u130 H.2.2.2.2.1) (u216 H.2.2.2.2.2.1) (u212 H.2.2.2.2.2.2.1) (u204 H.2.2.2.2.2.2.2.1) (u209 H.2.2.2.2.2.2.2.2.1) (u310 H.2.2.2.2.2.2.2.2.2.1) (u141 H.2.2.2.2.2.2.2.2.2.2.1) (u309 H.2.2.2.2.2.2.2.2.2.2.2.1)) h
def d139:TD:=[(0,[2]),(0,[]),(0,[5]),(0,[]),(0,[]),(0,[]),(0,[7,8]),(0,[]),(0,[0,9,10]),(0,[]),(0,[12]),(0,[]),(0,[]),(0,[]),(0,[]),(0,[]),(0,[14,15,16]),(0,[]),(0,[17,18]),(0,[]),(0,[20,21,22,23]),(0,[]),(0,[24,25,26,27,28]),(0,[]),(0,[3,29]),(0,[]),(0,[31,32]),(0,[]),(0,[4,33])]
def d139_at:=by have h:=tabL d139.eq_1;simp only[AllAt,Nat.zero_add,Nat.reduceAdd]at h;exact h
theorem i139:finfo prog 139 d139=some ⟨bodyOf Tryz.f139,[.tmp 2],[2]⟩:=fA Tryz.func139
def e139:Int->AV:=λr=> .v (.int .i64 r)
def round_ToInt.j1:LJ 1 24 Unit Int:=⟨λr t e=>[(3,er e 3),(4,.v (.int .i64 t))],λr t h=>[((0,3,0),hr h (0,3,0))]⟩
open round_ToInt in
theorem w139(cp:CallP)(fu:Nat)(x1:Int)(H1:K124 fu cp)(H2:K233 fu cp)(H3:K140 fu cp):J (go prog noC cp noI 0 [] d139 fu (fin prog [.tmp 2] [2]) (bodyOf Tryz.f139) (initE 0 [.v (.int .u32 x1)]) [] []) (round_ToInt fu x1) e139:=by
 unfold round_ToInt e139
 have da:=d139_at
 conv=>arg 1;simp only[bodyOf,Tryz.f139]
 have z0:=d139_at
 exact Wk
theorem ok139(fu:Nat)(x1:Int)(r)(h:round_ToInt fu x1=some r):PureOK prog 139 [.v (.int .u32 x1)] (e139 r):=pureT mixed [(C124 fu).ct,(C233 fu).ct,(C140 fu).ct] (ids:=[124,233,140]) rfl (by decide) i139 (C:=noC) (ci:=λcp=>noI) (λcp ok=>noI_ok) (λcp H=>w139 cp fu x1 (u124 H.1) (u233 H.2.1) (u140 H.2.2.1)) h
def d213:TD:=[(0,[2]),(0,[]),(0,[7,8]),(0,[]),(0,[]),(0,[]),(0,[10,11]),(0,[]),(0,[]),(0,[]),(0,[13,14]),(0,[]),(0,[]),(0,[]),(0,[15,16,17]),(0,[]),(0,[0,18,19,20,21,22,23,24]),(0,[]),(0,[4,25,26,27]),(0,[]),(0,[3,5,28,29,30,31])]
def d213_at:=by have h:=tabL d213.eq_1;simp only[AllAt,Nat.zero_add,Nat.reduceAdd]at h;exact h
theorem i213:finfo prog 213 d213=some ⟨bodyOf Tryz.f213,[.tmp 2],[23]⟩:=fA Tryz.func213
def e213:Int->AV:=λr=> .v (.int .u32 r)
structure K201 (fu:Nat) (cp:CallP):Prop where
 ap: ∀ {a0:Int} {r},round_Even fu a0=some r->cp 201 [.v (.int .u32 a0)]=some (.v (.int .u32 r))
noncomputable def C201(fu:Nat):Cm prog Int Int:=⟨201,λt=>[.v (.int .u32 t)],λt=>round_Even fu t,e201,λt b h=>ok201 fu t b h,Zi⟩
theorem u201{fu:Nat}{cp:CallP}(H:Hit cp (C201 fu).ct):K201 fu cp:=⟨λ {a0 r} h=>(C201 fu).at H a0 r h⟩
structure K139 (fu:Nat) (cp:CallP):Prop where
 ap: ∀ {a0:Int} {r},round_ToInt fu a0=some r->cp 139 [.v (.int .u32 a0)]=some (.v (.int .i64 r))
noncomputable def C139(fu:Nat):Cm prog Int Int:=⟨139,λt=>[.v (.int .u32 t)],λt=>round_ToInt fu t,e139,λt b h=>ok139 fu t b h,Zi⟩
theorem u139{fu:Nat}{cp:CallP}(H:Hit cp (C139 fu).ct):K139 fu cp:=⟨λ {a0 r} h=>(C139 fu).at H a0 r h⟩
theorem w213(cp:CallP)(fu:Nat)(x1:Int)(H1:K124 fu cp)(H2:K130 fu cp)(H3:K209 fu cp)(H4:K201 fu cp)(H5:K197 fu cp)(H6:K309 fu cp)(H7:K310 fu cp)(H8:K139 fu cp)(H9:K311 fu cp):J (go prog noC cp noI 0 [] d213 fu (fin prog [.tmp 2] [23]) (bodyOf Tryz.f213) (initE 0 [.v (.int .u32 x1)]) [] []) (elem_Exp fu x1) e213:=by
 unfold elem_Exp e213
 have da:=d213_at
 conv=>arg 1;simp only[bodyOf,Tryz.f213]
 have z0:=d213_at
 exact Wk
theorem ok213(fu:Nat)(x1:Int)(r)(h:elem_Exp fu x1=some r):PureOK prog 213 [.v (.int .u32 x1)] (e213 r):=pureT mixed [(C124 fu).ct,(C130 fu).ct,(C209 fu).ct,(C201 fu).ct,(C197 fu).ct,(C309 fu).ct,(C310 fu).ct,(C139 fu).ct,(C311 fu).ct] (ids:=[124,130,209,201,197,309,310,139,311]) rfl (by decide) i213 (C:=noC) (ci:=λcp=>noI) (λcp ok=>noI_ok) (λcp H=>w213 cp fu x1 (u124 H.1) (u130 H.2.1) (u209 H.2.2.1) (u201 H.2.2.2.1) (u197 H.2.2.2.2.1) (u309 H.2.2.2.2.2.1) (u310 H.2.2.2.2.2.2.1) (u139 H.2.2.2.2.2.2.2.1) (u311 H.2.2.2.2.2.2.2.2.1)) h
def d314:TD:=[(0,[2]),(0,[]),(0,[0,3,4,5,6,7,8,9,10,11])]
def d314_at:=by have h:=tabL d314.eq_1;simp only[AllAt,Nat.zero_add,Nat.reduceAdd]at h;exact h
noncomputable def b314:Code:=bodyOf Tryz.f314
theorem go_b314{C:Cfg}{cp:CallP}{ci:CallI}{lvl:Nat}{prot:List Id}{D:TD}{n:Nat}{K:KK}{e:Env}{h:Heap}{fs:List Fr}:go prog C cp ci lvl prot D n K b314 e h fs=go prog C cp ci lvl prot D n K (bodyOf Tryz.f314) e h fs:=rfl
theorem i314:finfo prog 314 d314=some ⟨b314,[.tmp 2],[4]⟩:=fA Tryz.func314
def d218:TD:=[(0,[4]),(0,[]),(0,[7,8,9,10,11,12,13]),(0,[]),(0,[]),(0,[]),(0,[15,16,17,18,19,20]),(0,[]),(0,[]),(0,[]),(0,[22,23,24,25,26,27]),(0,[]),(0,[]),(0,[]),(0,[29,30,31,32,33,34,35,36,37,38,39,40]),(0,[]),(0,[]),(0,[]),(0,[41,42,43,44,45,46]),(0,[]),(0,[0,1,47,48,49,50,51,52,53,54,55,56,57,58,59,60,61,62,63]),(0,[]),(0,[65,66]),(0,[]),(0,[5,67])]
def d218_at:=by have h:=tabL d218.eq_1;simp only[AllAt,Nat.zero_add,Nat.reduceAdd]at h;exact h
theorem i218:finfo prog 218 d218=some ⟨bodyOf Tryz.f218,[.tmp 4],[23]⟩:=fA Tryz.func218
def e218:Int->AV:=λr=> .v (.int .u32 r)
structure K128 (fu:Nat) (cp:CallP):Prop where
 ap: ∀ {a0:Int} {a1:Int} {r},soft_Equal fu a0 a1=some r->cp 128 [.v (.int .u32 a0),.v (.int .u32 a1)]=some (.v (.bool r))
noncomputable def C128(fu:Nat):Cm prog (Int×Int) Bool:=⟨128,λt=>[.v (.int .u32 t.1),.v (.int .u32 t.2)],λt=>soft_Equal fu t.1 t.2,e128,λt b h=>ok128 fu t.1 t.2 b h,Zi⟩
theorem u128{fu:Nat}{cp:CallP}(H:Hit cp (C128 fu).ct):K128 fu cp:=⟨λ {a0 a1 r} h=>(C128 fu).at H (a0,a1) r h⟩
structure K315 (fu:Nat) (cp:CallP):Prop where
 ap: ∀ {a0:Int} {r},elem_Log fu a0=some r->cp 315 [.v (.int .u32 a0)]=some (.v (.int .u32 r))
noncomputable def C315(fu:Nat):Cm prog Int Int:=⟨315,λt=>[.v (.int .u32 t)],λt=>elem_Log fu t,e315,λt b h=>ok315 fu t b h,Zi⟩
theorem u315{fu:Nat}{cp:CallP}(H:Hit cp (C315 fu).ct):K315 fu cp:=⟨λ {a0 r} h=>(C315 fu).at H a0 r h⟩
structure K213 (fu:Nat) (cp:CallP):Prop where
 ap: ∀ {a0:Int} {r},elem_Exp fu a0=some r->cp 213 [.v (.int .u32 a0)]=some (.v (.int .u32 r))
noncomputable def C213(fu:Nat):Cm prog Int Int:=⟨213,λt=>[.v (.int .u32 t)],λt=>elem_Exp fu t,e213,λt b h=>ok213 fu t b h,Zi⟩
theorem u213{fu:Nat}{cp:CallP}(H:Hit cp (C213 fu).ct):K213 fu cp:=⟨λ {a0 r} h=>(C213 fu).at H a0 r h⟩
def elem_Pow.j1:LJ 1 18 Unit Unit:=⟨λr t e=>[(0,er e 0),(1,er e 1)],λr t h=>[]⟩
open elem_Pow in
theorem w218(cp:CallP)(fu:Nat)(x1:Int)(x2:Int)(H1:K140 fu cp)(H2:K124 fu cp)(H3:K126 fu cp)(H4:K130 fu cp)(H5:K201 fu cp)(H6:K128 fu cp)(H7:K315 fu cp)(H8:K209 fu cp)(H9:K213 fu cp)(H10:K139 fu cp)(H11:K197 fu cp):J (go prog (inlC [314]) cp (ciE prog (inlC [314]) cp noI fu 314 d314 ⟨b314,[.tmp 2],[4]⟩ noI) 0 [] d218 fu (fin prog [.tmp 4] [23]) (bodyOf Tryz.f218) (initE 0 [.v (.int .u32 x1),.v (.int .u32 x2)]) [] []) (elem_Pow fu x1 x2) e218:=by
 unfold elem_Pow e218
 have da:=d218_at
 conv=>arg 1;simp only[bodyOf,Tryz.f218]
 have z0:=d218_at
 have z1:=d314_at
 have z2:=Tryz.f314.eq_1
 have z3:= @go_b314
 have z4:=RI
 have z5:=RIk
 have z6:= @bodyOf.eq_1
 exact Wk
theorem ok218(fu:Nat)(x1:Int)(x2:Int)(r)(h:elem_Pow fu x1 x2=some r):PureOK prog 218 [.v (.int .u32 x1),.v (.int .u32 x2)] (e218 r):=pureT mixed [(C140 fu).ct,(C124 fu).ct,(C126 fu).ct,(C130 fu).ct,(C201 fu).ct,(C128 fu).ct,(C315 fu).ct,(C209 fu).ct,(C213 fu).ct,(C139 fu).ct,(C197 fu).ct] (ids:=[140,124,126,130,201,128,315,209,213,139,197]) rfl (by decide) i218 (C:=(inlC [314])) (ci:=λcp=>(ciE prog (inlC [314]) cp noI fu 314 d314 ⟨b314,[.tmp 2],[4]⟩ noI)) (λcp ok=>(ciE_ok mixed ok noI_ok i314 noI_ok)) (λcp H=>w218 cp fu x1 x2 (u140 H.1) (u124 H.2.1) (u126 H.2.2.1) (u130 H.2.2.2.1) (u201 H.2.2.2.2.1) (u128 H.2.2.2.2.2.1) (u315 H.2.2.2.2.2.2.1) (u209 H.2.2.2.2.2.2.2.1) (u213 H.2.2.2.2.2.2.2.2.1) (u139 H.2.2.2.2.2.2.2.2.2.1) (u197 H.2.2.2.2.2.2.2.2.2.2.1)) h
def d215:TD:=[(0,[4]),(0,[1]),(0,[6,7,8,9,10,11]),(0,[]),(0,[]),(0,[]),(0,[13,14,15]),(0,[]),(0,[16,17,18]),(0,[]),(0,[20,21,22]),(0,[]),(0,[23]),(0,[]),(0,[0,24])]
def d215_at:=by have h:=tabL d215.eq_1;simp only[AllAt,Nat.zero_add,Nat.reduceAdd]at h;exact h
theorem i215:finfo prog 215 d215=some ⟨bodyOf Tryz.f215,[.tmp 4],[23]⟩:=fA Tryz.func215
def e215:Int->AV:=λr=> .v (.int .u32 r)
theorem w215(cp:CallP)(fu:Nat)(x1:Int)(x2:Int)(H1:K124 fu cp)(H2:K128 fu cp)(H3:K130 fu cp):J (go prog noC cp noI 0 [] d215 fu (fin prog [.tmp 4] [23]) (bodyOf Tryz.f215) (initE 0 [.v (.int .u32 x1),.v (.int .u32 x2)]) [] []) (soft_Min fu x1 x2) e215:=by
 unfold soft_Min e215
 have da:=d215_at
 conv=>arg 1;simp only[bodyOf,Tryz.f215]
 have z0:=d215_at
 exact Wk
theorem ok215(fu:Nat)(x1:Int)(x2:Int)(r)(h:soft_Min fu x1 x2=some r):PureOK prog 215 [.v (.int .u32 x1),.v (.int .u32 x2)] (e215 r):=pureT mixed [(C124 fu).ct,(C128 fu).ct,(C130 fu).ct] (ids:=[124,128,130]) rfl (by decide) i215 (C:=noC) (ci:=λcp=>noI) (λcp ok=>noI_ok) (λcp H=>w215 cp fu x1 x2 (u124 H.1) (u128 H.2.1) (u130 H.2.2.1)) h
def d206:TD:=[(0,[4]),(0,[1]),(0,[6,7,8,9,10,11]),(0,[]),(0,[]),(0,[]),(0,[13,14,15]),(0,[]),(0,[16,17,18]),(0,[]),(0,[20,21,22]),(0,[]),(0,[23]),(0,[]),(0,[0,24])]
def d206_at:=by have h:=tabL d206.eq_1;simp only[AllAt,Nat.zero_add,Nat.reduceAdd]at h;exact h
theorem i206:finfo prog 206 d206=some ⟨bodyOf Tryz.f206,[.tmp 4],[23]⟩:=fA Tryz.func206
def e206:Int->AV:=λr=> .v (.int .u32 r)
theorem w206(cp:CallP)(fu:Nat)(x1:Int)(x2:Int)(H1:K124 fu cp)(H2:K128 fu cp)(H3:K130 fu cp):J (go prog noC cp noI 0 [] d206 fu (fin prog [.tmp 4] [23]) (bodyOf Tryz.f206) (initE 0 [.v (.int .u32 x1),.v (.int .u32 x2)]) [] []) (soft_Max fu x1 x2) e206:=by
 unfold soft_Max e206
 have da:=d206_at
 conv=>arg 1;simp only[bodyOf,Tryz.f206]
 have z0:=d206_at
 exact Wk
theorem ok206(fu:Nat)(x1:Int)(x2:Int)(r)(h:soft_Max fu x1 x2=some r):PureOK prog 206 [.v (.int .u32 x1),.v (.int .u32 x2)] (e206 r):=pureT mixed [(C124 fu).ct,(C128 fu).ct,(C130 fu).ct] (ids:=[124,128,130]) rfl (by decide) i206 (C:=noC) (ci:=λcp=>noI) (λcp ok=>noI_ok) (λcp H=>w206 cp fu x1 x2 (u124 H.1) (u128 H.2.1) (u130 H.2.2.1)) h
def d306:TD:=[(0,[5]),(0,[]),(0,[6]),(0,[]),(0,[8,9,10,11]),(0,[]),(0,[0,1,2,12])]
def d306_at:=by have h:=tabL d306.eq_1;simp only[AllAt,Nat.zero_add,Nat.reduceAdd]at h;exact h
theorem i306:finfo prog 306 d306=some ⟨bodyOf Tryz.f306,[.tmp 5],[23]⟩:=fA Tryz.func306
def e306:Int->AV:=λr=> .v (.int .u32 r)
theorem w306(cp:CallP)(fu:Nat)(x1:Int)(x2:Int)(p2:Int→Int→Option Int)(fv_p2:FuncId)(ca_p2:List AV)(cap_p2:Capt ca_p2)(hp_p2: ∀ (y0:Int) (y1:Int) r,p2 y0 y1=some r→cp fv_p2 ((.v (.int .u32 y0))::(.v (.int .u32 y1))::ca_p2)=some (.v (.int .u32 r)))(H130_0: ∀ (a0:Int) (a1:Int) r,soft_Less fu a0 a1=some r→cp 130 [.v (.int .u32 a0),.v (.int .u32 a1)]=some (.v (.bool r))):J (go prog noC cp noI 0 [] d306 fu (fin prog [.tmp 5] [23]) (bodyOf Tryz.f306) (initE 0 [.v (.int .u32 x1),.v (.int .u32 x2),.ref [.fn fv_p2 [] ca_p2] 0]) [] []) (ewise_below_1 fu x1 x2 p2) e306:=by
 unfold ewise_below_1 e306
 have da:=d306_at
 have c4_p2:=λg=>(cap_p2.1 g).1;have c3_p2:=λg=>(cap_p2.1 g).2.1;have b4_p2:=λg=>(cap_p2.1 g).2.2.1;have b3_p2:=λg=>(cap_p2.1 g).2.2.2;have nm_p2:=cap_p2.2
 conv=>arg 1;simp (disch:=first|exact Zd|fail) only[bodyOf,Tryz.f306,ZZ,d306_at,simprocAttr,c4_p2,c3_p2,b4_p2,b3_p2,nm_p2]
 refine J.eq go_seq ?_
 refine J.bind λx4 h1=> ?_
 have e_h1:=H130_0 _ _ _ h1
 try simp only[NN,NT,LN,simprocAttr,DT]at e_h1
 conv=>arg 1;simp (disch:=first|exact Zd|fail) only[ZZ,d306_at,simprocAttr,c4_p2,c3_p2,b4_p2,b3_p2,nm_p2,e_h1]
 refine J.ite (λh2=> ?_) (λh2=> ?_)
 ·have h2':x4=true:=h2
  refine J.bind λx5 h3=> ?_
  have e_h3:=hp_p2 _ _ _ h3
  try simp only[NN,NT,LN,simprocAttr,DT]at e_h3
  refine J.some ?_
  simp (maxSteps:=20000000) (disch:=first|exact Zd|fail) only[ZZ,d306_at,simprocAttr,c4_p2,c3_p2,b4_p2,b3_p2,nm_p2,e_h1,h2',e_h3,FN]
 ·have h2':x4=false:=Bool.eq_false_iff.2 h2
  conv=>arg 1;simp (disch:=first|exact Zd|fail) only[ZZ,d306_at,simprocAttr,c4_p2,c3_p2,b4_p2,b3_p2,nm_p2,e_h1,h2']
  refine J.eq ret_seq ?_
  refine J.some ?_
  simp (maxSteps:=20000000) (disch:=first|exact Zd|fail) only[ZZ,d306_at,simprocAttr,c4_p2,c3_p2,b4_p2,b3_p2,nm_p2,e_h1,h2',FN]
noncomputable def t306(fu:Nat)(x1:Int)(x2:Int)(p2:Int->Int->Option Int)(fv_p2:FuncId)(ca_p2:List AV):CallP:=orE 130 (mkC (λ(t:Int×Int)=>([.v (.int .u32 t.1),.v (.int .u32 t.2)]:List AV)) (λt=>soft_Less fu t.1 t.2) e130) (orE fv_p2 (mkC (λ(t:Int×Int)=>((.v (.int .u32 t.1))::(.v (.int .u32 t.2))::ca_p2:List AV)) (λt=>p2 t.1 t.2) (λr=> .v (.int .u32 r))) (noP))
theorem t306_ok(fu:Nat)(x1:Int)(x2:Int)(p2:Int->Int->Option Int)(fv_p2:FuncId)(ca_p2:List AV)(nc_p2:memN [130] fv_p2=false)(cap_p2:Capt ca_p2)(hp_p2: ∀ (y0:Int) (y1:Int) r,p2 y0 y1=some r->PureOK prog fv_p2 ((.v (.int .u32 y0))::(.v (.int .u32 y1))::ca_p2) (.v (.int .u32 r))):CpOK prog (t306 fu x1 x2 p2 fv_p2 ca_p2):=orE_ok (orE_ok (noP_ok) (mkC_ok (λt b h=>hp_p2 t.1 t.2 b h))) (mkC_ok (λt b h=>ok130 fu t.1 t.2 b h))
theorem ok306(fu:Nat)(x1:Int)(x2:Int)(p2:Int→Int→Option Int)(fv_p2:FuncId)(ca_p2:List AV)(nc_p2:memN [130] fv_p2=false)(cap_p2:Capt ca_p2)(hp_p2: ∀ (y0:Int) (y1:Int) r,p2 y0 y1=some r→PureOK prog fv_p2 ((.v (.int .u32 y0))::(.v (.int .u32 y1))::ca_p2) (.v (.int .u32 r)))(r)(h:ewise_below_1 fu x1 x2 p2=some r):PureOK prog 306 [.v (.int .u32 x1),.v (.int .u32 x2),.ref [.fn fv_p2 [] ca_p2] 0] (e306 r):=
  pure_J mixed (cp:=t306 fu x1 x2 p2 fv_p2 ca_p2) (t306_ok fu x1 x2 p2 fv_p2 ca_p2 nc_p2 cap_p2 hp_p2) noI_ok i306 (w306 _ fu x1 x2 p2 fv_p2 ca_p2 cap_p2 (λy0 y1 r h=>orE_skip (λhfv=>absurd nc_p2 (by first|(rw[hfv];decide)|(rw[← hfv];decide))) (orE_hit (mkC_at (a:=(y0,y1)) (by intro a b h;first|(exact rfl)|(simp only[INJ,IJ]at h;first|exact h|(simp_all [Prod.ext_iff]))) h))) (λa0 a1 r h=>orE_hit (mkC_at (a:=(a0,a1)) (by intro a b h;first|(exact rfl)|(simp only[INJ,IJ]at h;first|exact h|(simp_all [Prod.ext_iff]))) h))) h
def d210:TD:=[(0,[4]),(0,[]),(0,[0,1,5,6,7])]
def d210_at:=by have h:=tabL d210.eq_1;simp only[AllAt,Nat.zero_add,Nat.reduceAdd]at h;exact h
theorem i210:finfo prog 210 d210=some ⟨bodyOf Tryz.f210,[.tmp 4],[23]⟩:=fA Tryz.func210
def e210:Int->AV:=λr=> .v (.int .u32 r)
theorem w210(cp:CallP)(fu:Nat)(x1:Int)(x2:Int)(H1:K209 fu cp):J (go prog noC cp noI 0 [] d210 fu (fin prog [.tmp 4] [23]) (bodyOf Tryz.f210) (initE 0 [.v (.int .u32 x1),.v (.int .u32 x2)]) [] []) (ewise_floatOf_4 fu x1 x2) e210:=by
 unfold ewise_floatOf_4 e210
 have da:=d210_at
 conv=>arg 1;simp only[bodyOf,Tryz.f210]
 have z0:=d210_at
 exact Wk
theorem ok210(fu:Nat)(x1:Int)(x2:Int)(r)(h:ewise_floatOf_4 fu x1 x2=some r):PureOK prog 210 [.v (.int .u32 x1),.v (.int .u32 x2)] (e210 r):=pureT mixed [(C209 fu).ct] (ids:=[209]) rfl (by decide) i210 (C:=noC) (ci:=λcp=>noI) (λcp ok=>noI_ok) (λcp H=>w210 cp fu x1 x2 (u209 H.1)) h
def d231:TD:=[(0,[1,4]),(0,[]),(0,[0,5])]
def d231_at:=by have h:=tabL d231.eq_1;simp only[AllAt,Nat.zero_add,Nat.reduceAdd]at h;exact h
theorem i231:finfo prog 231 d231=some ⟨bodyOf Tryz.f231,[.tmp 4],[2]⟩:=fA Tryz.func231
def e231:Int->AV:=λr=> .v (.int .i64 r)
theorem w231(cp:CallP)(fu:Nat)(x1:Int)(x2:Int):J (go prog noC cp noI 0 [] d231 fu (fin prog [.tmp 4] [2]) (bodyOf Tryz.f231) (initE 0 [.v (.int .i64 x1),.v (.int .i64 x2)]) [] []) (ewise_intOf_9 fu x1 x2) e231:=by
 unfold ewise_intOf_9 e231
 have da:=d231_at
 conv=>arg 1;simp only[bodyOf,Tryz.f231]
 have z0:=d231_at
 exact Wk
theorem ok231(fu:Nat)(x1:Int)(x2:Int)(r)(h:ewise_intOf_9 fu x1 x2=some r):PureOK prog 231 [.v (.int .i64 x1),.v (.int .i64 x2)] (e231 r):=pureT mixed [] (ids:=[]) rfl (by decide) i231 (C:=noC) (ci:=λcp=>noI) (λcp ok=>noI_ok) (λcp H=>w231 cp fu x1 x2) h
def d224:TD:=[(0,[4]),(0,[]),(0,[0,1,5,6,7])]
def d224_at:=by have h:=tabL d224.eq_1;simp only[AllAt,Nat.zero_add,Nat.reduceAdd]at h;exact h
theorem i224:finfo prog 224 d224=some ⟨bodyOf Tryz.f224,[.tmp 4],[2]⟩:=fA Tryz.func224
def e224:Int->AV:=λr=> .v (.int .i64 r)
theorem w224(cp:CallP)(fu:Nat)(x1:Int)(x2:Int):J (go prog noC cp noI 0 [] d224 fu (fin prog [.tmp 4] [2]) (bodyOf Tryz.f224) (initE 0 [.v (.int .i64 x1),.v (.int .i64 x2)]) [] []) (ewise_intOf_4 fu x1 x2) e224:=by
 unfold ewise_intOf_4 e224
 have da:=d224_at
 conv=>arg 1;simp only[bodyOf,Tryz.f224]
 have z0:=d224_at
 exact Wk
theorem ok224(fu:Nat)(x1:Int)(x2:Int)(r)(h:ewise_intOf_4 fu x1 x2=some r):PureOK prog 224 [.v (.int .i64 x1),.v (.int .i64 x2)] (e224 r):=pureT mixed [] (ids:=[]) rfl (by decide) i224 (C:=noC) (ci:=λcp=>noI) (λcp ok=>noI_ok) (λcp H=>w224 cp fu x1 x2) h
def d225:TD:=[(0,[4]),(0,[]),(0,[0,1,5,6,7])]
def d225_at:=by have h:=tabL d225.eq_1;simp only[AllAt,Nat.zero_add,Nat.reduceAdd]at h;exact h
theorem i225:finfo prog 225 d225=some ⟨bodyOf Tryz.f225,[.tmp 4],[2]⟩:=fA Tryz.func225
def e225:Int->AV:=λr=> .v (.int .i64 r)
theorem w225(cp:CallP)(fu:Nat)(x1:Int)(x2:Int):J (go prog noC cp noI 0 [] d225 fu (fin prog [.tmp 4] [2]) (bodyOf Tryz.f225) (initE 0 [.v (.int .i64 x1),.v (.int .i64 x2)]) [] []) (ewise_intOf_5 fu x1 x2) e225:=by
 unfold ewise_intOf_5 e225
 have da:=d225_at
 conv=>arg 1;simp only[bodyOf,Tryz.f225]
 have z0:=d225_at
 exact Wk
theorem ok225(fu:Nat)(x1:Int)(x2:Int)(r)(h:ewise_intOf_5 fu x1 x2=some r):PureOK prog 225 [.v (.int .i64 x1),.v (.int .i64 x2)] (e225 r):=pureT mixed [] (ids:=[]) rfl (by decide) i225 (C:=noC) (ci:=λcp=>noI) (λcp ok=>noI_ok) (λcp H=>w225 cp fu x1 x2) h
def d226:TD:=[(0,[4]),(0,[]),(0,[0,1,5,6,7])]
def d226_at:=by have h:=tabL d226.eq_1;simp only[AllAt,Nat.zero_add,Nat.reduceAdd]at h;exact h
theorem i226:finfo prog 226 d226=some ⟨bodyOf Tryz.f226,[.tmp 4],[2]⟩:=fA Tryz.func226
def e226:Int->AV:=λr=> .v (.int .i64 r)
theorem w226(cp:CallP)(fu:Nat)(x1:Int)(x2:Int):J (go prog noC cp noI 0 [] d226 fu (fin prog [.tmp 4] [2]) (bodyOf Tryz.f226) (initE 0 [.v (.int .i64 x1),.v (.int .i64 x2)]) [] []) (ewise_intOf_6 fu x1 x2) e226:=by
 unfold ewise_intOf_6 e226
 have da:=d226_at
 conv=>arg 1;simp only[bodyOf,Tryz.f226]
 have z0:=d226_at
 exact Wk
theorem ok226(fu:Nat)(x1:Int)(x2:Int)(r)(h:ewise_intOf_6 fu x1 x2=some r):PureOK prog 226 [.v (.int .i64 x1),.v (.int .i64 x2)] (e226 r):=pureT mixed [] (ids:=[]) rfl (by decide) i226 (C:=noC) (ci:=λcp=>noI) (λcp ok=>noI_ok) (λcp H=>w226 cp fu x1 x2) h
def d227:TD:=[(0,[4]),(0,[]),(0,[5]),(0,[]),(0,[7,8]),(0,[]),(0,[0,1,9,10,11])]
def d227_at:=by have h:=tabL d227.eq_1;simp only[AllAt,Nat.zero_add,Nat.reduceAdd]at h;exact h
theorem i227:finfo prog 227 d227=some ⟨bodyOf Tryz.f227,[.tmp 4],[2]⟩:=fA Tryz.func227
def e227:Int->AV:=λr=> .v (.int .i64 r)
theorem w227(cp:CallP)(fu:Nat)(x1:Int)(x2:Int):J (go prog noC cp noI 0 [] d227 fu (fin prog [.tmp 4] [2]) (bodyOf Tryz.f227) (initE 0 [.v (.int .i64 x1),.v (.int .i64 x2)]) [] []) (ewise_quotient fu x1 x2) e227:=by
 unfold ewise_quotient e227
 have da:=d227_at
 conv=>arg 1;simp only[bodyOf,Tryz.f227]
 have z0:=d227_at
 exact Wk
theorem ok227(fu:Nat)(x1:Int)(x2:Int)(r)(h:ewise_quotient fu x1 x2=some r):PureOK prog 227 [.v (.int .i64 x1),.v (.int .i64 x2)] (e227 r):=pureT mixed [] (ids:=[]) rfl (by decide) i227 (C:=noC) (ci:=λcp=>noI) (λcp ok=>noI_ok) (λcp H=>w227 cp fu x1 x2) h
def d323:TD:=[(0,[5]),(0,[]),(0,[0,7,8,9,10,11,12,13]),(0,[]),(0,[2,14,15,16,17,18,19,20,21,22,23,24]),(0,[]),(0,[26,27,28]),(0,[]),(0,[1,6,29])]
def d323_at:=by have h:=tabL d323.eq_1;simp only[AllAt,Nat.zero_add,Nat.reduceAdd]at h;exact h
theorem i323:finfo prog 323 d323=some ⟨bodyOf Tryz.f323,[.tmp 5],[2]⟩:=fA Tryz.func323
def e323:Int->AV:=λr=> .v (.int .i64 r)
structure K227 (fu:Nat) (cp:CallP):Prop where
 ap: ∀ {a0:Int} {a1:Int} {r},ewise_quotient fu a0 a1=some r->cp 227 [.v (.int .i64 a0),.v (.int .i64 a1)]=some (.v (.int .i64 r))
noncomputable def C227(fu:Nat):Cm prog (Int×Int) Int:=⟨227,λt=>[.v (.int .i64 t.1),.v (.int .i64 t.2)],λt=>ewise_quotient fu t.1 t.2,e227,λt b h=>ok227 fu t.1 t.2 b h,Zi⟩
theorem u227{fu:Nat}{cp:CallP}(H:Hit cp (C227 fu).ct):K227 fu cp:=⟨λ {a0 a1 r} h=>(C227 fu).at H (a0,a1) r h⟩
theorem w323(cp:CallP)(fu:Nat)(x1:Int)(x2:Int)(x3:Bool)(H1:K227 fu cp):J (go prog noC cp noI 0 [] d323 fu (fin prog [.tmp 5] [2]) (bodyOf Tryz.f323) (initE 0 [.v (.int .i64 x1),.v (.int .i64 x2),.ref [.v (.bool x3)] 0]) [] []) (ewise_remainder_1 fu x1 x2 x3) e323:=by
 unfold ewise_remainder_1 e323
 have da:=d323_at
 conv=>arg 1;simp only[bodyOf,Tryz.f323]
 have z0:=d323_at
 exact Wk
theorem ok323(fu:Nat)(x1:Int)(x2:Int)(x3:Bool)(r)(h:ewise_remainder_1 fu x1 x2 x3=some r):PureOK prog 323 [.v (.int .i64 x1),.v (.int .i64 x2),.ref [.v (.bool x3)] 0] (e323 r):=pureT mixed [(C227 fu).ct] (ids:=[227]) rfl (by decide) i323 (C:=noC) (ci:=λcp=>noI) (λcp ok=>noI_ok) (λcp H=>w323 cp fu x1 x2 x3 (u227 H.1)) h
def d229:TD:=[(0,[4]),(0,[]),(0,[0,1,5,6,7])]
def d229_at:=by have h:=tabL d229.eq_1;simp only[AllAt,Nat.zero_add,Nat.reduceAdd]at h;exact h
theorem i229:finfo prog 229 d229=some ⟨bodyOf Tryz.f229,[.tmp 4],[2]⟩:=fA Tryz.func229
def e229:Int->AV:=λr=> .v (.int .i64 r)
theorem w229(cp:CallP)(fu:Nat)(x1:Int)(x2:Int):J (go prog noC cp noI 0 [] d229 fu (fin prog [.tmp 4] [2]) (bodyOf Tryz.f229) (initE 0 [.v (.int .i64 x1),.v (.int .i64 x2)]) [] []) (ewise_intOf_7 fu x1 x2) e229:=by
 unfold ewise_intOf_7 e229
 have da:=d229_at
 conv=>arg 1;simp only[bodyOf,Tryz.f229]
 have z0:=d229_at
 exact Wk
theorem ok229(fu:Nat)(x1:Int)(x2:Int)(r)(h:ewise_intOf_7 fu x1 x2=some r):PureOK prog 229 [.v (.int .i64 x1),.v (.int .i64 x2)] (e229 r):=pureT mixed [] (ids:=[]) rfl (by decide) i229 (C:=noC) (ci:=λcp=>noI) (λcp ok=>noI_ok) (λcp H=>w229 cp fu x1 x2) h
def d230:TD:=[(0,[4]),(0,[]),(0,[0,1,5,6,7])]
def d230_at:=by have h:=tabL d230.eq_1;simp only[AllAt,Nat.zero_add,Nat.reduceAdd]at h;exact h
theorem i230:finfo prog 230 d230=some ⟨bodyOf Tryz.f230,[.tmp 4],[2]⟩:=fA Tryz.func230
def e230:Int->AV:=λr=> .v (.int .i64 r)
theorem w230(cp:CallP)(fu:Nat)(x1:Int)(x2:Int):J (go prog noC cp noI 0 [] d230 fu (fin prog [.tmp 4] [2]) (bodyOf Tryz.f230) (initE 0 [.v (.int .i64 x1),.v (.int .i64 x2)]) [] []) (ewise_intOf_8 fu x1 x2) e230:=by
 unfold ewise_intOf_8 e230
 have da:=d230_at
 conv=>arg 1;simp only[bodyOf,Tryz.f230]
 have z0:=d230_at
 exact Wk
theorem ok230(fu:Nat)(x1:Int)(x2:Int)(r)(h:ewise_intOf_8 fu x1 x2=some r):PureOK prog 230 [.v (.int .i64 x1),.v (.int .i64 x2)] (e230 r):=pureT mixed [] (ids:=[]) rfl (by decide) i230 (C:=noC) (ci:=λcp=>noI) (λcp ok=>noI_ok) (λcp H=>w230 cp fu x1 x2) h
def d120:TD:=[(0,[4]),(0,[]),(0,[0,1,5,6,7,8])]
def d120_at:=by have h:=tabL d120.eq_1;simp only[AllAt,Nat.zero_add,Nat.reduceAdd]at h;exact h
theorem i120:finfo prog 120 d120=some ⟨bodyOf Tryz.f120,[.tmp 4],[4]⟩:=fA Tryz.func120
def e120:Bool->AV:=λr=> .v (.bool r)
theorem w120(cp:CallP)(fu:Nat)(x1:Bool)(x2:Bool):J (go prog noC cp noI 0 [] d120 fu (fin prog [.tmp 4] [4]) (bodyOf Tryz.f120) (initE 0 [.v (.bool x1),.v (.bool x2)]) [] []) (ewise_kernelOf_3 fu x1 x2) e120:=by
 unfold ewise_kernelOf_3 e120
 have da:=d120_at
 conv=>arg 1;simp only[bodyOf,Tryz.f120]
 have z0:=d120_at
 exact Wk
theorem ok120(fu:Nat)(x1:Bool)(x2:Bool)(r)(h:ewise_kernelOf_3 fu x1 x2=some r):PureOK prog 120 [.v (.bool x1),.v (.bool x2)] (e120 r):=pureT mixed [] (ids:=[]) rfl (by decide) i120 (C:=noC) (ci:=λcp=>noI) (λcp ok=>noI_ok) (λcp H=>w120 cp fu x1 x2) h
def d121:TD:=[(0,[4]),(0,[]),(0,[0,1,5,6,7,8])]
def d121_at:=by have h:=tabL d121.eq_1;simp only[AllAt,Nat.zero_add,Nat.reduceAdd]at h;exact h
theorem i121:finfo prog 121 d121=some ⟨bodyOf Tryz.f121,[.tmp 4],[4]⟩:=fA Tryz.func121
def e121:Bool->AV:=λr=> .v (.bool r)
theorem w121(cp:CallP)(fu:Nat)(x1:Bool)(x2:Bool):J (go prog noC cp noI 0 [] d121 fu (fin prog [.tmp 4] [4]) (bodyOf Tryz.f121) (initE 0 [.v (.bool x1),.v (.bool x2)]) [] []) (ewise_kernelOf_4 fu x1 x2) e121:=by
 unfold ewise_kernelOf_4 e121
 have da:=d121_at
 conv=>arg 1;simp only[bodyOf,Tryz.f121]
 have z0:=d121_at
 exact Wk
theorem ok121(fu:Nat)(x1:Bool)(x2:Bool)(r)(h:ewise_kernelOf_4 fu x1 x2=some r):PureOK prog 121 [.v (.bool x1),.v (.bool x2)] (e121 r):=pureT mixed [] (ids:=[]) rfl (by decide) i121 (C:=noC) (ci:=λcp=>noI) (λcp ok=>noI_ok) (λcp H=>w121 cp fu x1 x2) h
def d122:TD:=[(0,[4]),(0,[]),(0,[0,1,5,6,7])]
def d122_at:=by have h:=tabL d122.eq_1;simp only[AllAt,Nat.zero_add,Nat.reduceAdd]at h;exact h
theorem i122:finfo prog 122 d122=some ⟨bodyOf Tryz.f122,[.tmp 4],[4]⟩:=fA Tryz.func122
def e122:Bool->AV:=λr=> .v (.bool r)
theorem w122(cp:CallP)(fu:Nat)(x1:Bool)(x2:Bool):J (go prog noC cp noI 0 [] d122 fu (fin prog [.tmp 4] [4]) (bodyOf Tryz.f122) (initE 0 [.v (.bool x1),.v (.bool x2)]) [] []) (ewise_kernelOf_5 fu x1 x2) e122:=by
 unfold ewise_kernelOf_5 e122
 have da:=d122_at
 conv=>arg 1;simp only[bodyOf,Tryz.f122]
 have z0:=d122_at
 exact Wk
theorem ok122(fu:Nat)(x1:Bool)(x2:Bool)(r)(h:ewise_kernelOf_5 fu x1 x2=some r):PureOK prog 122 [.v (.bool x1),.v (.bool x2)] (e122 r):=pureT mixed [] (ids:=[]) rfl (by decide) i122 (C:=noC) (ci:=λcp=>noI) (λcp ok=>noI_ok) (λcp H=>w122 cp fu x1 x2) h
def d118:TD:=[(0,[1,4]),(0,[]),(0,[0,5])]
def d118_at:=by have h:=tabL d118.eq_1;simp only[AllAt,Nat.zero_add,Nat.reduceAdd]at h;exact h
theorem i118:finfo prog 118 d118=some ⟨bodyOf Tryz.f118,[.tmp 4],[4]⟩:=fA Tryz.func118
def e118:Bool->AV:=λr=> .v (.bool r)
theorem w118(cp:CallP)(fu:Nat)(x1:Bool)(x2:Bool):J (go prog noC cp noI 0 [] d118 fu (fin prog [.tmp 4] [4]) (bodyOf Tryz.f118) (initE 0 [.v (.bool x1),.v (.bool x2)]) [] []) (ewise_kernelOf_1 fu x1 x2) e118:=by
 unfold ewise_kernelOf_1 e118
 have da:=d118_at
 conv=>arg 1;simp only[bodyOf,Tryz.f118]
 have z0:=d118_at
 exact Wk
theorem ok118(fu:Nat)(x1:Bool)(x2:Bool)(r)(h:ewise_kernelOf_1 fu x1 x2=some r):PureOK prog 118 [.v (.bool x1),.v (.bool x2)] (e118 r):=pureT mixed [] (ids:=[]) rfl (by decide) i118 (C:=noC) (ci:=λcp=>noI) (λcp ok=>noI_ok) (λcp H=>w118 cp fu x1 x2) h
def d127:TD:=[(0,[4]),(0,[]),(0,[0,1,5,6,7])]
def d127_at:=by have h:=tabL d127.eq_1;simp only[AllAt,Nat.zero_add,Nat.reduceAdd]at h;exact h
theorem i127:finfo prog 127 d127=some ⟨bodyOf Tryz.f127,[.tmp 4],[4]⟩:=fA Tryz.func127
def e127:Bool->AV:=λr=> .v (.bool r)
theorem w127(cp:CallP)(fu:Nat)(x1:Bool)(x2:Bool):J (go prog noC cp noI 0 [] d127 fu (fin prog [.tmp 4] [4]) (bodyOf Tryz.f127) (initE 0 [.v (.bool x1),.v (.bool x2)]) [] []) (ewise_kernelOf_8 fu x1 x2) e127:=by
 unfold ewise_kernelOf_8 e127
 have da:=d127_at
 conv=>arg 1;simp only[bodyOf,Tryz.f127]
 have z0:=d127_at
 exact Wk
theorem ok127(fu:Nat)(x1:Bool)(x2:Bool)(r)(h:ewise_kernelOf_8 fu x1 x2=some r):PureOK prog 127 [.v (.bool x1),.v (.bool x2)] (e127 r):=pureT mixed [] (ids:=[]) rfl (by decide) i127 (C:=noC) (ci:=λcp=>noI) (λcp ok=>noI_ok) (λcp H=>w127 cp fu x1 x2) h
def d132:TD:=[(0,[4]),(0,[]),(0,[0,1,5,6,7,8,9,10,11,12])]
def d132_at:=by have h:=tabL d132.eq_1;simp only[AllAt,Nat.zero_add,Nat.reduceAdd]at h;exact h
theorem i132:finfo prog 132 d132=some ⟨bodyOf Tryz.f132,[.tmp 4],[4]⟩:=fA Tryz.func132
def e132:Bool->AV:=λr=> .v (.bool r)
theorem w132(cp:CallP)(fu:Nat)(x1:Int)(x2:Int)(H1:K130 fu cp)(H2:K128 fu cp):J (go prog noC cp noI 0 [] d132 fu (fin prog [.tmp 4] [4]) (bodyOf Tryz.f132) (initE 0 [.v (.int .u32 x1),.v (.int .u32 x2)]) [] []) (ewise_kernelOf_11 fu x1 x2) e132:=by
 unfold ewise_kernelOf_11 e132
 have da:=d132_at
 conv=>arg 1;simp only[bodyOf,Tryz.f132]
 have z0:=d132_at
 exact Wk
theorem ok132(fu:Nat)(x1:Int)(x2:Int)(r)(h:ewise_kernelOf_11 fu x1 x2=some r):PureOK prog 132 [.v (.int .u32 x1),.v (.int .u32 x2)] (e132 r):=pureT mixed [(C130 fu).ct,(C128 fu).ct] (ids:=[130,128]) rfl (by decide) i132 (C:=noC) (ci:=λcp=>noI) (λcp ok=>noI_ok) (λcp H=>w132 cp fu x1 x2 (u130 H.1) (u128 H.2.1)) h
def d134:TD:=[(0,[4]),(0,[]),(0,[0,1,5,6,7])]
def d134_at:=by have h:=tabL d134.eq_1;simp only[AllAt,Nat.zero_add,Nat.reduceAdd]at h;exact h
theorem i134:finfo prog 134 d134=some ⟨bodyOf Tryz.f134,[.tmp 4],[4]⟩:=fA Tryz.func134
def e134:Bool->AV:=λr=> .v (.bool r)
theorem w134(cp:CallP)(fu:Nat)(x1:Int)(x2:Int)(H1:K130 fu cp):J (go prog noC cp noI 0 [] d134 fu (fin prog [.tmp 4] [4]) (bodyOf Tryz.f134) (initE 0 [.v (.int .u32 x1),.v (.int .u32 x2)]) [] []) (ewise_kernelOf_13 fu x1 x2) e134:=by
 unfold ewise_kernelOf_13 e134
 have da:=d134_at
 conv=>arg 1;simp only[bodyOf,Tryz.f134]
 have z0:=d134_at
 exact Wk
theorem ok134(fu:Nat)(x1:Int)(x2:Int)(r)(h:ewise_kernelOf_13 fu x1 x2=some r):PureOK prog 134 [.v (.int .u32 x1),.v (.int .u32 x2)] (e134 r):=pureT mixed [(C130 fu).ct] (ids:=[130]) rfl (by decide) i134 (C:=noC) (ci:=λcp=>noI) (λcp ok=>noI_ok) (λcp H=>w134 cp fu x1 x2 (u130 H.1)) h
def d136:TD:=[(0,[4]),(0,[]),(0,[0,1,5,6,7,8,9,10,11,12])]
def d136_at:=by have h:=tabL d136.eq_1;simp only[AllAt,Nat.zero_add,Nat.reduceAdd]at h;exact h
theorem i136:finfo prog 136 d136=some ⟨bodyOf Tryz.f136,[.tmp 4],[4]⟩:=fA Tryz.func136
def e136:Bool->AV:=λr=> .v (.bool r)
theorem w136(cp:CallP)(fu:Nat)(x1:Int)(x2:Int)(H1:K130 fu cp)(H2:K128 fu cp):J (go prog noC cp noI 0 [] d136 fu (fin prog [.tmp 4] [4]) (bodyOf Tryz.f136) (initE 0 [.v (.int .u32 x1),.v (.int .u32 x2)]) [] []) (ewise_kernelOf_15 fu x1 x2) e136:=by
 unfold ewise_kernelOf_15 e136
 have da:=d136_at
 conv=>arg 1;simp only[bodyOf,Tryz.f136]
 have z0:=d136_at
 exact Wk
theorem ok136(fu:Nat)(x1:Int)(x2:Int)(r)(h:ewise_kernelOf_15 fu x1 x2=some r):PureOK prog 136 [.v (.int .u32 x1),.v (.int .u32 x2)] (e136 r):=pureT mixed [(C130 fu).ct,(C128 fu).ct] (ids:=[130,128]) rfl (by decide) i136 (C:=noC) (ci:=λcp=>noI) (λcp ok=>noI_ok) (λcp H=>w136 cp fu x1 x2 (u130 H.1) (u128 H.2.1)) h
def d129:TD:=[(0,[4]),(0,[]),(0,[0,1,5,6,7])]
def d129_at:=by have h:=tabL d129.eq_1;simp only[AllAt,Nat.zero_add,Nat.reduceAdd]at h;exact h
theorem i129:finfo prog 129 d129=some ⟨bodyOf Tryz.f129,[.tmp 4],[4]⟩:=fA Tryz.func129
def e129:Bool->AV:=λr=> .v (.bool r)
theorem w129(cp:CallP)(fu:Nat)(x1:Int)(x2:Int):J (go prog noC cp noI 0 [] d129 fu (fin prog [.tmp 4] [4]) (bodyOf Tryz.f129) (initE 0 [.v (.int .i64 x1),.v (.int .i64 x2)]) [] []) (ewise_kernelOf_9 fu x1 x2) e129:=by
 unfold ewise_kernelOf_9 e129
 have da:=d129_at
 conv=>arg 1;simp only[bodyOf,Tryz.f129]
 have z0:=d129_at
 exact Wk
theorem ok129(fu:Nat)(x1:Int)(x2:Int)(r)(h:ewise_kernelOf_9 fu x1 x2=some r):PureOK prog 129 [.v (.int .i64 x1),.v (.int .i64 x2)] (e129 r):=pureT mixed [] (ids:=[]) rfl (by decide) i129 (C:=noC) (ci:=λcp=>noI) (λcp ok=>noI_ok) (λcp H=>w129 cp fu x1 x2) h
def d131:TD:=[(0,[4]),(0,[]),(0,[0,1,5,6,7])]
def d131_at:=by have h:=tabL d131.eq_1;simp only[AllAt,Nat.zero_add,Nat.reduceAdd]at h;exact h
theorem i131:finfo prog 131 d131=some ⟨bodyOf Tryz.f131,[.tmp 4],[4]⟩:=fA Tryz.func131
def e131:Bool->AV:=λr=> .v (.bool r)
theorem w131(cp:CallP)(fu:Nat)(x1:Int)(x2:Int):J (go prog noC cp noI 0 [] d131 fu (fin prog [.tmp 4] [4]) (bodyOf Tryz.f131) (initE 0 [.v (.int .i64 x1),.v (.int .i64 x2)]) [] []) (ewise_kernelOf_10 fu x1 x2) e131:=by
 unfold ewise_kernelOf_10 e131
 have da:=d131_at
 conv=>arg 1;simp only[bodyOf,Tryz.f131]
 have z0:=d131_at
 exact Wk
theorem ok131(fu:Nat)(x1:Int)(x2:Int)(r)(h:ewise_kernelOf_10 fu x1 x2=some r):PureOK prog 131 [.v (.int .i64 x1),.v (.int .i64 x2)] (e131 r):=pureT mixed [] (ids:=[]) rfl (by decide) i131 (C:=noC) (ci:=λcp=>noI) (λcp ok=>noI_ok) (λcp H=>w131 cp fu x1 x2) h
def d133:TD:=[(0,[4]),(0,[]),(0,[0,1,5,6,7])]
def d133_at:=by have h:=tabL d133.eq_1;simp only[AllAt,Nat.zero_add,Nat.reduceAdd]at h;exact h
theorem i133:finfo prog 133 d133=some ⟨bodyOf Tryz.f133,[.tmp 4],[4]⟩:=fA Tryz.func133
def e133:Bool->AV:=λr=> .v (.bool r)
theorem w133(cp:CallP)(fu:Nat)(x1:Int)(x2:Int):J (go prog noC cp noI 0 [] d133 fu (fin prog [.tmp 4] [4]) (bodyOf Tryz.f133) (initE 0 [.v (.int .i64 x1),.v (.int .i64 x2)]) [] []) (ewise_kernelOf_12 fu x1 x2) e133:=by
 unfold ewise_kernelOf_12 e133
 have da:=d133_at
 conv=>arg 1;simp only[bodyOf,Tryz.f133]
 have z0:=d133_at
 exact Wk
theorem ok133(fu:Nat)(x1:Int)(x2:Int)(r)(h:ewise_kernelOf_12 fu x1 x2=some r):PureOK prog 133 [.v (.int .i64 x1),.v (.int .i64 x2)] (e133 r):=pureT mixed [] (ids:=[]) rfl (by decide) i133 (C:=noC) (ci:=λcp=>noI) (λcp ok=>noI_ok) (λcp H=>w133 cp fu x1 x2) h
def d135:TD:=[(0,[4]),(0,[]),(0,[0,1,5,6,7])]
def d135_at:=by have h:=tabL d135.eq_1;simp only[AllAt,Nat.zero_add,Nat.reduceAdd]at h;exact h
theorem i135:finfo prog 135 d135=some ⟨bodyOf Tryz.f135,[.tmp 4],[4]⟩:=fA Tryz.func135
def e135:Bool->AV:=λr=> .v (.bool r)
theorem w135(cp:CallP)(fu:Nat)(x1:Int)(x2:Int):J (go prog noC cp noI 0 [] d135 fu (fin prog [.tmp 4] [4]) (bodyOf Tryz.f135) (initE 0 [.v (.int .i64 x1),.v (.int .i64 x2)]) [] []) (ewise_kernelOf_14 fu x1 x2) e135:=by
 unfold ewise_kernelOf_14 e135
 have da:=d135_at
 conv=>arg 1;simp only[bodyOf,Tryz.f135]
 have z0:=d135_at
 exact Wk
theorem ok135(fu:Nat)(x1:Int)(x2:Int)(r)(h:ewise_kernelOf_14 fu x1 x2=some r):PureOK prog 135 [.v (.int .i64 x1),.v (.int .i64 x2)] (e135 r):=pureT mixed [] (ids:=[]) rfl (by decide) i135 (C:=noC) (ci:=λcp=>noI) (λcp ok=>noI_ok) (λcp H=>w135 cp fu x1 x2) h
def d137:TD:=[(0,[4]),(0,[]),(0,[0,1,5,6,7])]
def d137_at:=by have h:=tabL d137.eq_1;simp only[AllAt,Nat.zero_add,Nat.reduceAdd]at h;exact h
theorem i137:finfo prog 137 d137=some ⟨bodyOf Tryz.f137,[.tmp 4],[4]⟩:=fA Tryz.func137
def e137:Bool->AV:=λr=> .v (.bool r)
theorem w137(cp:CallP)(fu:Nat)(x1:Int)(x2:Int):J (go prog noC cp noI 0 [] d137 fu (fin prog [.tmp 4] [4]) (bodyOf Tryz.f137) (initE 0 [.v (.int .i64 x1),.v (.int .i64 x2)]) [] []) (ewise_kernelOf_16 fu x1 x2) e137:=by
 unfold ewise_kernelOf_16 e137
 have da:=d137_at
 conv=>arg 1;simp only[bodyOf,Tryz.f137]
 have z0:=d137_at
 exact Wk
theorem ok137(fu:Nat)(x1:Int)(x2:Int)(r)(h:ewise_kernelOf_16 fu x1 x2=some r):PureOK prog 137 [.v (.int .i64 x1),.v (.int .i64 x2)] (e137 r):=pureT mixed [] (ids:=[]) rfl (by decide) i137 (C:=noC) (ci:=λcp=>noI) (λcp ok=>noI_ok) (λcp H=>w137 cp fu x1 x2) h
def kf56_0(x:Int)(s:T_Setting):AV:=if x=28 then .fn 216 [] []else if x=29 then .fn 212 [] []else if x=30 then .fn 209 [] []else if x=31 then .fn 204 [] []else if x=32 then .fn 217 [] []else if x=33 then .fn 218 [] []else if x=34 then .fn 215 [] []else if x=35 then .fn 206 [] []else if x=36 then .fn 306 [] [.ref [.fn 210 [] []] 0]else .fn 299 [] [.ref [.fn 322 [] []] 0]
def kf56_1(x:Int)(s:T_Setting):AV:=if x=28 then .fn 224 [] []else if x=29 then .fn 225 [] []else if x=30 then .fn 226 [] []else if x=31 then .fn 227 [] []else if x=32 then .fn 323 [] [.ref [.v (.bool s.fFmod)] 0]else if x=34 then .fn 229 [] []else if x=35 then .fn 230 [] []else .fn 231 [] []
def kf56_2(x:Int)(s:T_Setting):AV:=if x=23 then .fn 120 [] []else if x=24 then .fn 121 [] []else if x=25 then .fn 122 [] []else if x=37 then .fn 127 [] []else .fn 118 [] []
def kf56_3(x:Int)(s:T_Setting):AV:=if x=37 then .fn 128 [] []else if x=38 then .fn 130 [] []else if x=39 then .fn 132 [] []else if x=40 then .fn 134 [] []else if x=41 then .fn 136 [] []else .v .nilFunc
def kf56_4(x:Int)(s:T_Setting):AV:=if x=37 then .fn 129 [] []else if x=38 then .fn 131 [] []else if x=39 then .fn 133 [] []else if x=40 then .fn 135 [] []else if x=41 then .fn 137 [] []else .v .nilFunc
def e56:(Int×T_Setting)->AV:=λr=> .agg [kf56_0 r.1 r.2,kf56_1 r.1 r.2,kf56_2 r.1 r.2,kf56_3 r.1 r.2,kf56_4 r.1 r.2]
theorem ok56(fu:Nat)(x1:Int)(x2:T_Setting)(r)(h:ewise_kernelOf fu x1 x2=some r):PureOK prog 56 [.v (.int .i64 x1),.agg (c_T_Setting x2)] (e56 r):=by
  unfold ewise_kernelOf chk at h;split at h
  · rename_i hx;injection h with h;subst h
    rcases hx with rfl|rfl|rfl|rfl|rfl|rfl|rfl|rfl|rfl|rfl|rfl|rfl|rfl|rfl|rfl|rfl|rfl
    · exact Aw.c81_ok 56 _ _ (by kernel_rfl)
    · exact Aw.c81_ok 56 _ _ (by kernel_rfl)
    · exact Aw.c81_ok 56 _ _ (by kernel_rfl)
    · exact Aw.c81_ok 56 _ _ (by kernel_rfl)
    · exact Aw.c81_ok 56 _ _ (by kernel_rfl)
    · exact Aw.c81_ok 56 _ _ (by kernel_rfl)
    · exact Aw.c81_ok 56 _ _ (by kernel_rfl)
    · exact Aw.c81_ok 56 _ _ (by kernel_rfl)
    · exact Aw.c81_ok 56 _ _ (by kernel_rfl)
    · exact Aw.c81_ok 56 _ _ (by kernel_rfl)
    · exact Aw.c81_ok 56 _ _ (by kernel_rfl)
    · exact Aw.c81_ok 56 _ _ (by kernel_rfl)
    · exact Aw.c81_ok 56 _ _ (by kernel_rfl)
    · exact Aw.c81_ok 56 _ _ (by kernel_rfl)
    · exact Aw.c81_ok 56 _ _ (by kernel_rfl)
    · exact Aw.c81_ok 56 _ _ (by kernel_rfl)
    · exact Aw.c81_ok 56 _ _ (by kernel_rfl)
  · cases h
theorem kf_one0{x:Int}{s:T_Setting}:AV.one (kf56_0 x s)=true:=by unfold kf56_0;repeat' first|refine kifQ (Q:=λf=>AV.one f=true) ?_ ?_ |rfl
theorem kf_imp0{x:Int}{s:T_Setting}{l d n:Nat}{t:Nat×Heap}:importR l d n (kf56_0 x s) t=some (kf56_0 x s,t):=by unfold kf56_0;repeat' first|refine kifQ (Q:=λf=>importR l d n f t=some (f,t)) ?_ ?_ |(cases n <;> rfl)
theorem kf_one1{x:Int}{s:T_Setting}:AV.one (kf56_1 x s)=true:=by unfold kf56_1;repeat' first|refine kifQ (Q:=λf=>AV.one f=true) ?_ ?_ |rfl
theorem kf_imp1{x:Int}{s:T_Setting}{l d n:Nat}{t:Nat×Heap}:importR l d n (kf56_1 x s) t=some (kf56_1 x s,t):=by unfold kf56_1;repeat' first|refine kifQ (Q:=λf=>importR l d n f t=some (f,t)) ?_ ?_ |(cases n <;> rfl)
theorem kf_one2{x:Int}{s:T_Setting}:AV.one (kf56_2 x s)=true:=by unfold kf56_2;repeat' first|refine kifQ (Q:=λf=>AV.one f=true) ?_ ?_ |rfl
theorem kf_imp2{x:Int}{s:T_Setting}{l d n:Nat}{t:Nat×Heap}:importR l d n (kf56_2 x s) t=some (kf56_2 x s,t):=by unfold kf56_2;repeat' first|refine kifQ (Q:=λf=>importR l d n f t=some (f,t)) ?_ ?_ |(cases n <;> rfl)
theorem kf_one3{x:Int}{s:T_Setting}:AV.one (kf56_3 x s)=true:=by unfold kf56_3;repeat' first|refine kifQ (Q:=λf=>AV.one f=true) ?_ ?_ |rfl
theorem kf_imp3{x:Int}{s:T_Setting}{l d n:Nat}{t:Nat×Heap}:importR l d n (kf56_3 x s) t=some (kf56_3 x s,t):=by unfold kf56_3;repeat' first|refine kifQ (Q:=λf=>importR l d n f t=some (f,t)) ?_ ?_ |(cases n <;> rfl)
theorem kf_one4{x:Int}{s:T_Setting}:AV.one (kf56_4 x s)=true:=by unfold kf56_4;repeat' first|refine kifQ (Q:=λf=>AV.one f=true) ?_ ?_ |rfl
theorem kf_imp4{x:Int}{s:T_Setting}{l d n:Nat}{t:Nat×Heap}:importR l d n (kf56_4 x s) t=some (kf56_4 x s,t):=by unfold kf56_4;repeat' first|refine kifQ (Q:=λf=>importR l d n f t=some (f,t)) ?_ ?_ |(cases n <;> rfl)
theorem kf_nm0{x:Int}{s:T_Setting}{id:Id}{d:Nat}:names id (d+1) (kf56_0 x s)=false:=by unfold kf56_0;repeat' first|refine kifQ (Q:=λf=>names id (d+1) f=false) ?_ ?_ |rfl|(cases d <;> rfl)
theorem kf_nm1{x:Int}{s:T_Setting}{id:Id}{d:Nat}:names id (d+1) (kf56_1 x s)=false:=by unfold kf56_1;repeat' first|refine kifQ (Q:=λf=>names id (d+1) f=false) ?_ ?_ |rfl|(cases d <;> rfl)
theorem kf_nm2{x:Int}{s:T_Setting}{id:Id}{d:Nat}:names id (d+1) (kf56_2 x s)=false:=by unfold kf56_2;repeat' first|refine kifQ (Q:=λf=>names id (d+1) f=false) ?_ ?_ |rfl|(cases d <;> rfl)
theorem kf_nm3{x:Int}{s:T_Setting}{id:Id}{d:Nat}:names id (d+1) (kf56_3 x s)=false:=by unfold kf56_3;repeat' first|refine kifQ (Q:=λf=>names id (d+1) f=false) ?_ ?_ |rfl|(cases d <;> rfl)
theorem kf_nm4{x:Int}{s:T_Setting}{id:Id}{d:Nat}:names id (d+1) (kf56_4 x s)=false:=by unfold kf56_4;repeat' first|refine kifQ (Q:=λf=>names id (d+1) f=false) ?_ ?_ |rfl|(cases d <;> rfl)
theorem kf_qo0{x:Int}{s:T_Setting}{l d:Nat}{h:Heap}:qo l d h (some (kf56_0 x s))=some (kf56_0 x s,h):=by show(importR l d 4 (kf56_0 x s) (0,h)).bind _=_;rw[kf_imp0];rfl
theorem kf_qo1{x:Int}{s:T_Setting}{l d:Nat}{h:Heap}:qo l d h (some (kf56_1 x s))=some (kf56_1 x s,h):=by show(importR l d 4 (kf56_1 x s) (0,h)).bind _=_;rw[kf_imp1];rfl
theorem kf_qo2{x:Int}{s:T_Setting}{l d:Nat}{h:Heap}:qo l d h (some (kf56_2 x s))=some (kf56_2 x s,h):=by show(importR l d 4 (kf56_2 x s) (0,h)).bind _=_;rw[kf_imp2];rfl
theorem kf_qo3{x:Int}{s:T_Setting}{l d:Nat}{h:Heap}:qo l d h (some (kf56_3 x s))=some (kf56_3 x s,h):=by show(importR l d 4 (kf56_3 x s) (0,h)).bind _=_;rw[kf_imp3];rfl
theorem kf_qo4{x:Int}{s:T_Setting}{l d:Nat}{h:Heap}:qo l d h (some (kf56_4 x s))=some (kf56_4 x s,h):=by show(importR l d 4 (kf56_4 x s) (0,h)).bind _=_;rw[kf_imp4];rfl
theorem kf_app0{C:Cfg}(hC:[216,212,209,204,217,218,215,206,306,299].all (fun k=>C.inl k==false)=true){cp:CallP}{ci:CallI}{lvl dd:Nat}{h:Heap}{x:Int}{s:T_Setting}{a b:Int}:fnX C cp ci lvl dd h (some [.v (.int .u32 a),.v (.int .u32 b)]) (kf56_0 x s)=callX lvl dd h ((fnApp cp [.v (.int .u32 a),.v (.int .u32 b)] (kf56_0 x s)).map fun r=>(r,[])):=by
  simp only[List.all_cons,List.all_nil,Bool.and_true,Bool.and_eq_true,beq_iff_eq]at hC
  unfold kf56_0;repeat' first|refine kifQ (Q:=λf=>fnX C cp ci lvl dd h (some [.v (.int .u32 a),.v (.int .u32 b)]) f=callX lvl dd h ((fnApp cp [.v (.int .u32 a),.v (.int .u32 b)] f).map λr=>(r,[]))) ?_ ?_ |exact fnX_app (by simp only[hC]) (by first|exact Capt.nil|exact Capt.ref Capt.nil)|rfl
theorem kf_app1{C:Cfg}(hC:[224,225,226,227,323,229,230,231].all (fun k=>C.inl k==false)=true){cp:CallP}{ci:CallI}{lvl dd:Nat}{h:Heap}{x:Int}{s:T_Setting}{a b:Int}:fnX C cp ci lvl dd h (some [.v (.int .i64 a),.v (.int .i64 b)]) (kf56_1 x s)=callX lvl dd h ((fnApp cp [.v (.int .i64 a),.v (.int .i64 b)] (kf56_1 x s)).map fun r=>(r,[])):=by
  simp only[List.all_cons,List.all_nil,Bool.and_true,Bool.and_eq_true,beq_iff_eq]at hC
  unfold kf56_1;repeat' first|refine kifQ (Q:=λf=>fnX C cp ci lvl dd h (some [.v (.int .i64 a),.v (.int .i64 b)]) f=callX lvl dd h ((fnApp cp [.v (.int .i64 a),.v (.int .i64 b)] f).map λr=>(r,[]))) ?_ ?_ |exact fnX_app (by simp only[hC]) (by first|exact Capt.nil|exact Capt.ref Capt.nil)|rfl
theorem kf_app2{C:Cfg}(hC:[120,121,122,127,118].all (fun k=>C.inl k==false)=true){cp:CallP}{ci:CallI}{lvl dd:Nat}{h:Heap}{x:Int}{s:T_Setting}{a b:Bool}:fnX C cp ci lvl dd h (some [.v (.bool a),.v (.bool b)]) (kf56_2 x s)=callX lvl dd h ((fnApp cp [.v (.bool a),.v (.bool b)] (kf56_2 x s)).map fun r=>(r,[])):=by
  simp only[List.all_cons,List.all_nil,Bool.and_true,Bool.and_eq_true,beq_iff_eq]at hC
  unfold kf56_2;repeat' first|refine kifQ (Q:=λf=>fnX C cp ci lvl dd h (some [.v (.bool a),.v (.bool b)]) f=callX lvl dd h ((fnApp cp [.v (.bool a),.v (.bool b)] f).map λr=>(r,[]))) ?_ ?_ |exact fnX_app (by simp only[hC]) (by first|exact Capt.nil|exact Capt.ref Capt.nil)|rfl
theorem kf_app3{C:Cfg}(hC:[128,130,132,134,136].all (fun k=>C.inl k==false)=true){cp:CallP}{ci:CallI}{lvl dd:Nat}{h:Heap}{x:Int}{s:T_Setting}{a b:Int}:fnX C cp ci lvl dd h (some [.v (.int .u32 a),.v (.int .u32 b)]) (kf56_3 x s)=callX lvl dd h ((fnApp cp [.v (.int .u32 a),.v (.int .u32 b)] (kf56_3 x s)).map fun r=>(r,[])):=by
  simp only[List.all_cons,List.all_nil,Bool.and_true,Bool.and_eq_true,beq_iff_eq]at hC
  unfold kf56_3;repeat' first|refine kifQ (Q:=λf=>fnX C cp ci lvl dd h (some [.v (.int .u32 a),.v (.int .u32 b)]) f=callX lvl dd h ((fnApp cp [.v (.int .u32 a),.v (.int .u32 b)] f).map λr=>(r,[]))) ?_ ?_ |exact fnX_app (by simp only[hC]) (by first|exact Capt.nil|exact Capt.ref Capt.nil)|rfl
theorem kf_app4{C:Cfg}(hC:[129,131,133,135,137].all (fun k=>C.inl k==false)=true){cp:CallP}{ci:CallI}{lvl dd:Nat}{h:Heap}{x:Int}{s:T_Setting}{a b:Int}:fnX C cp ci lvl dd h (some [.v (.int .i64 a),.v (.int .i64 b)]) (kf56_4 x s)=callX lvl dd h ((fnApp cp [.v (.int .i64 a),.v (.int .i64 b)] (kf56_4 x s)).map fun r=>(r,[])):=by
  simp only[List.all_cons,List.all_nil,Bool.and_true,Bool.and_eq_true,beq_iff_eq]at hC
  unfold kf56_4;repeat' first|refine kifQ (Q:=λf=>fnX C cp ci lvl dd h (some [.v (.int .i64 a),.v (.int .i64 b)]) f=callX lvl dd h ((fnApp cp [.v (.int .i64 a),.v (.int .i64 b)] f).map λr=>(r,[]))) ?_ ?_ |exact fnX_app (by simp only[hC]) (by first|exact Capt.nil|exact Capt.ref Capt.nil)|rfl
theorem kf_appQ0{C:Cfg}(hC:[216,212,209,204,217,218,215,206,306,299].all (fun k=>C.inl k==false)=true){cp:CallP}{g:Id→Option Blk}{x:Int}{s:T_Setting}{a b:Int}:fnQ C cp g (some [.v (.int .u32 a),.v (.int .u32 b)]) (kf56_0 x s)=fnApp cp [.v (.int .u32 a),.v (.int .u32 b)] (kf56_0 x s):=by
  simp only[List.all_cons,List.all_nil,Bool.and_true,Bool.and_eq_true,beq_iff_eq]at hC
  unfold kf56_0;repeat' first|refine kifQ (Q:=λf=>fnQ C cp g (some [.v (.int .u32 a),.v (.int .u32 b)]) f=fnApp cp [.v (.int .u32 a),.v (.int .u32 b)] f) ?_ ?_ |exact fnQ_app (by simp only[hC]) (by first|exact Capt.nil|exact Capt.ref Capt.nil)|rfl
theorem kf_appQ1{C:Cfg}(hC:[224,225,226,227,323,229,230,231].all (fun k=>C.inl k==false)=true){cp:CallP}{g:Id→Option Blk}{x:Int}{s:T_Setting}{a b:Int}:fnQ C cp g (some [.v (.int .i64 a),.v (.int .i64 b)]) (kf56_1 x s)=fnApp cp [.v (.int .i64 a),.v (.int .i64 b)] (kf56_1 x s):=by
  simp only[List.all_cons,List.all_nil,Bool.and_true,Bool.and_eq_true,beq_iff_eq]at hC
  unfold kf56_1;repeat' first|refine kifQ (Q:=λf=>fnQ C cp g (some [.v (.int .i64 a),.v (.int .i64 b)]) f=fnApp cp [.v (.int .i64 a),.v (.int .i64 b)] f) ?_ ?_ |exact fnQ_app (by simp only[hC]) (by first|exact Capt.nil|exact Capt.ref Capt.nil)|rfl
theorem kf_appQ2{C:Cfg}(hC:[120,121,122,127,118].all (fun k=>C.inl k==false)=true){cp:CallP}{g:Id→Option Blk}{x:Int}{s:T_Setting}{a b:Bool}:fnQ C cp g (some [.v (.bool a),.v (.bool b)]) (kf56_2 x s)=fnApp cp [.v (.bool a),.v (.bool b)] (kf56_2 x s):=by
  simp only[List.all_cons,List.all_nil,Bool.and_true,Bool.and_eq_true,beq_iff_eq]at hC
  unfold kf56_2;repeat' first|refine kifQ (Q:=λf=>fnQ C cp g (some [.v (.bool a),.v (.bool b)]) f=fnApp cp [.v (.bool a),.v (.bool b)] f) ?_ ?_ |exact fnQ_app (by simp only[hC]) (by first|exact Capt.nil|exact Capt.ref Capt.nil)|rfl
theorem kf_appQ3{C:Cfg}(hC:[128,130,132,134,136].all (fun k=>C.inl k==false)=true){cp:CallP}{g:Id→Option Blk}{x:Int}{s:T_Setting}{a b:Int}:fnQ C cp g (some [.v (.int .u32 a),.v (.int .u32 b)]) (kf56_3 x s)=fnApp cp [.v (.int .u32 a),.v (.int .u32 b)] (kf56_3 x s):=by
  simp only[List.all_cons,List.all_nil,Bool.and_true,Bool.and_eq_true,beq_iff_eq]at hC
  unfold kf56_3;repeat' first|refine kifQ (Q:=λf=>fnQ C cp g (some [.v (.int .u32 a),.v (.int .u32 b)]) f=fnApp cp [.v (.int .u32 a),.v (.int .u32 b)] f) ?_ ?_ |exact fnQ_app (by simp only[hC]) (by first|exact Capt.nil|exact Capt.ref Capt.nil)|rfl
theorem kf_appQ4{C:Cfg}(hC:[129,131,133,135,137].all (fun k=>C.inl k==false)=true){cp:CallP}{g:Id→Option Blk}{x:Int}{s:T_Setting}{a b:Int}:fnQ C cp g (some [.v (.int .i64 a),.v (.int .i64 b)]) (kf56_4 x s)=fnApp cp [.v (.int .i64 a),.v (.int .i64 b)] (kf56_4 x s):=by
  simp only[List.all_cons,List.all_nil,Bool.and_true,Bool.and_eq_true,beq_iff_eq]at hC
  unfold kf56_4;repeat' first|refine kifQ (Q:=λf=>fnQ C cp g (some [.v (.int .i64 a),.v (.int .i64 b)]) f=fnApp cp [.v (.int .i64 a),.v (.int .i64 b)] f) ?_ ?_ |exact fnQ_app (by simp only[hC]) (by first|exact Capt.nil|exact Capt.ref Capt.nil)|rfl
theorem kt299_ok(fu k:Nat)(x1:Int)(x2:Int)(r)(h:kt299 fu k x1 x2=some r):PureOK prog 299 [.v (.int .u32 x1),.v (.int .u32 x2),.ref [.fn k [] []] 0] (e299 r):=by
  unfold kt299 at h
  by_cases hk:k=322
  · subst hk;rw[if_pos rfl]at h;exact ok299 fu x1 x2 _ 322 _ Capt.nil (λy0 r h=>ok322 fu y0 r h) r h
  rw[if_neg hk]at h;clear hk
  cases h
structure Kt299 (fu:Nat) (cp:CallP):Prop where
 ap: ∀ {k:Nat} {x1:Int} {x2:Int} {r},kt299 fu k x1 x2=some r->cp 299 [.v (.int .u32 x1),.v (.int .u32 x2),.ref [.fn k [] []] 0]=some (e299 r)
noncomputable def Ct299(fu:Nat):Cm prog (Nat×Int×Int) Int:=⟨299,λt=>[.v (.int .u32 t.2.1),.v (.int .u32 t.2.2),.ref [.fn t.1 [] []] 0],λt=>kt299 fu t.1 t.2.1 t.2.2,e299,λt b h=>kt299_ok fu t.1 t.2.1 t.2.2 b h,Zi⟩
theorem ut299{fu:Nat}{cp:CallP}(H:Hit cp (Ct299 fu).ct):Kt299 fu cp:=⟨λ {k x1 x2 r} h=>(Ct299 fu).at H (k,x1,x2) r h⟩
theorem kt306_ok(fu k:Nat)(x1:Int)(x2:Int)(r)(h:kt306 fu k x1 x2=some r):PureOK prog 306 [.v (.int .u32 x1),.v (.int .u32 x2),.ref [.fn k [] []] 0] (e306 r):=by
  unfold kt306 at h
  by_cases hk:k=210
  · subst hk;rw[if_pos rfl]at h;exact ok306 fu x1 x2 _ 210 _ rfl Capt.nil (λy0 y1 r h=>ok210 fu y0 y1 r h) r h
  rw[if_neg hk]at h;clear hk
  cases h
structure Kt306 (fu:Nat) (cp:CallP):Prop where
 ap: ∀ {k:Nat} {x1:Int} {x2:Int} {r},kt306 fu k x1 x2=some r->cp 306 [.v (.int .u32 x1),.v (.int .u32 x2),.ref [.fn k [] []] 0]=some (e306 r)
noncomputable def Ct306(fu:Nat):Cm prog (Nat×Int×Int) Int:=⟨306,λt=>[.v (.int .u32 t.2.1),.v (.int .u32 t.2.2),.ref [.fn t.1 [] []] 0],λt=>kt306 fu t.1 t.2.1 t.2.2,e306,λt b h=>kt306_ok fu t.1 t.2.1 t.2.2 b h,Zi⟩
theorem ut306{fu:Nat}{cp:CallP}(H:Hit cp (Ct306 fu).ct):Kt306 fu cp:=⟨λ {k x1 x2 r} h=>(Ct306 fu).at H (k,x1,x2) r h⟩
structure K217 (fu:Nat) (cp:CallP):Prop where
 ap: ∀ {a0:Int} {a1:Int} {r},ewise_rest fu a0 a1=some r->cp 217 [.v (.int .u32 a0),.v (.int .u32 a1)]=some (.v (.int .u32 r))
noncomputable def C217(fu:Nat):Cm prog (Int×Int) Int:=⟨217,λt=>[.v (.int .u32 t.1),.v (.int .u32 t.2)],λt=>ewise_rest fu t.1 t.2,e217,λt b h=>ok217 fu t.1 t.2 b h,Zi⟩
theorem u217{fu:Nat}{cp:CallP}(H:Hit cp (C217 fu).ct):K217 fu cp:=⟨λ {a0 a1 r} h=>(C217 fu).at H (a0,a1) r h⟩
structure K218 (fu:Nat) (cp:CallP):Prop where
 ap: ∀ {a0:Int} {a1:Int} {r},elem_Pow fu a0 a1=some r->cp 218 [.v (.int .u32 a0),.v (.int .u32 a1)]=some (.v (.int .u32 r))
noncomputable def C218(fu:Nat):Cm prog (Int×Int) Int:=⟨218,λt=>[.v (.int .u32 t.1),.v (.int .u32 t.2)],λt=>elem_Pow fu t.1 t.2,e218,λt b h=>ok218 fu t.1 t.2 b h,Zi⟩
theorem u218{fu:Nat}{cp:CallP}(H:Hit cp (C218 fu).ct):K218 fu cp:=⟨λ {a0 a1 r} h=>(C218 fu).at H (a0,a1) r h⟩
structure K215 (fu:Nat) (cp:CallP):Prop where
 ap: ∀ {a0:Int} {a1:Int} {r},soft_Min fu a0 a1=some r->cp 215 [.v (.int .u32 a0),.v (.int .u32 a1)]=some (.v (.int .u32 r))
noncomputable def C215(fu:Nat):Cm prog (Int×Int) Int:=⟨215,λt=>[.v (.int .u32 t.1),.v (.int .u32 t.2)],λt=>soft_Min fu t.1 t.2,e215,λt b h=>ok215 fu t.1 t.2 b h,Zi⟩
theorem u215{fu:Nat}{cp:CallP}(H:Hit cp (C215 fu).ct):K215 fu cp:=⟨λ {a0 a1 r} h=>(C215 fu).at H (a0,a1) r h⟩
structure K206 (fu:Nat) (cp:CallP):Prop where
 ap: ∀ {a0:Int} {a1:Int} {r},soft_Max fu a0 a1=some r->cp 206 [.v (.int .u32 a0),.v (.int .u32 a1)]=some (.v (.int .u32 r))
noncomputable def C206(fu:Nat):Cm prog (Int×Int) Int:=⟨206,λt=>[.v (.int .u32 t.1),.v (.int .u32 t.2)],λt=>soft_Max fu t.1 t.2,e206,λt b h=>ok206 fu t.1 t.2 b h,Zi⟩
theorem u206{fu:Nat}{cp:CallP}(H:Hit cp (C206 fu).ct):K206 fu cp:=⟨λ {a0 a1 r} h=>(C206 fu).at H (a0,a1) r h⟩
def kq56_0(cp:CallP)(a b:Int)(r:Int)(f:AV):Prop:=fnApp cp [.v (.int .u32 a),.v (.int .u32 b)] f=some (.v (.int .u32 r))
structure Kk56_0 (fu:Nat) (cp:CallP):Prop where
 ap: ∀ {x:Int} {s:T_Setting} {a b:Int} {r:Int},kc56_0 fu x s a b=some r->fnApp cp [.v (.int .u32 a),.v (.int .u32 b)] (kf56_0 x s)=some (.v (.int .u32 r))
theorem kk56_0{fu:Nat}{cp:CallP}(H216:K216 fu cp)(H212:K212 fu cp)(H209:K209 fu cp)(H204:K204 fu cp)(H217:K217 fu cp)(H218:K218 fu cp)(H215:K215 fu cp)(H206:K206 fu cp)(H306:Kt306 fu cp)(H299:Kt299 fu cp):Kk56_0 fu cp:=⟨fun {x s a b r} h=>by
  unfold kc56_0 at h
  exact kif (Q:=kq56_0 cp a b r) (λh=>H216.ap h) (λh=>kif (Q:=kq56_0 cp a b r) (λh=>H212.ap h) (λh=>kif (Q:=kq56_0 cp a b r) (λh=>H209.ap h) (λh=>kif (Q:=kq56_0 cp a b r) (λh=>H204.ap h) (λh=>kif (Q:=kq56_0 cp a b r) (λh=>H217.ap h) (λh=>kif (Q:=kq56_0 cp a b r) (λh=>H218.ap h) (λh=>kif (Q:=kq56_0 cp a b r) (λh=>H215.ap h) (λh=>kif (Q:=kq56_0 cp a b r) (λh=>H206.ap h) (λh=>kif (Q:=kq56_0 cp a b r) (λh=>H306.ap h) (λh=>((λh=>H299.ap h) h)) h) h) h) h) h) h) h) h) h⟩
structure K224 (fu:Nat) (cp:CallP):Prop where
 ap: ∀ {a0:Int} {a1:Int} {r},ewise_intOf_4 fu a0 a1=some r->cp 224 [.v (.int .i64 a0),.v (.int .i64 a1)]=some (.v (.int .i64 r))
noncomputable def C224(fu:Nat):Cm prog (Int×Int) Int:=⟨224,λt=>[.v (.int .i64 t.1),.v (.int .i64 t.2)],λt=>ewise_intOf_4 fu t.1 t.2,e224,λt b h=>ok224 fu t.1 t.2 b h,Zi⟩
theorem u224{fu:Nat}{cp:CallP}(H:Hit cp (C224 fu).ct):K224 fu cp:=⟨λ {a0 a1 r} h=>(C224 fu).at H (a0,a1) r h⟩
structure K225 (fu:Nat) (cp:CallP):Prop where
 ap: ∀ {a0:Int} {a1:Int} {r},ewise_intOf_5 fu a0 a1=some r->cp 225 [.v (.int .i64 a0),.v (.int .i64 a1)]=some (.v (.int .i64 r))
noncomputable def C225(fu:Nat):Cm prog (Int×Int) Int:=⟨225,λt=>[.v (.int .i64 t.1),.v (.int .i64 t.2)],λt=>ewise_intOf_5 fu t.1 t.2,e225,λt b h=>ok225 fu t.1 t.2 b h,Zi⟩
theorem u225{fu:Nat}{cp:CallP}(H:Hit cp (C225 fu).ct):K225 fu cp:=⟨λ {a0 a1 r} h=>(C225 fu).at H (a0,a1) r h⟩
structure K226 (fu:Nat) (cp:CallP):Prop where
 ap: ∀ {a0:Int} {a1:Int} {r},ewise_intOf_6 fu a0 a1=some r->cp 226 [.v (.int .i64 a0),.v (.int .i64 a1)]=some (.v (.int .i64 r))
noncomputable def C226(fu:Nat):Cm prog (Int×Int) Int:=⟨226,λt=>[.v (.int .i64 t.1),.v (.int .i64 t.2)],λt=>ewise_intOf_6 fu t.1 t.2,e226,λt b h=>ok226 fu t.1 t.2 b h,Zi⟩
theorem u226{fu:Nat}{cp:CallP}(H:Hit cp (C226 fu).ct):K226 fu cp:=⟨λ {a0 a1 r} h=>(C226 fu).at H (a0,a1) r h⟩
structure K323 (fu:Nat) (cp:CallP):Prop where
 ap: ∀ {a0:Int} {a1:Int} {a2:Bool} {r},ewise_remainder_1 fu a0 a1 a2=some r->cp 323 [.v (.int .i64 a0),.v (.int .i64 a1),.ref [.v (.bool a2)] 0]=some (.v (.int .i64 r))
noncomputable def C323(fu:Nat):Cm prog (Int×Int×Bool) Int:=⟨323,λt=>[.v (.int .i64 t.1),.v (.int .i64 t.2.1),.ref [.v (.bool t.2.2)] 0],λt=>ewise_remainder_1 fu t.1 t.2.1 t.2.2,e323,λt b h=>ok323 fu t.1 t.2.1 t.2.2 b h,Zi⟩
theorem u323{fu:Nat}{cp:CallP}(H:Hit cp (C323 fu).ct):K323 fu cp:=⟨λ {a0 a1 a2 r} h=>(C323 fu).at H (a0,a1,a2) r h⟩
structure K229 (fu:Nat) (cp:CallP):Prop where
 ap: ∀ {a0:Int} {a1:Int} {r},ewise_intOf_7 fu a0 a1=some r->cp 229 [.v (.int .i64 a0),.v (.int .i64 a1)]=some (.v (.int .i64 r))
noncomputable def C229(fu:Nat):Cm prog (Int×Int) Int:=⟨229,λt=>[.v (.int .i64 t.1),.v (.int .i64 t.2)],λt=>ewise_intOf_7 fu t.1 t.2,e229,λt b h=>ok229 fu t.1 t.2 b h,Zi⟩
theorem u229{fu:Nat}{cp:CallP}(H:Hit cp (C229 fu).ct):K229 fu cp:=⟨λ {a0 a1 r} h=>(C229 fu).at H (a0,a1) r h⟩
structure K230 (fu:Nat) (cp:CallP):Prop where
 ap: ∀ {a0:Int} {a1:Int} {r},ewise_intOf_8 fu a0 a1=some r->cp 230 [.v (.int .i64 a0),.v (.int .i64 a1)]=some (.v (.int .i64 r))
noncomputable def C230(fu:Nat):Cm prog (Int×Int) Int:=⟨230,λt=>[.v (.int .i64 t.1),.v (.int .i64 t.2)],λt=>ewise_intOf_8 fu t.1 t.2,e230,λt b h=>ok230 fu t.1 t.2 b h,Zi⟩
theorem u230{fu:Nat}{cp:CallP}(H:Hit cp (C230 fu).ct):K230 fu cp:=⟨λ {a0 a1 r} h=>(C230 fu).at H (a0,a1) r h⟩
structure K231 (fu:Nat) (cp:CallP):Prop where
 ap: ∀ {a0:Int} {a1:Int} {r},ewise_intOf_9 fu a0 a1=some r->cp 231 [.v (.int .i64 a0),.v (.int .i64 a1)]=some (.v (.int .i64 r))
noncomputable def C231(fu:Nat):Cm prog (Int×Int) Int:=⟨231,λt=>[.v (.int .i64 t.1),.v (.int .i64 t.2)],λt=>ewise_intOf_9 fu t.1 t.2,e231,λt b h=>ok231 fu t.1 t.2 b h,Zi⟩
theorem u231{fu:Nat}{cp:CallP}(H:Hit cp (C231 fu).ct):K231 fu cp:=⟨λ {a0 a1 r} h=>(C231 fu).at H (a0,a1) r h⟩
def kq56_1(cp:CallP)(a b:Int)(r:Int)(f:AV):Prop:=fnApp cp [.v (.int .i64 a),.v (.int .i64 b)] f=some (.v (.int .i64 r))
structure Kk56_1 (fu:Nat) (cp:CallP):Prop where
 ap: ∀ {x:Int} {s:T_Setting} {a b:Int} {r:Int},kc56_1 fu x s a b=some r->fnApp cp [.v (.int .i64 a),.v (.int .i64 b)] (kf56_1 x s)=some (.v (.int .i64 r))
theorem kk56_1{fu:Nat}{cp:CallP}(H224:K224 fu cp)(H225:K225 fu cp)(H226:K226 fu cp)(H227:K227 fu cp)(H323:K323 fu cp)(H229:K229 fu cp)(H230:K230 fu cp)(H231:K231 fu cp):Kk56_1 fu cp:=⟨fun {x s a b r} h=>by
  unfold kc56_1 at h
  exact kif (Q:=kq56_1 cp a b r) (λh=>H224.ap h) (λh=>kif (Q:=kq56_1 cp a b r) (λh=>H225.ap h) (λh=>kif (Q:=kq56_1 cp a b r) (λh=>H226.ap h) (λh=>kif (Q:=kq56_1 cp a b r) (λh=>H227.ap h) (λh=>kif (Q:=kq56_1 cp a b r) (λh=>H323.ap h) (λh=>kif (Q:=kq56_1 cp a b r) (λh=>H229.ap h) (λh=>kif (Q:=kq56_1 cp a b r) (λh=>H230.ap h) (λh=>((λh=>H231.ap h) h)) h) h) h) h) h) h) h⟩
structure K120 (fu:Nat) (cp:CallP):Prop where
 ap: ∀ {a0:Bool} {a1:Bool} {r},ewise_kernelOf_3 fu a0 a1=some r->cp 120 [.v (.bool a0),.v (.bool a1)]=some (.v (.bool r))
noncomputable def C120(fu:Nat):Cm prog (Bool×Bool) Bool:=⟨120,λt=>[.v (.bool t.1),.v (.bool t.2)],λt=>ewise_kernelOf_3 fu t.1 t.2,e120,λt b h=>ok120 fu t.1 t.2 b h,Zi⟩
theorem u120{fu:Nat}{cp:CallP}(H:Hit cp (C120 fu).ct):K120 fu cp:=⟨λ {a0 a1 r} h=>(C120 fu).at H (a0,a1) r h⟩
structure K121 (fu:Nat) (cp:CallP):Prop where
 ap: ∀ {a0:Bool} {a1:Bool} {r},ewise_kernelOf_4 fu a0 a1=some r->cp 121 [.v (.bool a0),.v (.bool a1)]=some (.v (.bool r))
noncomputable def C121(fu:Nat):Cm prog (Bool×Bool) Bool:=⟨121,λt=>[.v (.bool t.1),.v (.bool t.2)],λt=>ewise_kernelOf_4 fu t.1 t.2,e121,λt b h=>ok121 fu t.1 t.2 b h,Zi⟩
theorem u121{fu:Nat}{cp:CallP}(H:Hit cp (C121 fu).ct):K121 fu cp:=⟨λ {a0 a1 r} h=>(C121 fu).at H (a0,a1) r h⟩
structure K122 (fu:Nat) (cp:CallP):Prop where
 ap: ∀ {a0:Bool} {a1:Bool} {r},ewise_kernelOf_5 fu a0 a1=some r->cp 122 [.v (.bool a0),.v (.bool a1)]=some (.v (.bool r))
noncomputable def C122(fu:Nat):Cm prog (Bool×Bool) Bool:=⟨122,λt=>[.v (.bool t.1),.v (.bool t.2)],λt=>ewise_kernelOf_5 fu t.1 t.2,e122,λt b h=>ok122 fu t.1 t.2 b h,Zi⟩
theorem u122{fu:Nat}{cp:CallP}(H:Hit cp (C122 fu).ct):K122 fu cp:=⟨λ {a0 a1 r} h=>(C122 fu).at H (a0,a1) r h⟩
structure K127 (fu:Nat) (cp:CallP):Prop where
 ap: ∀ {a0:Bool} {a1:Bool} {r},ewise_kernelOf_8 fu a0 a1=some r->cp 127 [.v (.bool a0),.v (.bool a1)]=some (.v (.bool r))
noncomputable def C127(fu:Nat):Cm prog (Bool×Bool) Bool:=⟨127,λt=>[.v (.bool t.1),.v (.bool t.2)],λt=>ewise_kernelOf_8 fu t.1 t.2,e127,λt b h=>ok127 fu t.1 t.2 b h,Zi⟩
theorem u127{fu:Nat}{cp:CallP}(H:Hit cp (C127 fu).ct):K127 fu cp:=⟨λ {a0 a1 r} h=>(C127 fu).at H (a0,a1) r h⟩
structure K118 (fu:Nat) (cp:CallP):Prop where
 ap: ∀ {a0:Bool} {a1:Bool} {r},ewise_kernelOf_1 fu a0 a1=some r->cp 118 [.v (.bool a0),.v (.bool a1)]=some (.v (.bool r))
noncomputable def C118(fu:Nat):Cm prog (Bool×Bool) Bool:=⟨118,λt=>[.v (.bool t.1),.v (.bool t.2)],λt=>ewise_kernelOf_1 fu t.1 t.2,e118,λt b h=>ok118 fu t.1 t.2 b h,Zi⟩
theorem u118{fu:Nat}{cp:CallP}(H:Hit cp (C118 fu).ct):K118 fu cp:=⟨λ {a0 a1 r} h=>(C118 fu).at H (a0,a1) r h⟩
def kq56_2(cp:CallP)(a b:Bool)(r:Bool)(f:AV):Prop:=fnApp cp [.v (.bool a),.v (.bool b)] f=some (.v (.bool r))
structure Kk56_2 (fu:Nat) (cp:CallP):Prop where
 ap: ∀ {x:Int} {s:T_Setting} {a b:Bool} {r:Bool},kc56_2 fu x s a b=some r->fnApp cp [.v (.bool a),.v (.bool b)] (kf56_2 x s)=some (.v (.bool r))
theorem kk56_2{fu:Nat}{cp:CallP}(H120:K120 fu cp)(H121:K121 fu cp)(H122:K122 fu cp)(H127:K127 fu cp)(H118:K118 fu cp):Kk56_2 fu cp:=⟨fun {x s a b r} h=>by
  unfold kc56_2 at h
  exact kif (Q:=kq56_2 cp a b r) (λh=>H120.ap h) (λh=>kif (Q:=kq56_2 cp a b r) (λh=>H121.ap h) (λh=>kif (Q:=kq56_2 cp a b r) (λh=>H122.ap h) (λh=>kif (Q:=kq56_2 cp a b r) (λh=>H127.ap h) (λh=>((λh=>H118.ap h) h)) h) h) h) h⟩
structure K132 (fu:Nat) (cp:CallP):Prop where
 ap: ∀ {a0:Int} {a1:Int} {r},ewise_kernelOf_11 fu a0 a1=some r->cp 132 [.v (.int .u32 a0),.v (.int .u32 a1)]=some (.v (.bool r))
noncomputable def C132(fu:Nat):Cm prog (Int×Int) Bool:=⟨132,λt=>[.v (.int .u32 t.1),.v (.int .u32 t.2)],λt=>ewise_kernelOf_11 fu t.1 t.2,e132,λt b h=>ok132 fu t.1 t.2 b h,Zi⟩
theorem u132{fu:Nat}{cp:CallP}(H:Hit cp (C132 fu).ct):K132 fu cp:=⟨λ {a0 a1 r} h=>(C132 fu).at H (a0,a1) r h⟩
structure K134 (fu:Nat) (cp:CallP):Prop where
 ap: ∀ {a0:Int} {a1:Int} {r},ewise_kernelOf_13 fu a0 a1=some r->cp 134 [.v (.int .u32 a0),.v (.int .u32 a1)]=some (.v (.bool r))
noncomputable def C134(fu:Nat):Cm prog (Int×Int) Bool:=⟨134,λt=>[.v (.int .u32 t.1),.v (.int .u32 t.2)],λt=>ewise_kernelOf_13 fu t.1 t.2,e134,λt b h=>ok134 fu t.1 t.2 b h,Zi⟩
theorem u134{fu:Nat}{cp:CallP}(H:Hit cp (C134 fu).ct):K134 fu cp:=⟨λ {a0 a1 r} h=>(C134 fu).at H (a0,a1) r h⟩
structure K136 (fu:Nat) (cp:CallP):Prop where
 ap: ∀ {a0:Int} {a1:Int} {r},ewise_kernelOf_15 fu a0 a1=some r->cp 136 [.v (.int .u32 a0),.v (.int .u32 a1)]=some (.v (.bool r))
noncomputable def C136(fu:Nat):Cm prog (Int×Int) Bool:=⟨136,λt=>[.v (.int .u32 t.1),.v (.int .u32 t.2)],λt=>ewise_kernelOf_15 fu t.1 t.2,e136,λt b h=>ok136 fu t.1 t.2 b h,Zi⟩
theorem u136{fu:Nat}{cp:CallP}(H:Hit cp (C136 fu).ct):K136 fu cp:=⟨λ {a0 a1 r} h=>(C136 fu).at H (a0,a1) r h⟩
def kq56_3(cp:CallP)(a b:Int)(r:Bool)(f:AV):Prop:=fnApp cp [.v (.int .u32 a),.v (.int .u32 b)] f=some (.v (.bool r))
structure Kk56_3 (fu:Nat) (cp:CallP):Prop where
 ap: ∀ {x:Int} {s:T_Setting} {a b:Int} {r:Bool},kc56_3 fu x s a b=some r->fnApp cp [.v (.int .u32 a),.v (.int .u32 b)] (kf56_3 x s)=some (.v (.bool r))
theorem kk56_3{fu:Nat}{cp:CallP}(H128:K128 fu cp)(H130:K130 fu cp)(H132:K132 fu cp)(H134:K134 fu cp)(H136:K136 fu cp):Kk56_3 fu cp:=⟨fun {x s a b r} h=>by
  unfold kc56_3 at h
  exact kif (Q:=kq56_3 cp a b r) (λh=>H128.ap h) (λh=>kif (Q:=kq56_3 cp a b r) (λh=>H130.ap h) (λh=>kif (Q:=kq56_3 cp a b r) (λh=>H132.ap h) (λh=>kif (Q:=kq56_3 cp a b r) (λh=>H134.ap h) (λh=>kif (Q:=kq56_3 cp a b r) (λh=>H136.ap h) (λh=>((λh=>nomatch h) h)) h) h) h) h) h⟩
structure K129 (fu:Nat) (cp:CallP):Prop where
 ap: ∀ {a0:Int} {a1:Int} {r},ewise_kernelOf_9 fu a0 a1=some r->cp 129 [.v (.int .i64 a0),.v (.int .i64 a1)]=some (.v (.bool r))
noncomputable def C129(fu:Nat):Cm prog (Int×Int) Bool:=⟨129,λt=>[.v (.int .i64 t.1),.v (.int .i64 t.2)],λt=>ewise_kernelOf_9 fu t.1 t.2,e129,λt b h=>ok129 fu t.1 t.2 b h,Zi⟩
theorem u129{fu:Nat}{cp:CallP}(H:Hit cp (C129 fu).ct):K129 fu cp:=⟨λ {a0 a1 r} h=>(C129 fu).at H (a0,a1) r h⟩
structure K131 (fu:Nat) (cp:CallP):Prop where
 ap: ∀ {a0:Int} {a1:Int} {r},ewise_kernelOf_10 fu a0 a1=some r->cp 131 [.v (.int .i64 a0),.v (.int .i64 a1)]=some (.v (.bool r))
noncomputable def C131(fu:Nat):Cm prog (Int×Int) Bool:=⟨131,λt=>[.v (.int .i64 t.1),.v (.int .i64 t.2)],λt=>ewise_kernelOf_10 fu t.1 t.2,e131,λt b h=>ok131 fu t.1 t.2 b h,Zi⟩
theorem u131{fu:Nat}{cp:CallP}(H:Hit cp (C131 fu).ct):K131 fu cp:=⟨λ {a0 a1 r} h=>(C131 fu).at H (a0,a1) r h⟩
structure K133 (fu:Nat) (cp:CallP):Prop where
 ap: ∀ {a0:Int} {a1:Int} {r},ewise_kernelOf_12 fu a0 a1=some r->cp 133 [.v (.int .i64 a0),.v (.int .i64 a1)]=some (.v (.bool r))
noncomputable def C133(fu:Nat):Cm prog (Int×Int) Bool:=⟨133,λt=>[.v (.int .i64 t.1),.v (.int .i64 t.2)],λt=>ewise_kernelOf_12 fu t.1 t.2,e133,λt b h=>ok133 fu t.1 t.2 b h,Zi⟩
theorem u133{fu:Nat}{cp:CallP}(H:Hit cp (C133 fu).ct):K133 fu cp:=⟨λ {a0 a1 r} h=>(C133 fu).at H (a0,a1) r h⟩
structure K135 (fu:Nat) (cp:CallP):Prop where
 ap: ∀ {a0:Int} {a1:Int} {r},ewise_kernelOf_14 fu a0 a1=some r->cp 135 [.v (.int .i64 a0),.v (.int .i64 a1)]=some (.v (.bool r))
noncomputable def C135(fu:Nat):Cm prog (Int×Int) Bool:=⟨135,λt=>[.v (.int .i64 t.1),.v (.int .i64 t.2)],λt=>ewise_kernelOf_14 fu t.1 t.2,e135,λt b h=>ok135 fu t.1 t.2 b h,Zi⟩
theorem u135{fu:Nat}{cp:CallP}(H:Hit cp (C135 fu).ct):K135 fu cp:=⟨λ {a0 a1 r} h=>(C135 fu).at H (a0,a1) r h⟩
structure K137 (fu:Nat) (cp:CallP):Prop where
 ap: ∀ {a0:Int} {a1:Int} {r},ewise_kernelOf_16 fu a0 a1=some r->cp 137 [.v (.int .i64 a0),.v (.int .i64 a1)]=some (.v (.bool r))
noncomputable def C137(fu:Nat):Cm prog (Int×Int) Bool:=⟨137,λt=>[.v (.int .i64 t.1),.v (.int .i64 t.2)],λt=>ewise_kernelOf_16 fu t.1 t.2,e137,λt b h=>ok137 fu t.1 t.2 b h,Zi⟩
theorem u137{fu:Nat}{cp:CallP}(H:Hit cp (C137 fu).ct):K137 fu cp:=⟨λ {a0 a1 r} h=>(C137 fu).at H (a0,a1) r h⟩
def kq56_4(cp:CallP)(a b:Int)(r:Bool)(f:AV):Prop:=fnApp cp [.v (.int .i64 a),.v (.int .i64 b)] f=some (.v (.bool r))
structure Kk56_4 (fu:Nat) (cp:CallP):Prop where
 ap: ∀ {x:Int} {s:T_Setting} {a b:Int} {r:Bool},kc56_4 fu x s a b=some r->fnApp cp [.v (.int .i64 a),.v (.int .i64 b)] (kf56_4 x s)=some (.v (.bool r))
theorem kk56_4{fu:Nat}{cp:CallP}(H129:K129 fu cp)(H131:K131 fu cp)(H133:K133 fu cp)(H135:K135 fu cp)(H137:K137 fu cp):Kk56_4 fu cp:=⟨fun {x s a b r} h=>by
  unfold kc56_4 at h
  exact kif (Q:=kq56_4 cp a b r) (λh=>H129.ap h) (λh=>kif (Q:=kq56_4 cp a b r) (λh=>H131.ap h) (λh=>kif (Q:=kq56_4 cp a b r) (λh=>H133.ap h) (λh=>kif (Q:=kq56_4 cp a b r) (λh=>H135.ap h) (λh=>kif (Q:=kq56_4 cp a b r) (λh=>H137.ap h) (λh=>((λh=>nomatch h) h)) h) h) h) h) h⟩
open Aw (d25)
def d25_at:=by have h:=tabL Aw.d25.eq_1;simp only[AllAt,Nat.zero_add,Nat.reduceAdd]at h;exact h
noncomputable def b25:Code:=bodyOf Tryz.f25
theorem go_b25{C:Cfg}{cp:CallP}{ci:CallI}{lvl:Nat}{prot:List Id}{D:TD}{n:Nat}{K:KK}{e:Env}{h:Heap}{fs:List Fr}:go prog C cp ci lvl prot D n K b25 e h fs=go prog C cp ci lvl prot D n K (bodyOf Tryz.f25) e h fs:=rfl
theorem i25:finfo prog 25 d25=some ⟨b25,[.tmp 6,.tmp 7],[56,34]⟩:=fA Tryz.func25
open Aw (d27)
def d27_at:=by have h:=tabL Aw.d27.eq_1;simp only[AllAt,Nat.zero_add,Nat.reduceAdd]at h;exact h
noncomputable def b27:Code:=bodyOf Tryz.f27
theorem go_b27{C:Cfg}{cp:CallP}{ci:CallI}{lvl:Nat}{prot:List Id}{D:TD}{n:Nat}{K:KK}{e:Env}{h:Heap}{fs:List Fr}:go prog C cp ci lvl prot D n K b27 e h fs=go prog C cp ci lvl prot D n K (bodyOf Tryz.f27) e h fs:=rfl
theorem i27:finfo prog 27 d27=some ⟨b27,[],[]⟩:=fA Tryz.func27
def d60:TD:=[(0,[1]),(0,[0,2,4,6,7,8,9]),(1766847064778384329583328192277302464788767441907706228294420472581489728,[10,11,12,13,14,15,16,17,18,19,20,21,22,23,24,25,26,27]),(0,[]),(14,[28,29,30,31,32,33,34,35,36,37,38,39]),(0,[]),(20,[40,41,42,43,44,45,46,47,48,49,50,51,52,53,54,55,56,57,58,59]),(0,[]),(0,[61,62,63,64,65,66,67,68,69,70,71]),(0,[]),(21,[72,73,74,75,76,77,78,79,80,81,82,83,84,85,86,87,88,89,90,91,92]),(0,[]),(0,[94,95,96]),(0,[]),(20,[97,98,99,100,101,102,103,104,105,106,107,108,109,110,111,112,113,114,115,116]),(0,[]),(0,[118,119,120,121,122,123,124,125,126,127,128]),(0,[]),(20,[129,130,131,132,133,134,135,136,137,138,139,140,141,142,143,144,145,146,147,148]),(0,[]),(0,[150,151,152]),(0,[]),(20,[153,154,155,156,157,158,159,160,161,162,163,164,165,166,167,168,169,170,171,172])]
def d60_at:=by have h:=tabL d60.eq_1;simp only[AllAt,Nat.zero_add,Nat.reduceAdd]at h;exact h
noncomputable def b60:Code:=bodyOf Tryz.f60
theorem go_b60{C:Cfg}{cp:CallP}{ci:CallI}{lvl:Nat}{prot:List Id}{D:TD}{n:Nat}{K:KK}{e:Env}{h:Heap}{fs:List Fr}:go prog C cp ci lvl prot D n K b60 e h fs=go prog C cp ci lvl prot D n K (bodyOf Tryz.f60) e h fs:=rfl
theorem i60:finfo prog 60 d60=some ⟨b60,[],[]⟩:=fA Tryz.func60
end Go.Av
