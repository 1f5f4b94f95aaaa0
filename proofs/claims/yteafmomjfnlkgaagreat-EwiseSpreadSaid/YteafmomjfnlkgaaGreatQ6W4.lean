/- The walks of the plain functions, part 2. Made by a program of mine. Conditions: none. -/
import Derived.Test.YteafmomjfnlkgaaGreatQ6W3
set_option linter.unusedVariables false
set_option linter.unusedSimpArgs false
set_option linter.defProp false
set_option maxRecDepth 20000
set_option maxHeartbeats 20000000
open Go Go.Proofs
open Tryz (prog)
namespace Go.Av
open Aw (d14 d22 d26 d49 d50 d51 d52 d53 d54 d55 d66 d102 d103 d104 d105 d106 d107 d108 d109 d110 d111 d112 d113 d114 d115 d124 d140 d151 d172 d174 d175 d176 d177 d178 d179 d189 d190 d191 d192 d193 d194 d195 d268 d269 d270 d276 d277 d351)
open Aw (d25 d27 d11)
def d30:TD:=[(0,[2,3]),(0,[6]),(0,[]),(0,[]),(0,[9,10,11]),(0,[0,8]),(0,[]),(0,[]),(0,[12,13,14]),(0,[]),(0,[16,17]),(0,[]),(0,[18,19,20,21]),(0,[]),(0,[]),(0,[]),(0,[23,24,25,26,27,28,29,30]),(0,[]),(0,[31,32,33,34,35,36,37,38]),(0,[]),(0,[5]),(0,[]),(0,[]),(0,[]),(0,[4]),(0,[]),(0,[]),(0,[]),(0,[]),(0,[]),(0,[]),(0,[]),(0,[41,42,43]),(0,[]),(0,[45,46]),(0,[]),(0,[47,48,49,50,51,52,53,54,55,56,57,58,59]),(0,[]),(0,[]),(0,[]),(0,[61,62,63,64,65,66]),(0,[]),(0,[7,67])]
def d30_at:=by have h:=tabL d30.eq_1;simp only[AllAt,Nat.zero_add,Nat.reduceAdd]at h;exact h
theorem i30:finfo prog 30 d30=some ⟨bodyOf Tryz.f30,[.tmp 2,.tmp 3],[3,34]⟩:=fA Tryz.func30
def e30:(Int×Int)->AV:=λr=> .tuple [.v (.int .i64 r.1),.v (.int .i64 r.2)]
def ref04_Size.j2:LJ 2 40 Unit Unit:=⟨λr t e=>[(0,er e 0),(7,er e 7),(8,er e 8)],λr t h=>[]⟩
def ref04_Size.m1:LJ 1 32 Unit (Int×Int):=⟨λr s e=>[(0,er e 0),(7,.v (.int .i64 s.1)),(8,.v (.int .i64 s.2))],λr s h=>[]⟩
def ref04_Size.j3:LJ 3 18 Unit Bool:=⟨λr t e=>[(0,er e 0),(4,.v (.bool t)),(5,er e 5),(6,er e 6)],λr t h=>[]⟩
def ref04_Size.m2:LJ 2 8 Unit (Bool×Bool×Int):=⟨λr s e=>[(0,er e 0),(4,.v (.bool s.1)),(5,.v (.bool s.2.1)),(6,.v (.int .i64 s.2.2))],λr s h=>[]⟩
def ref04_Size.j1:LJ 1 20 Unit (Bool×Bool):=⟨λr t e=>[(0,er e 0),(4,.v (.bool t.1)),(5,.v (.bool t.2))],λr t h=>[]⟩
open ref04_Size in
theorem w30(cp:CallP)(fu:Nat)(x1:List Int):J (go prog noC cp noI 0 [] d30 fu (fin prog [.tmp 2,.tmp 3] [3,34]) (bodyOf Tryz.f30) (initE 0 [.arr x1.length (lm (ik .i64) x1)]) [] []) (ref04_Size fu x1) e30:=by
 unfold ref04_Size e30
 have da:=d30_at
 conv=>arg 1;simp only[bodyOf,Tryz.f30]
 have z0:=d30_at
 exact Wk
theorem ok30(fu:Nat)(x1:List Int)(r)(h:ref04_Size fu x1=some r):PureOK prog 30 [.arr x1.length (lm (ik .i64) x1)] (e30 r):=pureT mixed [] (ids:=[]) rfl (by decide) i30 (C:=noC) (ci:=λcp=>noI) (λcp ok=>noI_ok) (λcp H=>w30 cp fu x1) h
def d152:TD:=[(0,[4]),(0,[]),(0,[5,6,7]),(0,[]),(0,[]),(0,[]),(0,[0,1,9,10,11,12,13,14,15,16])]
def d152_at:=by have h:=tabL d152.eq_1;simp only[AllAt,Nat.zero_add,Nat.reduceAdd]at h;exact h
theorem i152:finfo prog 152 d152=some ⟨bodyOf Tryz.f152,[.tmp 4],[3]⟩:=fA Tryz.func152
def e152:Int->AV:=λr=> .v (.int .i64 r)
theorem w152(cp:CallP)(fu:Nat)(x1:List Int)(x2:Int):J (go prog noC cp noI 0 [] d152 fu (fin prog [.tmp 4] [3]) (bodyOf Tryz.f152) (initE 0 [.arr x1.length (lm (ik .i64) x1),.v (.int .i64 x2)]) [] []) (ref04_dim fu x1 x2) e152:=by
 unfold ref04_dim e152
 have da:=d152_at
 conv=>arg 1;simp only[bodyOf,Tryz.f152]
 have z0:=d152_at
 exact Wk
theorem ok152(fu:Nat)(x1:List Int)(x2:Int)(r)(h:ref04_dim fu x1 x2=some r):PureOK prog 152 [.arr x1.length (lm (ik .i64) x1),.v (.int .i64 x2)] (e152 r):=pureT mixed [] (ids:=[]) rfl (by decide) i152 (C:=noC) (ci:=λcp=>noI) (λcp ok=>noI_ok) (λcp H=>w152 cp fu x1 x2) h
def d71:TD:=[(0,[4,5]),(0,[0,1,10,12]),(0,[6,17,18,19,20,21]),(0,[]),(0,[22]),(0,[]),(0,[24]),(0,[]),(0,[7,8,25,26,27,28,29]),(0,[]),(0,[30]),(0,[]),(0,[32]),(0,[]),(0,[9,33,34,35,36,37]),(0,[]),(0,[38,39]),(0,[]),(0,[]),(0,[]),(0,[40,41]),(0,[]),(0,[43,44]),(0,[]),(0,[45,46,47]),(0,[]),(0,[48,49,50]),(0,[]),(0,[51,52,53,54,55,56,57,58,59,60]),(0,[]),(0,[]),(0,[]),(0,[62]),(0,[]),(0,[64]),(0,[]),(0,[13,14,65,66,67,68,69,70,71]),(0,[]),(0,[15,72,73,74,75,76]),(0,[]),(0,[77]),(0,[]),(0,[79]),(0,[]),(0,[11,16,80])]
def d71_at:=by have h:=tabL d71.eq_1;simp only[AllAt,Nat.zero_add,Nat.reduceAdd]at h;exact h
theorem i71:finfo prog 71 d71=some ⟨bodyOf Tryz.f71,[.tmp 4,.tmp 5],[22,34]⟩:=fA Tryz.func71
def e71:((List Int)×Int)->AV:=λr=> .tuple [.fresh 1 r.1.length (lm (ik .i64) r.1),.v (.int .i64 r.2)]
structure K30 (fu:Nat) (cp:CallP):Prop where
 ap: ∀ {a0:List Int} {r},ref04_Size fu a0=some r->cp 30 [.arr a0.length (lm (ik .i64) a0)]=some (.tuple [.v (.int .i64 r.1),.v (.int .i64 r.2)])
noncomputable def C30(fu:Nat):Cm prog (List Int) (Int×Int):=⟨30,λt=>[.arr t.length (lm (ik .i64) t)],λt=>ref04_Size fu t,e30,λt b h=>ok30 fu t b h,Zi⟩
theorem u30{fu:Nat}{cp:CallP}(H:Hit cp (C30 fu).ct):K30 fu cp:=⟨λ {a0 r} h=>(C30 fu).at H a0 r h⟩
structure K152 (fu:Nat) (cp:CallP):Prop where
 ap: ∀ {a0:List Int} {a1:Int} {r},ref04_dim fu a0 a1=some r->cp 152 [.arr a0.length (lm (ik .i64) a0),.v (.int .i64 a1)]=some (.v (.int .i64 r))
noncomputable def C152(fu:Nat):Cm prog ((List Int)×Int) Int:=⟨152,λt=>[.arr t.1.length (lm (ik .i64) t.1),.v (.int .i64 t.2)],λt=>ref04_dim fu t.1 t.2,e152,λt b h=>ok152 fu t.1 t.2 b h,Zi⟩
theorem u152{fu:Nat}{cp:CallP}(H:Hit cp (C152 fu).ct):K152 fu cp:=⟨λ {a0 a1 r} h=>(C152 fu).at H (a0,a1) r h⟩
def ref04_Broadcast.j3:LJ 3 36 Unit Int:=⟨λr t e=>[(0,er e 0),(1,er e 1),(10,er e 10),(11,er e 11),(12,er e 12),(13,.v (.int .i64 t)),(14,er e 14)],λr t h=>[((0,39,0),hr h (0,39,0))]⟩
def ref04_Broadcast.j2:LJ 2 32 Unit Unit:=⟨λr t e=>[(0,er e 0),(1,er e 1),(10,er e 10),(11,er e 11),(12,er e 12),(13,er e 13),(14,er e 14)],λr t h=>[((0,39,0),hr h (0,39,0))]⟩
def ref04_Broadcast.m1:LJ 1 20 Unit ((List Int)×Int):=⟨λr s e=>[(0,er e 0),(1,er e 1),(10,er e 10),(11,.own (0,39,0) 0 s.1.length s.1.length),(12,.v (.int .i64 s.2))],λr s h=>[((0,39,0),.sl true true 1 s.1.length (lm (ik .i64) s.1))]⟩
def ref04_Broadcast.j1:LJ 1 38 Unit (List Int):=⟨λr t e=>[(11,.own (0,39,0) 0 t.length t.length)],λr t h=>[((0,39,0),.sl true true 1 t.length (lm (ik .i64) t))]⟩
open ref04_Broadcast in
theorem w71(cp:CallP)(fu:Nat)(x1:List Int)(x2:List Int)(H1:K30 fu cp)(H2:K152 fu cp):J (go prog noC cp noI 0 [] d71 fu (fin prog [.tmp 4,.tmp 5] [22,34]) (bodyOf Tryz.f71) (initE 0 [.arr x1.length (lm (ik .i64) x1),.arr x2.length (lm (ik .i64) x2)]) [] []) (ref04_Broadcast fu x1 x2) e71:=by
 unfold ref04_Broadcast e71
 have da:=d71_at
 conv=>arg 1;simp only[bodyOf,Tryz.f71]
 have z0:=d71_at
 exact Wk
theorem ok71(fu:Nat)(x1:List Int)(x2:List Int)(r)(h:ref04_Broadcast fu x1 x2=some r):PureOK prog 71 [.arr x1.length (lm (ik .i64) x1),.arr x2.length (lm (ik .i64) x2)] (e71 r):=pureT mixed [(C30 fu).ct,(C152 fu).ct] (ids:=[30,152]) rfl (by decide) i71 (C:=noC) (ci:=λcp=>noI) (λcp ok=>noI_ok) (λcp H=>w71 cp fu x1 x2 (u30 H.1) (u152 H.2.1)) h
def d16:TD:=[(0,[4]),(0,[0,1,5]),(0,[6,7,8,9]),(0,[]),(0,[]),(0,[]),(0,[]),(0,[]),(0,[11,12,13]),(0,[]),(0,[15,16]),(0,[]),(9,[17,18,19,20,21,22,23,24]),(0,[]),(0,[]),(0,[]),(0,[])]
def d16_at:=by have h:=tabL d16.eq_1;simp only[AllAt,Nat.zero_add,Nat.reduceAdd]at h;exact h
theorem i16:finfo prog 16 d16=some ⟨bodyOf Tryz.f16,[.tmp 4],[4]⟩:=fA Tryz.func16
def e16:Bool->AV:=λr=> .v (.bool r)
def ref04_SameInts.m1:LJ 1 8 Unit Int:=⟨λr s e=>[(0,er e 0),(1,er e 1),(5,.v (.int .i64 s))],λr s h=>[]⟩
open ref04_SameInts in
theorem w16(cp:CallP)(fu:Nat)(x1:List Int)(x2:List Int):J (go prog noC cp noI 0 [] d16 fu (fin prog [.tmp 4] [4]) (bodyOf Tryz.f16) (initE 0 [.arr x1.length (lm (ik .i64) x1),.arr x2.length (lm (ik .i64) x2)]) [] []) (ref04_SameInts fu x1 x2) e16:=by
 unfold ref04_SameInts e16
 have da:=d16_at
 conv=>arg 1;simp only[bodyOf,Tryz.f16]
 have z0:=d16_at
 exact Wk
theorem ok16(fu:Nat)(x1:List Int)(x2:List Int)(r)(h:ref04_SameInts fu x1 x2=some r):PureOK prog 16 [.arr x1.length (lm (ik .i64) x1),.arr x2.length (lm (ik .i64) x2)] (e16 r):=pureT mixed [] (ids:=[]) rfl (by decide) i16 (C:=noC) (ci:=λcp=>noI) (λcp ok=>noI_ok) (λcp H=>w16 cp fu x1 x2) h
def d72:TD:=[(0,[4,5]),(0,[0,1,9]),(0,[10,11,12,13,14]),(0,[]),(0,[15]),(0,[]),(0,[17]),(0,[]),(0,[6,7,18,19,20,21,22,23]),(0,[]),(0,[]),(0,[]),(0,[25,26,27]),(0,[]),(0,[28,29,30]),(0,[]),(0,[31]),(0,[]),(0,[33,34]),(0,[]),(0,[35,36,37,38,39,40,41,42,43]),(0,[]),(0,[44,45,46,47,48,49]),(0,[]),(0,[8,50])]
def d72_at:=by have h:=tabL d72.eq_1;simp only[AllAt,Nat.zero_add,Nat.reduceAdd]at h;exact h
theorem i72:finfo prog 72 d72=some ⟨bodyOf Tryz.f72,[.tmp 4,.tmp 5],[22,34]⟩:=fA Tryz.func72
def e72:((List Int)×Int)->AV:=λr=> .tuple [.fresh 1 r.1.length (lm (ik .i64) r.1),.v (.int .i64 r.2)]
def ref04_Index.m1:LJ 1 16 Unit ((List Int)×Int×Int):=⟨λr s e=>[(0,er e 0),(1,.v (.int .i64 s.2.1)),(8,.own (0,27,0) 0 s.1.length s.1.length),(9,.v (.int .i64 s.2.2))],λr s h=>[((0,27,0),.sl true true 1 s.1.length (lm (ik .i64) s.1))]⟩
def ref04_Index.j1:LJ 1 12 Unit Unit:=⟨λr t e=>[(0,er e 0),(1,er e 1)],λr t h=>[]⟩
open ref04_Index in
theorem w72(cp:CallP)(fu:Nat)(x1:List Int)(x2:Int)(H1:K30 fu cp):J (go prog noC cp noI 0 [] d72 fu (fin prog [.tmp 4,.tmp 5] [22,34]) (bodyOf Tryz.f72) (initE 0 [.arr x1.length (lm (ik .i64) x1),.v (.int .i64 x2)]) [] []) (ref04_Index fu x1 x2) e72:=by
 unfold ref04_Index e72
 have da:=d72_at
 conv=>arg 1;simp only[bodyOf,Tryz.f72]
 have z0:=d72_at
 exact Wk
theorem ok72(fu:Nat)(x1:List Int)(x2:Int)(r)(h:ref04_Index fu x1 x2=some r):PureOK prog 72 [.arr x1.length (lm (ik .i64) x1),.v (.int .i64 x2)] (e72 r):=pureT mixed [(C30 fu).ct] (ids:=[30]) rfl (by decide) i72 (C:=noC) (ci:=λcp=>noI) (λcp ok=>noI_ok) (λcp H=>w72 cp fu x1 x2 (u30 H.1)) h
def d35:TD:=[(0,[6,7]),(0,[0,14,16,18]),(0,[8,20,21,22,23,24]),(0,[]),(0,[25]),(0,[]),(0,[27]),(0,[]),(0,[9,28,29,30,31,32]),(0,[]),(0,[33]),(0,[]),(0,[35]),(0,[]),(0,[11,36,37,38,39,40,41]),(0,[]),(0,[12,13,42,43,44,45,46,47,48]),(0,[]),(0,[]),(0,[]),(0,[10,50,51,52,53,54,55]),(0,[]),(0,[]),(0,[]),(0,[2,15,57,58,59,60,61,62]),(0,[]),(0,[1,63,64,65,66,67]),(0,[]),(0,[]),(0,[]),(0,[]),(0,[]),(0,[68,69,70]),(0,[]),(0,[72,73]),(0,[]),(0,[74,75,76,77,78,79]),(0,[]),(0,[80,81,82,83]),(0,[]),(0,[]),(0,[]),(0,[19,85,86,87,88,89,90,91,92]),(0,[]),(0,[17,93])]
def d35_at:=by have h:=tabL d35.eq_1;simp only[AllAt,Nat.zero_add,Nat.reduceAdd]at h;exact h
theorem i35:finfo prog 35 d35=some ⟨bodyOf Tryz.f35,[.tmp 6,.tmp 7],[3,34]⟩:=fA Tryz.func35
def e35:(Int×Int)->AV:=λr=> .tuple [.v (.int .i64 r.1),.v (.int .i64 r.2)]
structure K71 (fu:Nat) (cp:CallP):Prop where
 ap: ∀ {a0:List Int} {a1:List Int} {r},ref04_Broadcast fu a0 a1=some r->cp 71 [.arr a0.length (lm (ik .i64) a0),.arr a1.length (lm (ik .i64) a1)]=some (.tuple [.fresh 1 r.1.length (lm (ik .i64) r.1),.v (.int .i64 r.2)])
noncomputable def C71(fu:Nat):Cm prog ((List Int)×(List Int)) ((List Int)×Int):=⟨71,λt=>[.arr t.1.length (lm (ik .i64) t.1),.arr t.2.length (lm (ik .i64) t.2)],λt=>ref04_Broadcast fu t.1 t.2,e71,λt b h=>ok71 fu t.1 t.2 b h,Zi⟩
theorem u71{fu:Nat}{cp:CallP}(H:Hit cp (C71 fu).ct):K71 fu cp:=⟨λ {a0 a1 r} h=>(C71 fu).at H (a0,a1) r h⟩
structure K16 (fu:Nat) (cp:CallP):Prop where
 ap: ∀ {a0:List Int} {a1:List Int} {r},ref04_SameInts fu a0 a1=some r->cp 16 [.arr a0.length (lm (ik .i64) a0),.arr a1.length (lm (ik .i64) a1)]=some (.v (.bool r))
noncomputable def C16(fu:Nat):Cm prog ((List Int)×(List Int)) Bool:=⟨16,λt=>[.arr t.1.length (lm (ik .i64) t.1),.arr t.2.length (lm (ik .i64) t.2)],λt=>ref04_SameInts fu t.1 t.2,e16,λt b h=>ok16 fu t.1 t.2 b h,Zi⟩
theorem u16{fu:Nat}{cp:CallP}(H:Hit cp (C16 fu).ct):K16 fu cp:=⟨λ {a0 a1 r} h=>(C16 fu).at H (a0,a1) r h⟩
structure K72 (fu:Nat) (cp:CallP):Prop where
 ap: ∀ {a0:List Int} {a1:Int} {r},ref04_Index fu a0 a1=some r->cp 72 [.arr a0.length (lm (ik .i64) a0),.v (.int .i64 a1)]=some (.tuple [.fresh 1 r.1.length (lm (ik .i64) r.1),.v (.int .i64 r.2)])
noncomputable def C72(fu:Nat):Cm prog ((List Int)×Int) ((List Int)×Int):=⟨72,λt=>[.arr t.1.length (lm (ik .i64) t.1),.v (.int .i64 t.2)],λt=>ref04_Index fu t.1 t.2,e72,λt b h=>ok72 fu t.1 t.2 b h,Zi⟩
theorem u72{fu:Nat}{cp:CallP}(H:Hit cp (C72 fu).ct):K72 fu cp:=⟨λ {a0 a1 r} h=>(C72 fu).at H (a0,a1) r h⟩
def ref04_From.j3:LJ 3 42 Unit Int:=⟨λr t e=>[(0,er e 0),(14,er e 14),(16,er e 16),(17,er e 17),(18,er e 18),(19,.v (.int .i64 t))],λr t h=>[((0,60,0),hr h (0,60,0))]⟩
def ref04_From.m1:LJ 1 32 Unit (Int×Int):=⟨λr s e=>[(0,er e 0),(14,er e 14),(16,er e 16),(17,.v (.int .i64 s.1)),(18,.v (.int .i64 s.2))],λr s h=>[((0,60,0),hr h (0,60,0))]⟩
def ref04_From.j2:LJ 2 24 Unit Unit:=⟨λr t e=>[(0,er e 0),(1,er e 1),(2,er e 2)],λr t h=>[]⟩
def ref04_From.j1:LJ 1 20 Unit Unit:=⟨λr t e=>[(0,er e 0),(1,er e 1),(2,er e 2),(10,er e 10)],λr t h=>[]⟩
open ref04_From in
theorem w35(cp:CallP)(fu:Nat)(x1:List Int)(x2:List Int)(x3:Int)(H1:K30 fu cp)(H2:K71 fu cp)(H3:K16 fu cp)(H4:K72 fu cp):J (go prog noC cp noI 0 [] d35 fu (fin prog [.tmp 6,.tmp 7] [3,34]) (bodyOf Tryz.f35) (initE 0 [.arr x1.length (lm (ik .i64) x1),.arr x2.length (lm (ik .i64) x2),.v (.int .i64 x3)]) [] []) (ref04_From fu x1 x2 x3) e35:=by
 unfold ref04_From e35
 have da:=d35_at
 conv=>arg 1;simp only[bodyOf,Tryz.f35]
 have z0:=d35_at
 exact Wk
theorem ok35(fu:Nat)(x1:List Int)(x2:List Int)(x3:Int)(r)(h:ref04_From fu x1 x2 x3=some r):PureOK prog 35 [.arr x1.length (lm (ik .i64) x1),.arr x2.length (lm (ik .i64) x2),.v (.int .i64 x3)] (e35 r):=pureT mixed [(C30 fu).ct,(C71 fu).ct,(C16 fu).ct,(C72 fu).ct] (ids:=[30,71,16,72]) rfl (by decide) i35 (C:=noC) (ci:=λcp=>noI) (λcp ok=>noI_ok) (λcp H=>w35 cp fu x1 x2 x3 (u30 H.1) (u71 H.2.1) (u16 H.2.2.1) (u72 H.2.2.2.1)) h
def d46:TD:=[(0,[2]),(0,[]),(0,[0,3,4,5,6,7,8,9,10,11,12])]
def d46_at:=by have h:=tabL d46.eq_1;simp only[AllAt,Nat.zero_add,Nat.reduceAdd]at h;exact h
theorem i46:finfo prog 46 d46=some ⟨bodyOf Tryz.f46,[.tmp 2],[4]⟩:=fA Tryz.func46
def e46:Bool->AV:=λr=> .v (.bool r)
theorem w46(cp:CallP)(fu:Nat)(x1:Int):J (go prog noC cp noI 0 [] d46 fu (fin prog [.tmp 2] [4]) (bodyOf Tryz.f46) (initE 0 [.v (.int .i64 x1)]) [] []) (ref05_Known fu x1) e46:=by
 unfold ref05_Known e46
 have da:=d46_at
 conv=>arg 1;simp only[bodyOf,Tryz.f46]
 have z0:=d46_at
 exact Wk
theorem ok46(fu:Nat)(x1:Int)(r)(h:ref05_Known fu x1=some r):PureOK prog 46 [.v (.int .i64 x1)] (e46 r):=pureT mixed [] (ids:=[]) rfl (by decide) i46 (C:=noC) (ci:=λcp=>noI) (λcp ok=>noI_ok) (λcp H=>w46 cp fu x1) h
def d20:TD:=[(0,[0,2]),(0,[3,22]),(0,[8,9,10]),(0,[]),(0,[]),(0,[]),(0,[12,13,14,15,16,17]),(0,[]),(0,[18]),(0,[]),(0,[20]),(0,[]),(0,[4]),(0,[]),(0,[]),(0,[]),(0,[]),(0,[]),(0,[21]),(0,[]),(0,[23]),(0,[]),(0,[25]),(0,[]),(0,[26]),(0,[]),(0,[28]),(0,[]),(0,[29]),(0,[]),(0,[1,5,6,7,30,31,32,33,34,35,36,37,38,39,40,41,42,43,44,45,46,47]),(0,[]),(0,[]),(0,[]),(0,[])]
def d20_at:=by have h:=tabL d20.eq_1;simp only[AllAt,Nat.zero_add,Nat.reduceAdd]at h;exact h
theorem i20:finfo prog 20 d20=some ⟨bodyOf Tryz.f20,[.tmp 2],[34]⟩:=fA Tryz.func20
def e20:Int->AV:=λr=> .v (.int .i64 r)
structure K46 (fu:Nat) (cp:CallP):Prop where
 ap: ∀ {a0:Int} {r},ref05_Known fu a0=some r->cp 46 [.v (.int .i64 a0)]=some (.v (.bool r))
noncomputable def C46(fu:Nat):Cm prog Int Bool:=⟨46,λt=>[.v (.int .i64 t)],λt=>ref05_Known fu t,e46,λt b h=>ok46 fu t b h,Zi⟩
theorem u46{fu:Nat}{cp:CallP}(H:Hit cp (C46 fu).ct):K46 fu cp:=⟨λ {a0 r} h=>(C46 fu).at H a0 r h⟩
def ref05_Check.j1:LJ 1 30 Unit (Int×Int×Int):=⟨λr t e=>[(1,er e 1),(5,.v (.int .i64 t.1)),(6,.v (.int .i64 t.2.1)),(7,.v (.int .i64 t.2.2))],λr t h=>[((0,1,0),hr h (0,1,0))]⟩
open ref05_Check in
theorem w20(cp:CallP)(fu:Nat)(x1:T_Tensor)(H1:K46 fu cp)(H2:K30 fu cp):J (go prog noC cp noI 0 [] d20 fu (fin prog [.tmp 2] [34]) (bodyOf Tryz.f20) (initE 0 [.agg (c_T_Tensor x1)]) [] []) (ref05_Check fu x1) e20:=by
 unfold ref05_Check e20
 have da:=d20_at
 conv=>arg 1;simp only[bodyOf,Tryz.f20]
 have z0:=d20_at
 exact Wk
theorem ok20(fu:Nat)(x1:T_Tensor)(r)(h:ref05_Check fu x1=some r):PureOK prog 20 [.agg (c_T_Tensor x1)] (e20 r):=pureT mixed [(C46 fu).ct,(C30 fu).ct] (ids:=[46,30]) rfl (by decide) i20 (C:=noC) (ci:=λcp=>noI) (λcp ok=>noI_ok) (λcp H=>w20 cp fu x1 (u46 H.1) (u30 H.2.1)) h
def d29:TD:=[(0,[5]),(0,[6,29]),(0,[9,10]),(0,[]),(0,[12]),(0,[]),(0,[13,14,15,16,17]),(0,[]),(0,[18]),(0,[]),(0,[20,21]),(0,[]),(0,[7,22,23]),(0,[]),(0,[1,24,25,26,27,28]),(0,[]),(0,[0]),(0,[]),(0,[30,31,32]),(0,[]),(0,[34]),(0,[]),(0,[35,36,37]),(0,[]),(0,[39]),(0,[]),(0,[40,41,42]),(0,[]),(0,[8,43])]
def d29_at:=by have h:=tabL d29.eq_1;simp only[AllAt,Nat.zero_add,Nat.reduceAdd]at h;exact h
theorem i29:finfo prog 29 d29=some ⟨bodyOf Tryz.f29,[.cell 4 28,.tmp 5],[28,34]⟩:=fA Tryz.func29
def e29:(T_Tensor×Int)->AV:=λr=> .tuple [.agg [.v (.int .i64 r.1.fType),.fresh 1 r.1.fDims.length (lm (ik .i64) r.1.fDims),.fresh 1 r.1.fF.length (lm (ik .u32) r.1.fF),.fresh 1 r.1.fI.length (lm (ik .i64) r.1.fI),.fresh 1 r.1.fB.length (lm (bk) r.1.fB)],.v (.int .i64 r.2)]
theorem w29(cp:CallP)(fu:Nat)(x1:Int)(x2:List Int)(H1:K46 fu cp)(H2:K30 fu cp):J (go prog noC cp noI 0 [] d29 fu (fin prog [.cell 4 28,.tmp 5] [28,34]) (bodyOf Tryz.f29) (initE 0 [.v (.int .i64 x1),.arr x2.length (lm (ik .i64) x2)]) [] []) (ref05_New fu x1 x2) e29:=by
 unfold ref05_New e29
 have da:=d29_at
 conv=>arg 1;simp only[bodyOf,Tryz.f29]
 have z0:=d29_at
 exact Wk
theorem ok29(fu:Nat)(x1:Int)(x2:List Int)(r)(h:ref05_New fu x1 x2=some r):PureOK prog 29 [.v (.int .i64 x1),.arr x2.length (lm (ik .i64) x2)] (e29 r):=pureT mixed [(C46 fu).ct,(C30 fu).ct] (ids:=[46,30]) rfl (by decide) i29 (C:=noC) (ci:=λcp=>noI) (λcp ok=>noI_ok) (λcp H=>w29 cp fu x1 x2 (u46 H.1) (u30 H.2.1)) h
def d73:TD:=[(0,[0,2]),(0,[1,3,4,6,9]),(0,[8]),(0,[]),(9,[10,11,12,13,14,15,16,17,18]),(0,[]),(0,[20]),(0,[]),(9,[21,22,23,24,25,26,27,28,29]),(0,[]),(0,[31]),(0,[]),(9,[32,33,34,35,36,37,38,39,40])]
def d73_at:=by have h:=tabL d73.eq_1;simp only[AllAt,Nat.zero_add,Nat.reduceAdd]at h;exact h
noncomputable def b73:Code:=bodyOf Tryz.f73
theorem go_b73{C:Cfg}{cp:CallP}{ci:CallI}{lvl:Nat}{prot:List Id}{D:TD}{n:Nat}{K:KK}{e:Env}{h:Heap}{fs:List Fr}:go prog C cp ci lvl prot D n K b73 e h fs=go prog C cp ci lvl prot D n K (bodyOf Tryz.f73) e h fs:=rfl
theorem i73:finfo prog 73 d73=some ⟨b73,[],[]⟩:=fA Tryz.func73
def d36:TD:=[(0,[0,7]),(0,[2,3,11,13,14]),(0,[15,16]),(0,[]),(0,[17]),(0,[]),(0,[19,20]),(0,[]),(0,[8,21,22,23,24,25,26,27]),(0,[]),(0,[28]),(0,[]),(0,[30,31]),(0,[]),(0,[1,10,12,32,33,34,35,36]),(0,[]),(0,[37,38,39,40,41,42,43,44,45,46,47]),(0,[]),(0,[48,49,50]),(0,[]),(0,[52]),(0,[]),(0,[]),(0,[]),(0,[53,54]),(0,[]),(0,[56,57]),(0,[]),(0,[58,59,60,61,62,63,64,65,66,67,68,69]),(0,[]),(0,[71]),(0,[]),(0,[72,73,74,75]),(0,[]),(7,[77,78,79,80,81,82,83,84]),(0,[]),(0,[9,85])]
def d36_at:=by have h:=tabL d36.eq_1;simp only[AllAt,Nat.zero_add,Nat.reduceAdd]at h;exact h
theorem i36:finfo prog 36 d36=some ⟨bodyOf Tryz.f36,[.cell 6 28,.tmp 7],[28,34]⟩:=fA Tryz.func36
def e36:(T_Tensor×Int)->AV:=λr=> .tuple [.agg [.v (.int .i64 r.1.fType),.fresh 1 r.1.fDims.length (lm (ik .i64) r.1.fDims),.fresh 1 r.1.fF.length (lm (ik .u32) r.1.fF),.fresh 1 r.1.fI.length (lm (ik .i64) r.1.fI),.fresh 1 r.1.fB.length (lm (bk) r.1.fB)],.v (.int .i64 r.2)]
theorem w36(cp:CallP)(fu:Nat)(x1:T_Tensor)(x2:List Int)(x3:List Int)(H20_0: ∀ (a0:T_Tensor) r,ref05_Check fu a0=some r→cp 20 [.agg (c_T_Tensor a0)]=some (.v (.int .i64 r)))(H29_0: ∀ (a0:Int) (a1:List Int) r,ref05_New fu a0 a1=some r→cp 29 [.v (.int .i64 a0),.arr a1.length (lm (ik .i64) a1)]=some (.tuple [.agg [.v (.int .i64 r.1.fType),.fresh 1 r.1.fDims.length (lm (ik .i64) r.1.fDims),.fresh 1 r.1.fF.length (lm (ik .u32) r.1.fF),.fresh 1 r.1.fI.length (lm (ik .i64) r.1.fI),.fresh 1 r.1.fB.length (lm (bk) r.1.fB)],.v (.int .i64 r.2)]))(H30_0: ∀ (a0:List Int) r,ref04_Size fu a0=some r→cp 30 [.arr a0.length (lm (ik .i64) a0)]=some (.tuple [.v (.int .i64 r.1),.v (.int .i64 r.2)])):J (go prog (inlC [73]) cp (ciE prog (inlC [73]) cp noI fu 73 d73 ⟨b73,[],[]⟩ noI) 0 [] d36 fu (fin prog [.cell 6 28,.tmp 7] [28,34]) (bodyOf Tryz.f36) (initE 0 [.agg (c_T_Tensor x1),.arr x2.length (lm (ik .i64) x2),.arr x3.length (lm (ik .i64) x3)]) [] []) (ref05_Pick fu x1 x2 x3) e36:=by
 unfold ref05_Pick e36
 have da:=d36_at
 refine J.bind λx4 h1=> ?_
 have e_h1:=H20_0 _ _ h1
 try simp only[NN,NT,LN,simprocAttr,DT]at e_h1
 conv=>arg 1;simp (disch:=first|exact Zd|fail) only[bodyOf,Tryz.f36,ZZ,d36_at,simprocAttr,RI,RIk,initE,e_h1]
 refine J.eq go_seq ?_
 conv=>arg 1;simp (disch:=first|exact Zd|fail) only[ZZ,d36_at,simprocAttr,RI,RIk,initE,e_h1]
 refine J.ite (λh2=> ?_) (λh2=> ?_)
 ·have h2':=decide_eq_true h2
  conv=>arg 1;simp (disch:=first|exact Zd|fail) only[ZZ,d36_at,simprocAttr,RI,RIk,initE,e_h1,h2']
  refine J.eq ret_seq ?_
  refine J.bind λx5 h3=> ?_
  have e_h3:=H29_0 _ _ _ h3
  try simp only[NN,NT,LN,simprocAttr,DT]at e_h3
  conv=>arg 1;simp (disch:=first|exact Zd|fail) only[ZZ,d36_at,simprocAttr,RI,RIk,initE,e_h1,h2',e_h3]
  refine J.eq go_seq ?_
  conv=>arg 1;simp (disch:=first|exact Zd|fail) only[ZZ,d36_at,simprocAttr,RI,RIk,initE,e_h1,h2',e_h3]
  refine J.ite (λh4=> ?_) (λh4=> ?_)
  ·have h4':=decide_eq_true h4
   conv=>arg 1;simp (disch:=first|exact Zd|fail) only[ZZ,d36_at,simprocAttr,RI,RIk,initE,e_h1,h2',e_h3,h4']
   refine J.eq ret_seq ?_
   refine J.bind λx6 h5=> ?_
   have e_h5:=H30_0 _ _ h5
   try simp only[NN,NT,LN,simprocAttr,DT]at e_h5
   conv=>arg 1;simp (disch:=first|exact Zd|fail) only[ZZ,d36_at,simprocAttr,RI,RIk,initE,e_h1,h2',e_h3,h4',e_h5]
   refine J.eq go_seq ?_
   conv=>arg 1;simp (disch:=first|exact Zd|fail) only[ZZ,d36_at,simprocAttr,RI,RIk,initE,e_h1,h2',e_h3,h4',e_h5]
   refine J.ite (λh6=> ?_) (λh6=> ?_)
   ·have h6':=decide_eq_true h6
    conv=>arg 1;simp (disch:=first|exact Zd|fail) only[ZZ,d36_at,simprocAttr,RI,RIk,initE,e_h1,h2',e_h3,h4',e_h5,h6']
    refine J.eq ret_seq ?_
    refine J.eq go_seq ?_
    conv=>arg 1;simp (disch:=first|exact Zd|fail) only[ZZ,d36_at,simprocAttr,RI,RIk,initE,e_h1,h2',e_h3,h4',e_h5,h6']
    unfold ref05_Pick.W1
    refine J.loop (λ(s:(List Int)×(List Int)×(List Bool)×Int)=>([(2,.arr x3.length (lm (ik .i64) x3)),(3,.ptr (0,3,0) 0 0),(6,.ptr (0,6,0) 0 0),(9,.ptr (0,9,0) 0 0),(11,.v (.int .i64 x6.1)),(13,.v (.int .i64 (wk .i64 ((wk .i64 ((x1.fF.length:Int)+(x1.fI.length:Int)))+(x1.fB.length:Int))))),(14,.v (.int .i64 s.2.2.2))],[((0,3,0),.bx true ([.v (.int .i64 x1.fType),.arr x1.fDims.length (lm (ik .i64) x1.fDims),.arr x1.fF.length (lm (ik .u32) x1.fF),.arr x1.fI.length (lm (ik .i64) x1.fI),.arr x1.fB.length (lm (bk) x1.fB)])),((0,6,0),.bx true ([.v (.int .i64 0),.v (.slice none 0 0),.v (.slice none 0 0),.v (.slice none 0 0),.v (.slice none 0 0)])),((0,25,0),.sl true true 1 x5.1.fDims.length (lm (ik .i64) x5.1.fDims)),((0,25,1),.sl true true 1 s.1.length (lm (ik .u32) s.1)),((0,25,2),.sl true true 1 s.2.1.length (lm (ik .i64) s.2.1)),((0,25,3),.sl true true 1 s.2.2.1.length (lm (bk) s.2.2.1)),((0,9,0),.bx true ([.v (.int .i64 x5.1.fType),.own (0,25,0) 0 x5.1.fDims.length x5.1.fDims.length,.own (0,25,1) 0 s.1.length s.1.length,.own (0,25,2) 0 s.2.1.length s.2.1.length,.own (0,25,3) 0 s.2.2.1.length s.2.2.1.length]))])) (λnext s=>ref05_Pick.L1 fu x1 x3 x5 x6 (λx15 x16 x17 x18=>next (x15,x16,x17,x18)) s.1 s.2.1 s.2.2.1 s.2.2.2) (s0:=(x5.1.fF,x5.1.fI,x5.1.fB,0)) ?_ ?_ ?_
    ·exact Ze
    ·exact Zh
    rintro next k1 hn1 ⟨x15,x16,x17,x18⟩
    let nx1:(List Int)->(List Int)->(List Bool)->Int->Option (T_Tensor×Int):=(λx15 x16 x17 x18=>next (x15,x16,x17,x18))
    show J _ (ref05_Pick.L1 fu x1 x3 x5 x6 nx1 x15 x16 x17 x18) _
    unfold ref05_Pick.L1
    refine J.eq go_seq ?_
    conv=>arg 1;simp (disch:=first|exact Zd|fail) only[ZZ,d36_at,simprocAttr,go_b73,bodyOf,Tryz.f73,d73_at,RI,RIk,initE,e_h1,h2',e_h3,h4',e_h5,h6']
    refine J.ite (λh7=> ?_) (λh7=> ?_)
    ·have h7':=decide_eq_true h7
     have h7'':decide (x6.1<=x18)=false:=decide_eq_false (by omega)
     conv=>arg 1;simp (disch:=first|exact Zd|fail) only[ZZ,d36_at,simprocAttr,go_b73,bodyOf,Tryz.f73,d73_at,RI,RIk,initE,e_h1,h2',e_h3,h4',e_h5,h6',h7'',h7']
     refine J.eq ret_seq ?_
     refine J.eq go_seq ?_
     conv=>arg 1;simp (disch:=first|exact Zd|fail) only[ZZ,d36_at,simprocAttr,go_b73,bodyOf,Tryz.f73,d73_at,RI,RIk,initE,e_h1,h2',e_h3,h4',e_h5,h6',h7'',h7']
     refine J.joinS (λ(t:Unit)=>([(2,.arr x3.length (lm (ik .i64) x3)),(3,.ptr (0,3,0) 0 0),(6,.ptr (0,6,0) 0 0),(9,.ptr (0,9,0) 0 0),(11,.v (.int .i64 x6.1)),(13,.v (.int .i64 (wk .i64 ((wk .i64 ((x1.fF.length:Int)+(x1.fI.length:Int)))+(x1.fB.length:Int))))),(14,.v (.int .i64 x18))],[((0,3,0),.bx true ([.v (.int .i64 x1.fType),.arr x1.fDims.length (lm (ik .i64) x1.fDims),.arr x1.fF.length (lm (ik .u32) x1.fF),.arr x1.fI.length (lm (ik .i64) x1.fI),.arr x1.fB.length (lm (bk) x1.fB)])),((0,6,0),.bx true ([.v (.int .i64 0),.v (.slice none 0 0),.v (.slice none 0 0),.v (.slice none 0 0),.v (.slice none 0 0)])),((0,25,0),.sl true true 1 x5.1.fDims.length (lm (ik .i64) x5.1.fDims)),((0,25,1),.sl true true 1 x15.length (lm (ik .u32) x15)),((0,25,2),.sl true true 1 x16.length (lm (ik .i64) x16)),((0,25,3),.sl true true 1 x17.length (lm (bk) x17)),((0,9,0),.bx true ([.v (.int .i64 x5.1.fType),.own (0,25,0) 0 x5.1.fDims.length x5.1.fDims.length,.own (0,25,1) 0 x15.length x15.length,.own (0,25,2) 0 x16.length x16.length,.own (0,25,3) 0 x17.length x17.length]))])) (λt=>ref05_Pick.k1 fu nx1 x1 x3 x5 x15 x16 x17 x18) ?_ (λhj1=> ?_)
     ·rintro⟨⟩
      show J _ (ref05_Pick.k1 fu nx1 x1 x3 x5 x15 x16 x17 x18) _
      unfold ref05_Pick.k1
      refine J.at λx27 h8 h9 h10=> ?_
      conv=>arg 1;simp (disch:=first|exact Zd|fail) only[ZZ,d36_at,simprocAttr,go_b73,bodyOf,Tryz.f73,d73_at,RI,RIk,initE,e_h1,h2',e_h3,h4',e_h5,h6',h7'',h7',lm_ik h10]
      refine J.ite (λh11=> ?_) (λh11=> ?_)
      ·have h11':=decide_eq_true h11
       have h11'':decide (x27<0)=false:=decide_eq_false (by omega)
       conv=>arg 1;simp (disch:=first|exact Zd|fail) only[ZZ,d36_at,simprocAttr,bodyOf,Tryz.f73,d73_at,RI,RIk,initE,e_h1,h2',e_h3,h4',e_h5,h6',h7'',h7',lm_ik h10,h11'',h11']
       refine J.callK (λ(t:(List Int)×(List Int)×(List Bool))=>(.tuple [],[((0,3,0),.bx true ([.v (.int .i64 x1.fType),.arr x1.fDims.length (lm (ik .i64) x1.fDims),.arr x1.fF.length (lm (ik .u32) x1.fF),.arr x1.fI.length (lm (ik .i64) x1.fI),.arr x1.fB.length (lm (bk) x1.fB)])),((0,6,0),.bx true ([.v (.int .i64 0),.v (.slice none 0 0),.v (.slice none 0 0),.v (.slice none 0 0),.v (.slice none 0 0)])),((0,25,0),.sl true true 1 x5.1.fDims.length (lm (ik .i64) x5.1.fDims)),((0,25,1),.sl true true 1 x15.length (lm (ik .u32) t.1)),((0,25,2),.sl true true 1 x16.length (lm (ik .i64) t.2.1)),((0,25,3),.sl true true 1 x17.length (lm (bk) t.2.2)),((0,9,0),.bx true ([.v (.int .i64 x5.1.fType),.own (0,25,0) 0 x5.1.fDims.length x5.1.fDims.length,.own (0,25,1) 0 x15.length x15.length,.own (0,25,2) 0 x16.length x16.length,.own (0,25,3) 0 x17.length x17.length]))])) (λt=>ref05_Pick.c2 fu nx1 x15 x16 x17 x18 t.1 t.2.1 t.2.2) ?_ (λhj2=> ?_)
       ·rintro⟨x28,x29,x30⟩
        show J _ (ref05_Pick.c2 fu nx1 x15 x16 x17 x18 x28 x29 x30) _
        unfold ref05_Pick.c2
        refine J.chk λh12=> ?_
        refine J.chk λh13=> ?_
        refine J.chk λh14=> ?_
        conv=>arg 1;simp (disch:=first|exact Zd|fail) only[ZZ,d36_at,simprocAttr,go_b73,bodyOf,Tryz.f73,d73_at,RI,RIk,initE,e_h1,h2',e_h3,h4',e_h5,h6',h7'',h7',lm_ik h10,h11'',h11',h12,h13,h14]
        refine J.eq ret_seq ?_
        conv=>arg 1;simp (disch:=first|exact Zd|fail) only[ZZ,d36_at,simprocAttr,go_b73,bodyOf,Tryz.f73,d73_at,RI,RIk,initE,e_h1,h2',e_h3,h4',e_h5,h6',h7'',h7',lm_ik h10,h11'',h11',h12,h13,h14]
        refine J.next (s:=(x28,x29,x30,wk .i64 (x18+1))) hn1 ?_ ?_
        ·exact Ze
        ·exact Zh
       ·refine J.hd jc_at ?_
        refine J.eq go_b73 ?_
        conv=>arg 1;simp (disch:=first|exact Zd|fail) only[ZZ,d36_at,simprocAttr,go_b73,bodyOf,Tryz.f73,d73_at,RI,initE,e_h1,h2',e_h3,h4',e_h5,h6',h7'',h7',lm_ik h10,h11'',h11']
        refine J.ite (λh15=> ?_) (λh15=> ?_)
        ·have h15':=decide_eq_true h15
         refine J.at λx31 h16 h17 h18=> ?_
         refine J.chk λh19=> ?_
         conv=>arg 1;simp (disch:=first|exact Zd|fail) only[ZZ,d36_at,simprocAttr,go_b73,bodyOf,Tryz.f73,d73_at,RI,initE,e_h1,h2',e_h3,h4',e_h5,h6',h7'',h7',lm_ik h10,h11'',h11',h15',lm_ik h18]
         refine J.knormal (t:=(x15.set x18.toNat x31,x16,x17)) hj2 ?_
         simp (disch:=first|exact Zd|fail) only[ZZ,d36_at,simprocAttr,go_b73,bodyOf,Tryz.f73,d73_at,RI,initE,e_h1,h2',e_h3,h4',e_h5,h6',h7'',h7',lm_ik h10,h11'',h11',h15',lm_ik h18,kinV_at,kinVB_at,LN,NN,NT]
        ·have h15':=decide_eq_false h15
         conv=>arg 1;simp (disch:=first|exact Zd|fail) only[ZZ,d36_at,simprocAttr,go_b73,bodyOf,Tryz.f73,d73_at,RI,initE,e_h1,h2',e_h3,h4',e_h5,h6',h7'',h7',lm_ik h10,h11'',h11',h15']
         refine J.ite (λh20=> ?_) (λh20=> ?_)
         ·have h20':=decide_eq_true h20
          refine J.at λx32 h21 h22 h23=> ?_
          refine J.chk λh24=> ?_
          conv=>arg 1;simp (disch:=first|exact Zd|fail) only[ZZ,d36_at,simprocAttr,go_b73,bodyOf,Tryz.f73,d73_at,RI,initE,e_h1,h2',e_h3,h4',e_h5,h6',h7'',h7',lm_ik h10,h11'',h11',h15',h20',lm_ik h23]
          refine J.knormal (t:=(x15,x16.set x18.toNat x32,x17)) hj2 ?_
          simp (disch:=first|exact Zd|fail) only[ZZ,d36_at,simprocAttr,go_b73,bodyOf,Tryz.f73,d73_at,RI,initE,e_h1,h2',e_h3,h4',e_h5,h6',h7'',h7',lm_ik h10,h11'',h11',h15',h20',lm_ik h23,kinV_at,kinVB_at,LN,NN,NT]
         ·have h20':=decide_eq_false h20
          refine J.at λx33 h25 h26 h27=> ?_
          refine J.chk λh28=> ?_
          conv=>arg 1;simp (disch:=first|exact Zd|fail) only[ZZ,d36_at,simprocAttr,go_b73,bodyOf,Tryz.f73,d73_at,RI,initE,e_h1,h2',e_h3,h4',e_h5,h6',h7'',h7',lm_ik h10,h11'',h11',h15',h20',lm_bk h27]
          refine J.knormal (t:=(x15,x16,x17.set x18.toNat x33)) hj2 ?_
          simp (disch:=first|exact Zd|fail) only[ZZ,d36_at,simprocAttr,go_b73,bodyOf,Tryz.f73,d73_at,RI,initE,e_h1,h2',e_h3,h4',e_h5,h6',h7'',h7',lm_ik h10,h11'',h11',h15',h20',lm_bk h27,kinV_at,kinVB_at,LN,NN,NT]
      ·have h11':=decide_eq_false h11
       have h11'':decide (x27<0)=true:=decide_eq_true (by omega)
       conv=>arg 1;simp (disch:=first|exact Zd|fail) only[ZZ,d36_at,simprocAttr,go_b73,bodyOf,Tryz.f73,d73_at,RI,RIk,initE,e_h1,h2',e_h3,h4',e_h5,h6',h7'',h7',lm_ik h10,h11'',h11']
       refine J.eq ret_seq ?_
       conv=>arg 1;simp (disch:=first|exact Zd|fail) only[ZZ,d36_at,simprocAttr,go_b73,bodyOf,Tryz.f73,d73_at,RI,RIk,initE,e_h1,h2',e_h3,h4',e_h5,h6',h7'',h7',lm_ik h10,h11'',h11']
       refine J.next (s:=(x15,x16,x17,wk .i64 (x18+1))) hn1 ?_ ?_
       ·exact Ze
       ·exact Zh
     ·refine J.hd jn_at ?_
      refine J.eq go_seq ?_
      refine J.at λx34 h29 h30 h31=> ?_
      conv=>arg 1;simp (disch:=first|exact Zd|fail) only[ZZ,d36_at,simprocAttr,go_b73,bodyOf,Tryz.f73,d73_at,RI,RIk,initE,e_h1,h2',e_h3,h4',e_h5,h6',h7'',h7',lm_ik h31]
      refine J.ite (λh32=> ?_) (λh32=> ?_)
      ·have h32':=decide_eq_true h32
       have h32'':decide ((-1)<=x34)=false:=decide_eq_false (by omega)
       conv=>arg 1;simp (disch:=first|exact Zd|fail) only[ZZ,d36_at,simprocAttr,go_b73,bodyOf,Tryz.f73,d73_at,RI,RIk,initE,e_h1,h2',e_h3,h4',e_h5,h6',h7'',h7',lm_ik h31,h32'',h32']
       refine J.eq ret_seq ?_
       refine J.some ?_
       simp (maxSteps:=20000000) (disch:=first|exact Zd|fail) only[ZZ,d36_at,simprocAttr,go_b73,bodyOf,Tryz.f73,d73_at,RI,RIk,initE,e_h1,h2',e_h3,h4',e_h5,h6',h7'',h7',lm_ik h31,h32'',h32',FN]
      ·have h32':=decide_eq_false h32
       have h32'':decide ((-1)<=x34)=true:=decide_eq_true (by omega)
       conv=>arg 1;simp (disch:=first|exact Zd|fail) only[ZZ,d36_at,simprocAttr,go_b73,bodyOf,Tryz.f73,d73_at,RI,RIk,initE,e_h1,h2',e_h3,h4',e_h5,h6',h7'',h7',lm_ik h31,h32'',h32']
       refine J.eq ret_seq ?_
       conv=>arg 1;simp (disch:=first|exact Zd|fail) only[ZZ,d36_at,simprocAttr,go_b73,bodyOf,Tryz.f73,d73_at,RI,RIk,initE,e_h1,h2',e_h3,h4',e_h5,h6',h7'',h7',lm_ik h31,h32'',h32']
       refine J.ite (λh33=> ?_) (λh33=> ?_)
       ·have h33':=decide_eq_true h33
        have h33'':decide (x34<(wk .i64 ((wk .i64 ((x1.fF.length:Int)+(x1.fI.length:Int)))+(x1.fB.length:Int))))=false:=decide_eq_false (by omega)
        refine J.some ?_
        simp (maxSteps:=20000000) (disch:=first|exact Zd|fail) only[ZZ,d36_at,simprocAttr,go_b73,bodyOf,Tryz.f73,d73_at,RI,RIk,initE,e_h1,h2',e_h3,h4',e_h5,h6',h7'',h7',lm_ik h31,h32'',h32',h33'',h33',FN]
       ·have h33':=decide_eq_false h33
        have h33'':decide (x34<(wk .i64 ((wk .i64 ((x1.fF.length:Int)+(x1.fI.length:Int)))+(x1.fB.length:Int))))=true:=decide_eq_true (by omega)
        conv=>arg 1;simp (disch:=first|exact Zd|fail) only[ZZ,d36_at,simprocAttr,go_b73,bodyOf,Tryz.f73,d73_at,RI,RIk,initE,e_h1,h2',e_h3,h4',e_h5,h6',h7'',h7',lm_ik h31,h32'',h32',h33'',h33']
        refine J.jmp (t:=()) hj1 ?_ ?_
        ·exact Ze
        ·exact Zh
    ·have h7':=decide_eq_false h7
     have h7'':decide (x6.1<=x18)=true:=decide_eq_true (by omega)
     conv=>arg 1;simp (disch:=first|exact Zd|fail) only[ZZ,d36_at,simprocAttr,go_b73,bodyOf,Tryz.f73,d73_at,RI,RIk,initE,e_h1,h2',e_h3,h4',e_h5,h6',h7'',h7']
     refine J.eq ret_seq ?_
     refine J.some ?_
     simp (maxSteps:=20000000) (disch:=first|exact Zd|fail) only[ZZ,d36_at,simprocAttr,go_b73,bodyOf,Tryz.f73,d73_at,RI,RIk,initE,e_h1,h2',e_h3,h4',e_h5,h6',h7'',h7',FN]
   ·have h6':=decide_eq_false h6
    refine J.some ?_
    simp (maxSteps:=20000000) (disch:=first|exact Zd|fail) only[ZZ,d36_at,simprocAttr,go_b73,bodyOf,Tryz.f73,d73_at,RI,RIk,initE,e_h1,h2',e_h3,h4',e_h5,h6',FN]
  ·have h4':=decide_eq_false h4
   refine J.some ?_
   simp (maxSteps:=20000000) (disch:=first|exact Zd|fail) only[ZZ,d36_at,simprocAttr,go_b73,bodyOf,Tryz.f73,d73_at,RI,RIk,initE,e_h1,h2',e_h3,h4',FN]
 ·have h2':=decide_eq_false h2
  refine J.some ?_
  simp (maxSteps:=20000000) (disch:=first|exact Zd|fail) only[ZZ,d36_at,simprocAttr,go_b73,bodyOf,Tryz.f73,d73_at,RI,RIk,initE,e_h1,h2',FN]
noncomputable def t36(fu:Nat):CallP:=orE 20 (mkC (λ(t:T_Tensor)=>([.agg (c_T_Tensor t)]:List AV)) (λt=>ref05_Check fu t) e20) (orE 29 (mkC (λ(t:Int×(List Int))=>([.v (.int .i64 t.1),.arr t.2.length (lm (ik .i64) t.2)]:List AV)) (λt=>ref05_New fu t.1 t.2) e29) (orE 30 (mkC (λ(t:List Int)=>([.arr t.length (lm (ik .i64) t)]:List AV)) (λt=>ref04_Size fu t) e30) (noP)))
theorem t36_ok(fu:Nat):CpOK prog (t36 fu):=orE_ok (orE_ok (orE_ok (noP_ok) (mkC_ok (λt b h=>ok30 fu t b h))) (mkC_ok (λt b h=>ok29 fu t.1 t.2 b h))) (mkC_ok (λt b h=>ok20 fu t b h))
theorem ok36(fu:Nat)(x1:T_Tensor)(x2:List Int)(x3:List Int)(r)(h:ref05_Pick fu x1 x2 x3=some r):PureOK prog 36 [.agg (c_T_Tensor x1),.arr x2.length (lm (ik .i64) x2),.arr x3.length (lm (ik .i64) x3)] (e36 r):=
  pure_J mixed (cp:=t36 fu) (t36_ok fu) (ciE_ok mixed (t36_ok fu) noI_ok i73 noI_ok) i36 (w36 _ fu x1 x2 x3 (λa0 r h=>orE_hit (mkC_at (a:=a0) (by intro a b h;first|(exact rfl)|(simp only[INJ,IJ]at h;first|exact h|(simp_all [Prod.ext_iff]))) h)) (λa0 a1 r h=>orE_miss (by decide) (orE_hit (mkC_at (a:=(a0,a1)) (by intro a b h;first|(exact rfl)|(simp only[INJ,IJ]at h;first|exact h|(simp_all [Prod.ext_iff]))) h))) (λa0 r h=>orE_miss (by decide) (orE_miss (by decide) (orE_hit (mkC_at (a:=a0) (by intro a b h;first|(exact rfl)|(simp only[INJ,IJ]at h;first|exact h|(simp_all [Prod.ext_iff]))) h))))) h
def d17:TD:=[(0,[0]),(0,[5,8]),(0,[6,13,14,15,16,17]),(0,[]),(0,[1000007]),(0,[]),(0,[]),(0,[]),(0,[18,19]),(0,[]),(0,[21,22]),(0,[]),(0,[10,23,24,25,26,27,28,29,30]),(0,[]),(0,[9,31,32,33,34]),(0,[]),(0,[1,2,7,12,35,36,37,38,39,40,41]),(0,[]),(0,[11,42])]
def d17_at:=by have h:=tabL d17.eq_1;simp only[AllAt,Nat.zero_add,Nat.reduceAdd]at h;exact h
theorem i17:finfo prog 17 d17=some ⟨bodyOf Tryz.f17,[.cell 4 28],[28]⟩:=fA Tryz.func17
def e17:T_Tensor->AV:=λr=> .agg [.v (.int .i64 r.fType),.arr r.fDims.length (lm (ik .i64) r.fDims),.arr r.fF.length (lm (ik .u32) r.fF),.arr r.fI.length (lm (ik .i64) r.fI),.arr r.fB.length (lm (bk) r.fB)]
structure K35 (fu:Nat) (cp:CallP):Prop where
 ap: ∀ {a0:List Int} {a1:List Int} {a2:Int} {r},ref04_From fu a0 a1 a2=some r->cp 35 [.arr a0.length (lm (ik .i64) a0),.arr a1.length (lm (ik .i64) a1),.v (.int .i64 a2)]=some (.tuple [.v (.int .i64 r.1),.v (.int .i64 r.2)])
noncomputable def C35(fu:Nat):Cm prog ((List Int)×(List Int)×Int) (Int×Int):=⟨35,λt=>[.arr t.1.length (lm (ik .i64) t.1),.arr t.2.1.length (lm (ik .i64) t.2.1),.v (.int .i64 t.2.2)],λt=>ref04_From fu t.1 t.2.1 t.2.2,e35,λt b h=>ok35 fu t.1 t.2.1 t.2.2 b h,Zi⟩
theorem u35{fu:Nat}{cp:CallP}(H:Hit cp (C35 fu).ct):K35 fu cp:=⟨λ {a0 a1 a2 r} h=>(C35 fu).at H (a0,a1,a2) r h⟩
structure K36 (fu:Nat) (cp:CallP):Prop where
 ap: ∀ {a0:T_Tensor} {a1:List Int} {a2:List Int} {r},ref05_Pick fu a0 a1 a2=some r->cp 36 [.agg (c_T_Tensor a0),.arr a1.length (lm (ik .i64) a1),.arr a2.length (lm (ik .i64) a2)]=some (.tuple [.agg [.v (.int .i64 r.1.fType),.fresh 1 r.1.fDims.length (lm (ik .i64) r.1.fDims),.fresh 1 r.1.fF.length (lm (ik .u32) r.1.fF),.fresh 1 r.1.fI.length (lm (ik .i64) r.1.fI),.fresh 1 r.1.fB.length (lm (bk) r.1.fB)],.v (.int .i64 r.2)])
noncomputable def C36(fu:Nat):Cm prog (T_Tensor×(List Int)×(List Int)) (T_Tensor×Int):=⟨36,λt=>[.agg (c_T_Tensor t.1),.arr t.2.1.length (lm (ik .i64) t.2.1),.arr t.2.2.length (lm (ik .i64) t.2.2)],λt=>ref05_Pick fu t.1 t.2.1 t.2.2,e36,λt b h=>ok36 fu t.1 t.2.1 t.2.2 b h,Zi⟩
theorem u36{fu:Nat}{cp:CallP}(H:Hit cp (C36 fu).ct):K36 fu cp:=⟨λ {a0 a1 a2 r} h=>(C36 fu).at H (a0,a1,a2) r h⟩
def law11_spread.m1:LJ 1 8 Unit ((List Int)×Int):=⟨λr s e=>[(1,er e 1),(2,er e 2),(4,er e 4),(5,er e 5),(7,.own (0,7,77) 0 s.1.length s.1.length),(8,.v (.int .i64 s.2))],λr s h=>[((0,2,0),hr h (0,2,0)),((0,4,0),hr h (0,4,0)),((0,7,77),.sl true true 1 s.1.length (lm (ik .i64) s.1))]⟩
def law11_spread.j1:LJ 1 16 Unit (List Int):=⟨λr t e=>[(1,er e 1),(2,er e 2),(4,er e 4),(7,.own (0,7,77) 0 t.length t.length)],λr t h=>[((0,2,0),hr h (0,2,0)),((0,4,0),hr h (0,4,0)),((0,7,77),.sl true true 1 t.length (lm (ik .i64) t))]⟩
open law11_spread in
theorem w17(cp:CallP)(fu:Nat)(x1:T_Tensor)(x2:List Int)(H1:K30 fu cp)(H2:K35 fu cp)(H3:K36 fu cp):J (go prog noC cp noI 0 [] d17 fu (finS prog [.cell 4 28] [28]) (bodyOf Tryz.f17) (initE 0 [.agg (c_T_Tensor x1),.arr x2.length (lm (ik .i64) x2)]) [] []) (law11_spread fu x1 x2) e17:=by
 unfold law11_spread e17
 have da:=d17_at
 conv=>arg 1;simp only[bodyOf,Tryz.f17]
 have z0:=d17_at
 have z1:=SE
 exact Wk
theorem ok17(fu:Nat)(x1:T_Tensor)(x2:List Int)(r)(h:law11_spread fu x1 x2=some r):PureOK prog 17 [.agg (c_T_Tensor x1),.arr x2.length (lm (ik .i64) x2)] (e17 r):=pureST mixed [(C30 fu).ct,(C35 fu).ct,(C36 fu).ct] (ids:=[30,35,36]) rfl (by decide) i17 (C:=noC) (ci:=λcp=>noI) (λcp ok=>noI_ok) (λcp H=>w17 cp fu x1 x2 (u30 H.1) (u35 H.2.1) (u36 H.2.2.1)) h
def d13:TD:=[(0,[0,1,4]),(0,[5]),(0,[8,9,10,11,12,13,14,15,16,17,18,19,20,21,22,23,24,25,26,27,28,29,30,31,32,33,34,35,36,37,38,39,40,41,42,43,44,45,46]),(0,[]),(0,[]),(0,[6]),(0,[]),(0,[]),(0,[48,49,50,51]),(0,[2,3,7]),(0,[53,54]),(0,[]),(11,[55,56,57,58,59,60,61,62,63,64]),(0,[]),(0,[]),(0,[]),(0,[]),(0,[]),(0,[66,67,68,69]),(0,[]),(0,[71,72]),(0,[]),(11,[73,74,75,76,77,78,79,80,81,82]),(0,[]),(0,[]),(0,[]),(0,[]),(0,[]),(0,[84,85,86,87]),(0,[]),(0,[89,90]),(0,[]),(11,[91,92,93,94,95,96,97,98,99,100]),(0,[]),(0,[]),(0,[]),(0,[])]
def d13_at:=by have h:=tabL d13.eq_1;simp only[AllAt,Nat.zero_add,Nat.reduceAdd]at h;exact h
theorem i13:finfo prog 13 d13=some ⟨bodyOf Tryz.f13,[.tmp 4],[4]⟩:=fA Tryz.func13
def e13:Bool->AV:=λr=> .v (.bool r)
def ref05_Same.m1:LJ 1 28 Unit Int:=⟨λr s e=>[(2,er e 2),(3,er e 3),(7,.v (.int .i64 s))],λr s h=>[((0,2,0),hr h (0,2,0)),((0,3,0),hr h (0,3,0))]⟩
def ref05_Same.m2:LJ 2 18 Unit Int:=⟨λr s e=>[(2,er e 2),(3,er e 3),(6,.v (.int .i64 s))],λr s h=>[((0,2,0),hr h (0,2,0)),((0,3,0),hr h (0,3,0))]⟩
def ref05_Same.j3:LJ 3 26 Unit Unit:=⟨λr t e=>[(2,er e 2),(3,er e 3)],λr t h=>[((0,2,0),hr h (0,2,0)),((0,3,0),hr h (0,3,0))]⟩
def ref05_Same.m3:LJ 3 8 Unit Int:=⟨λr s e=>[(2,er e 2),(3,er e 3),(5,.v (.int .i64 s))],λr s h=>[((0,2,0),hr h (0,2,0)),((0,3,0),hr h (0,3,0))]⟩
def ref05_Same.j2:LJ 2 16 Unit Unit:=⟨λr t e=>[(2,er e 2),(3,er e 3)],λr t h=>[((0,2,0),hr h (0,2,0)),((0,3,0),hr h (0,3,0))]⟩
def ref05_Same.j1:LJ 1 6 Unit Unit:=⟨λr t e=>[(2,er e 2),(3,er e 3)],λr t h=>[((0,2,0),hr h (0,2,0)),((0,3,0),hr h (0,3,0))]⟩
open ref05_Same in
theorem w13(cp:CallP)(fu:Nat)(x1:T_Tensor)(x2:T_Tensor)(H1:K16 fu cp):J (go prog noC cp noI 0 [] d13 fu (fin prog [.tmp 4] [4]) (bodyOf Tryz.f13) (initE 0 [.agg (c_T_Tensor x1),.agg (c_T_Tensor x2)]) [] []) (ref05_Same fu x1 x2) e13:=by
 unfold ref05_Same e13
 have da:=d13_at
 conv=>arg 1;simp only[bodyOf,Tryz.f13]
 have z0:=d13_at
 exact Wk
theorem ok13(fu:Nat)(x1:T_Tensor)(x2:T_Tensor)(r)(h:ref05_Same fu x1 x2=some r):PureOK prog 13 [.agg (c_T_Tensor x1),.agg (c_T_Tensor x2)] (e13 r):=pureT mixed [(C16 fu).ct] (ids:=[16]) rfl (by decide) i13 (C:=noC) (ci:=λcp=>noI) (λcp ok=>noI_ok) (λcp H=>w13 cp fu x1 x2 (u16 H.1)) h
def d6:TD:=[(0,[1,2,3,8]),(0,[]),(0,[14]),(0,[]),(0,[15,16,17,18,19,20,21,22,23,24,25,26,27]),(0,[]),(0,[29]),(0,[]),(0,[30,31,32,33,34,35,36,37,38]),(0,[]),(0,[11,39]),(0,[]),(0,[41,42,43,44,45,46,47,48,49,50,51,52,53,54,55]),(0,[]),(24845527834625349609541870318691075671744399197312,[0,5,6,7,56,57,58,59,60,61,62,63,64,65,66,67,68,69,70]),(0,[]),(0,[9,10,12,13,71,72,73,74,75,76,77,78,79,80])]
def d6_at:=by have h:=tabL d6.eq_1;simp only[AllAt,Nat.zero_add,Nat.reduceAdd]at h;exact h
theorem i6:finfo prog 6 d6=some ⟨bodyOf Tryz.f6,[.tmp 8],[4]⟩:=fA Tryz.func6
def e6:Bool->AV:=λr=> .v (.bool r)
noncomputable def C9:Cm prog Unit Bool:=⟨9,λ_=>[],λ_=>some true,λb=> .v (.bool b),λ_ b h=>by injection h with h;subst h;exact awake9,λ_ _ _=>rfl⟩
structure K11 (fu:Nat) (cp:CallP):Prop where
 ap: ∀ {a0:Int} {a1:T_Setting} {a2:List T_Tensor} {r},ewise_Do fu a0 a1 a2=some r->cp 11 [.v (.int .i64 a0),.agg (c_T_Setting a1),.arr a2.length (fm c_T_Tensor a2)]=some (.tuple [.agg [.v (.int .i64 r.1.fType),.arr r.1.fDims.length (lm (ik .i64) r.1.fDims),.arr r.1.fF.length (lm (ik .u32) r.1.fF),.arr r.1.fI.length (lm (ik .i64) r.1.fI),.arr r.1.fB.length (lm (bk) r.1.fB)],.v (.int .i64 r.2)])
noncomputable def C11(fu:Nat):Cm prog (Int×T_Setting×(List T_Tensor)) (T_Tensor×Int):=⟨11,λt=>[.v (.int .i64 t.1),.agg (c_T_Setting t.2.1),.arr t.2.2.length (fm c_T_Tensor t.2.2)],λt=>ewise_Do fu t.1 t.2.1 t.2.2,e11,λt b h=>ok11 fu t.1 t.2.1 t.2.2 b h,Zi⟩
theorem u11{fu:Nat}{cp:CallP}(H:Hit cp (C11 fu).ct):K11 fu cp:=⟨λ {a0 a1 a2 r} h=>(C11 fu).at H (a0,a1,a2) r h⟩
structure K17 (fu:Nat) (cp:CallP):Prop where
 ap: ∀ {a0:T_Tensor} {a1:List Int} {r},law11_spread fu a0 a1=some r->cp 17 [.agg (c_T_Tensor a0),.arr a1.length (lm (ik .i64) a1)]=some (.agg [.v (.int .i64 r.fType),.arr r.fDims.length (lm (ik .i64) r.fDims),.arr r.fF.length (lm (ik .u32) r.fF),.arr r.fI.length (lm (ik .i64) r.fI),.arr r.fB.length (lm (bk) r.fB)])
noncomputable def C17(fu:Nat):Cm prog (T_Tensor×(List Int)) T_Tensor:=⟨17,λt=>[.agg (c_T_Tensor t.1),.arr t.2.length (lm (ik .i64) t.2)],λt=>law11_spread fu t.1 t.2,e17,λt b h=>ok17 fu t.1 t.2 b h,Zi⟩
theorem u17{fu:Nat}{cp:CallP}(H:Hit cp (C17 fu).ct):K17 fu cp:=⟨λ {a0 a1 r} h=>(C17 fu).at H (a0,a1) r h⟩
structure K13 (fu:Nat) (cp:CallP):Prop where
 ap: ∀ {a0:T_Tensor} {a1:T_Tensor} {r},ref05_Same fu a0 a1=some r->cp 13 [.agg (c_T_Tensor a0),.agg (c_T_Tensor a1)]=some (.v (.bool r))
noncomputable def C13(fu:Nat):Cm prog (T_Tensor×T_Tensor) Bool:=⟨13,λt=>[.agg (c_T_Tensor t.1),.agg (c_T_Tensor t.2)],λt=>ref05_Same fu t.1 t.2,e13,λt b h=>ok13 fu t.1 t.2 b h,Zi⟩
theorem u13{fu:Nat}{cp:CallP}(H:Hit cp (C13 fu).ct):K13 fu cp:=⟨λ {a0 a1 r} h=>(C13 fu).at H (a0,a1) r h⟩
def law11_EwiseSpread.j2:LJ 2 0 (T_Tensor×Int) Unit:=⟨λr t e=>[(0,er e 0),(5,er e 5),(6,er e 6),(7,er e 7),(8,.v (.bool (decide ((wk .i64 ((wk .i64 ((r.1.fF.length:Int)+(r.1.fI.length:Int)))+(r.1.fB.length:Int)))=0)))),(9,er e 9),(10,er e 10)],λr t h=>[((0,5,0),hr h (0,5,0)),((0,6,0),hr h (0,6,0)),((0,7,0),hr h (0,7,0)),((0,35,0),hr h (0,35,0)),((0,10,0),hr h (0,10,0))]⟩
def law11_EwiseSpread.j1:LJ 1 8 Unit Unit:=⟨λr t e=>[(0,er e 0),(5,er e 5),(6,er e 6),(7,er e 7),(9,er e 9)],λr t h=>[((0,5,0),hr h (0,5,0)),((0,6,0),hr h (0,6,0)),((0,7,0),hr h (0,7,0))]⟩
open law11_EwiseSpread in
theorem w6(cp:CallP)(fu:Nat)(x1:Int)(x2:T_Setting)(x3:T_Tensor)(x4:T_Tensor)(H1:cp 9 []=some (.v (.bool true)))(H2:K11 fu cp)(H3:K17 fu cp)(H4:K13 fu cp):J (go prog noCs cp noI 0 [] d6 fu (fin prog [.tmp 8] [4]) (bodyOf Tryz.f6) (initE 0 [.v (.int .i64 x1),.agg (c_T_Setting x2),.agg (c_T_Tensor x3),.agg (c_T_Tensor x4)]) [] []) (law11_EwiseSpread fu x1 x2 x3 x4) e6:=by
 unfold law11_EwiseSpread e6
 have da:=d6_at
 conv=>arg 1;simp only[bodyOf,Tryz.f6]
 have z0:=d6_at
 have z1:=RL
 have z2:= @aop_callC
 have z3:= @aq_callC
 exact Wk
theorem ok6(fu:Nat)(x1:Int)(x2:T_Setting)(x3:T_Tensor)(x4:T_Tensor)(r)(h:law11_EwiseSpread fu x1 x2 x3 x4=some r):PureOK prog 6 [.v (.int .i64 x1),.agg (c_T_Setting x2),.agg (c_T_Tensor x3),.agg (c_T_Tensor x4)] (e6 r):=pureT mixed [C9.ct,(C11 fu).ct,(C17 fu).ct,(C13 fu).ct] (ids:=[9,11,17,13]) rfl (by decide) i6 (C:=noCs) (ci:=λcp=>noI) (λcp ok=>noI_ok) (λcp H=>w6 cp fu x1 x2 x3 x4 (C9.at H.1 () true rfl) (u11 H.2.1) (u17 H.2.2.1) (u13 H.2.2.2.1)) h
end Go.Av
