/- The walks of the plain functions, part 3. Made by a program of mine. Conditions: none. -/
import Derived.Test.YtebfneaimafcoaaGreatQ4W2
set_option linter.unusedVariables false
set_option linter.unusedSimpArgs false
set_option linter.defProp false
set_option maxRecDepth 20000
open Go Go.Proofs
namespace Go.Av
open Aw (d17 d22 d23 d24 d25 d26 d27 d38 d39 d40 d41 d42 d43 d44 d45 d54 d60 d62 d80 d81 d82 d83 d84 d85 d86 d87 d88 d89 d91 d92 d93 d94 d95 d100 d106 d107 d120 d148 d149 d150 d152 d153 d154 d155 d159 d160 d161 d162 d163 d164 d165 d166 d168 d184 d195 d196 d197)
open Aw (d185)
def d185_at:=by have h:=tabL Aw.d185.eq_1;simp only[AllAt,Nat.zero_add,Nat.reduceAdd]at h;exact h
theorem i185:finfo Tryz.prog 185 d185=some ⟨bodyOf Tryz.f185,[.tmp 2],[3]⟩:=finfo_at Tryz.func185 rfl (by kernel_rfl) (by kernel_rfl)
def e185:Int->AV:=λr=> .v (.int .i64 r)
set_option maxHeartbeats 20000000 in
theorem w185(cp:CallP)(fu:Nat)(x1:Int)(H1:K150 fu cp):J (go Tryz.prog noC cp noI 0 [] d185 fu (fin Tryz.prog [.tmp 2] [3]) (bodyOf Tryz.f185) (initE 0 [.v (.int .u32 x1)]) [] []) (soft_place fu x1) e185:=by
 unfold soft_place e185
 have da:=d185_at
 conv=>arg 1;simp only[bodyOf,Tryz.f185]
 have z0:=d185_at
 exact Wk
theorem ok185(fu:Nat)(x1:Int)(r)(h:soft_place fu x1=some r):PureOK Tryz.prog 185 [.v (.int .u32 x1)] (e185 r):=pureT mixed [(C150 fu).ct] (ids:=[150]) rfl (by decide) i185 (C:=noC) (ci:=λcp=>noI) (λcp ok=>noI_ok) (λcp H=>w185 cp fu x1 (u150 H.1)) h
open Aw (d112)
def d112_at:=by have h:=tabL Aw.d112.eq_1;simp only[AllAt,Nat.zero_add,Nat.reduceAdd]at h;exact h
theorem i112:finfo Tryz.prog 112 d112=some ⟨bodyOf Tryz.f112,[.tmp 4],[4]⟩:=finfo_at Tryz.func112 rfl (by kernel_rfl) (by kernel_rfl)
def e112:Bool->AV:=λr=> .v (.bool r)
structure K185 (fu:Nat) (cp:CallP):Prop where
 ap: ∀ {a0:Int} {r},soft_place fu a0=some r->cp 185 [.v (.int .u32 a0)]=some (.v (.int .i64 r))
noncomputable def C185(fu:Nat):Cm Tryz.prog Int Int:=⟨185,λt=>[.v (.int .u32 t)],λt=>soft_place fu t,e185,λt b h=>ok185 fu t b h,Zi⟩
theorem u185{fu:Nat}{cp:CallP}(H:Hit cp (C185 fu).ct):K185 fu cp:=⟨λ {a0 r} h=>(C185 fu).at H a0 r h⟩
set_option maxHeartbeats 20000000 in
theorem w112(cp:CallP)(fu:Nat)(x1:Int)(x2:Int)(H1:K89 fu cp)(H2:K185 fu cp):J (go Tryz.prog noC cp noI 0 [] d112 fu (fin Tryz.prog [.tmp 4] [4]) (bodyOf Tryz.f112) (initE 0 [.v (.int .u32 x1),.v (.int .u32 x2)]) [] []) (soft_Equal fu x1 x2) e112:=by
 unfold soft_Equal e112
 have da:=d112_at
 conv=>arg 1;simp only[bodyOf,Tryz.f112]
 have z0:=d112_at
 exact Wk
theorem ok112(fu:Nat)(x1:Int)(x2:Int)(r)(h:soft_Equal fu x1 x2=some r):PureOK Tryz.prog 112 [.v (.int .u32 x1),.v (.int .u32 x2)] (e112 r):=pureT mixed [(C89 fu).ct,(C185 fu).ct] (ids:=[89,185]) rfl (by decide) i112 (C:=noC) (ci:=λcp=>noI) (λcp ok=>noI_ok) (λcp H=>w112 cp fu x1 x2 (u89 H.1) (u185 H.2.1)) h
open Aw (d111)
def d111_at:=by have h:=tabL Aw.d111.eq_1;simp only[AllAt,Nat.zero_add,Nat.reduceAdd]at h;exact h
theorem i111:finfo Tryz.prog 111 d111=some ⟨bodyOf Tryz.f111,[.tmp 4],[4]⟩:=finfo_at Tryz.func111 rfl (by kernel_rfl) (by kernel_rfl)
def e111:Bool->AV:=λr=> .v (.bool r)
set_option maxHeartbeats 20000000 in
theorem w111(cp:CallP)(fu:Nat)(x1:Int)(x2:Int)(H1:K89 fu cp)(H2:K185 fu cp):J (go Tryz.prog noC cp noI 0 [] d111 fu (fin Tryz.prog [.tmp 4] [4]) (bodyOf Tryz.f111) (initE 0 [.v (.int .u32 x1),.v (.int .u32 x2)]) [] []) (soft_Less fu x1 x2) e111:=by
 unfold soft_Less e111
 have da:=d111_at
 conv=>arg 1;simp only[bodyOf,Tryz.f111]
 have z0:=d111_at
 exact Wk
theorem ok111(fu:Nat)(x1:Int)(x2:Int)(r)(h:soft_Less fu x1 x2=some r):PureOK Tryz.prog 111 [.v (.int .u32 x1),.v (.int .u32 x2)] (e111 r):=pureT mixed [(C89 fu).ct,(C185 fu).ct] (ids:=[89,185]) rfl (by decide) i111 (C:=noC) (ci:=λcp=>noI) (λcp ok=>noI_ok) (λcp H=>w111 cp fu x1 x2 (u89 H.1) (u185 H.2.1)) h
open Aw (d50)
def d50_at:=by have h:=tabL Aw.d50.eq_1;simp only[AllAt,Nat.zero_add,Nat.reduceAdd]at h;exact h
theorem i50:finfo Tryz.prog 50 d50=some ⟨bodyOf Tryz.f50,[.tmp 4],[24]⟩:=finfo_at Tryz.func50 rfl (by kernel_rfl) (by kernel_rfl)
def e50:Int->AV:=λr=> .v (.int .u32 r)
structure K112 (fu:Nat) (cp:CallP):Prop where
 ap: ∀ {a0:Int} {a1:Int} {r},soft_Equal fu a0 a1=some r->cp 112 [.v (.int .u32 a0),.v (.int .u32 a1)]=some (.v (.bool r))
noncomputable def C112(fu:Nat):Cm Tryz.prog (Int×Int) Bool:=⟨112,λt=>[.v (.int .u32 t.1),.v (.int .u32 t.2)],λt=>soft_Equal fu t.1 t.2,e112,λt b h=>ok112 fu t.1 t.2 b h,Zi⟩
theorem u112{fu:Nat}{cp:CallP}(H:Hit cp (C112 fu).ct):K112 fu cp:=⟨λ {a0 a1 r} h=>(C112 fu).at H (a0,a1) r h⟩
structure K111 (fu:Nat) (cp:CallP):Prop where
 ap: ∀ {a0:Int} {a1:Int} {r},soft_Less fu a0 a1=some r->cp 111 [.v (.int .u32 a0),.v (.int .u32 a1)]=some (.v (.bool r))
noncomputable def C111(fu:Nat):Cm Tryz.prog (Int×Int) Bool:=⟨111,λt=>[.v (.int .u32 t.1),.v (.int .u32 t.2)],λt=>soft_Less fu t.1 t.2,e111,λt b h=>ok111 fu t.1 t.2 b h,Zi⟩
theorem u111{fu:Nat}{cp:CallP}(H:Hit cp (C111 fu).ct):K111 fu cp:=⟨λ {a0 a1 r} h=>(C111 fu).at H (a0,a1) r h⟩
set_option maxHeartbeats 20000000 in
theorem w50(cp:CallP)(fu:Nat)(x1:Int)(x2:Int)(H1:K89 fu cp)(H2:K112 fu cp)(H3:K111 fu cp):J (go Tryz.prog noC cp noI 0 [] d50 fu (fin Tryz.prog [.tmp 4] [24]) (bodyOf Tryz.f50) (initE 0 [.v (.int .u32 x1),.v (.int .u32 x2)]) [] []) (soft_Max fu x1 x2) e50:=by
 unfold soft_Max e50
 have da:=d50_at
 conv=>arg 1;simp only[bodyOf,Tryz.f50]
 have z0:=d50_at
 exact Wk
theorem ok50(fu:Nat)(x1:Int)(x2:Int)(r)(h:soft_Max fu x1 x2=some r):PureOK Tryz.prog 50 [.v (.int .u32 x1),.v (.int .u32 x2)] (e50 r):=pureT mixed [(C89 fu).ct,(C112 fu).ct,(C111 fu).ct] (ids:=[89,112,111]) rfl (by decide) i50 (C:=noC) (ci:=λcp=>noI) (λcp ok=>noI_ok) (λcp H=>w50 cp fu x1 x2 (u89 H.1) (u112 H.2.1) (u111 H.2.2.1)) h
def d126:List (Nat×List Nat):=[(0,[2]),(0,[]),(7,[0,3,4,5,6,7,8])]
def d126_at:=by have h:=tabL d126.eq_1;simp only[AllAt,Nat.zero_add,Nat.reduceAdd]at h;exact h
theorem i126:finfo Tryz.prog 126 d126=some ⟨bodyOf Tryz.f126,[.tmp 2],[24]⟩:=finfo_at Tryz.func126 rfl (by kernel_rfl) (by kernel_rfl)
def e126:Int->AV:=λr=> .v (.int .u32 r)
structure K17 (fu:Nat) (cp:CallP):Prop where
 ap: ∀ {a0:List Int} {a1:Int} {r},reduce_fold_uint32 fu a0 a1 (λy0 y1=>soft_Max fu y0 y1)=some r->cp 17 [.arr a0.length (lm (ik .u32) a0),.v (.int .u32 a1),.fn 50 [] []]=some (.v (.int .u32 r))
noncomputable def C17(fu:Nat):Cm Tryz.prog ((List Int)×Int) Int:=⟨17,λt=>[.arr t.1.length (lm (ik .u32) t.1),.v (.int .u32 t.2),.fn 50 [] []],λt=>reduce_fold_uint32 fu t.1 t.2 (λy0 y1=>soft_Max fu y0 y1),e17,λt b h=>ok17 fu t.1 t.2 (λy0 y1=>soft_Max fu y0 y1) 50 [] rfl Capt.nil (λy0 y1 r h=>ok50 fu y0 y1 r h) b h,Zi⟩
theorem u17{fu:Nat}{cp:CallP}(H:Hit cp (C17 fu).ct):K17 fu cp:=⟨λ {a0 a1 r} h=>(C17 fu).at H (a0,a1) r h⟩
set_option maxHeartbeats 20000000 in
theorem w126(cp:CallP)(fu:Nat)(x1:List Int)(H1:K17 fu cp):J (go Tryz.prog noC cp noI 0 [] d126 fu (fin Tryz.prog [.tmp 2] [24]) (bodyOf Tryz.f126) (initE 0 [.arr x1.length (lm (ik .u32) x1)]) [] []) (reduce_floatOf_1 fu x1) e126:=by
 unfold reduce_floatOf_1 e126
 have da:=d126_at
 conv=>arg 1;simp only[bodyOf,Tryz.f126]
 have z0:=d126_at
 exact Wk
theorem ok126(fu:Nat)(x1:List Int)(r)(h:reduce_floatOf_1 fu x1=some r):PureOK Tryz.prog 126 [.arr x1.length (lm (ik .u32) x1)] (e126 r):=pureT mixed [(C17 fu).ct] (ids:=[17]) rfl (by decide) i126 (C:=noC) (ci:=λcp=>noI) (λcp ok=>noI_ok) (λcp H=>w126 cp fu x1 (u17 H.1)) h
def d65:List (Nat×List Nat):=[(0,[4]),(0,[0,8,9,10]),(0,[1000005]),(0,[]),(0,[1]),(0,[]),(0,[]),(0,[]),(0,[12,13]),(0,[]),(0,[7,14,15,16,17,18,19,20]),(0,[]),(0,[21]),(0,[]),(0,[5,22])]
def d65_at:=by have h:=tabL d65.eq_1;simp only[AllAt,Nat.zero_add,Nat.reduceAdd]at h;exact h
theorem i65:finfo Tryz.prog 65 d65=some ⟨bodyOf Tryz.f65,[.tmp 4],[28]⟩:=finfo_at Tryz.func65 rfl (by kernel_rfl) (by kernel_rfl)
def e65:(List Int)->AV:=λr=> .fresh 1 r.length (lm (ik .i64) r)
def reduce_at_int64.m1:LJ 1 6 Unit ((List Int)×Int):=⟨λr s e=>[(0,er e 0),(5,.own (0,5,77) 0 s.1.length s.1.length),(8,er e 8),(9,er e 9),(10,.v (.int .i64 s.2))],λr s h=>[((0,5,77),.sl true true 1 s.1.length (lm (ik .i64) s.1))]⟩
set_option maxHeartbeats 20000000 in
open reduce_at_int64 in
theorem w65(cp:CallP)(fu:Nat)(x1:List Int)(x2:List Int):J (go Tryz.prog noC cp noI 0 [] d65 fu (fin Tryz.prog [.tmp 4] [28]) (bodyOf Tryz.f65) (initE 0 [.arr x1.length (lm (ik .i64) x1),.arr x2.length (lm (ik .i64) x2)]) [] []) (reduce_at_int64 fu x1 x2) e65:=by
 unfold reduce_at_int64 e65
 have da:=d65_at
 conv=>arg 1;simp only[bodyOf,Tryz.f65]
 have z0:=d65_at
 exact Wk
theorem ok65(fu:Nat)(x1:List Int)(x2:List Int)(r)(h:reduce_at_int64 fu x1 x2=some r):PureOK Tryz.prog 65 [.arr x1.length (lm (ik .i64) x1),.arr x2.length (lm (ik .i64) x2)] (e65 r):=pureT mixed [] (ids:=[]) rfl (by decide) i65 (C:=noC) (ci:=λcp=>noI) (λcp ok=>noI_ok) (λcp H=>w65 cp fu x1 x2) h
def d131:List (Nat×List Nat):=[(0,[6]),(0,[2,9,10,11]),(0,[0]),(0,[]),(0,[]),(0,[]),(0,[13,14]),(0,[]),(0,[8,15,16,17,18]),(0,[]),(0,[19]),(0,[]),(0,[1,20])]
def d131_at:=by have h:=tabL d131.eq_1;simp only[AllAt,Nat.zero_add,Nat.reduceAdd]at h;exact h
theorem i131:finfo Tryz.prog 131 d131=some ⟨bodyOf Tryz.f131,[.tmp 6],[2]⟩:=finfo_at Tryz.func131 rfl (by kernel_rfl) (by kernel_rfl)
def e131:Int->AV:=λr=> .v (.int .i64 r)
set_option maxHeartbeats 20000000 in
theorem w131(cp:CallP)(fu:Nat)(x1:List Int)(x2:Int)(p2:Int→Int→Option Int)(fv_p2:FuncId)(ca_p2:List AV)(cap_p2:Capt ca_p2)(hp_p2: ∀ (y0:Int) (y1:Int) r,p2 y0 y1=some r→cp fv_p2 ((.v (.int .i64 y0))::(.v (.int .i64 y1))::ca_p2)=some (.v (.int .i64 r))):J (go Tryz.prog noC cp noI 0 [] d131 fu (fin Tryz.prog [.tmp 6] [2]) (bodyOf Tryz.f131) (initE 0 [.arr x1.length (lm (ik .i64) x1),.v (.int .i64 x2),.fn fv_p2 [] ca_p2]) [] []) (reduce_fold_int64 fu x1 x2 p2) e131:=by
 unfold reduce_fold_int64 e131
 have da:=d131_at
 have c4_p2:=λg=>(cap_p2.1 g).1;have c3_p2:=λg=>(cap_p2.1 g).2.1;have b4_p2:=λg=>(cap_p2.1 g).2.2.1;have b3_p2:=λg=>(cap_p2.1 g).2.2.2;have nm_p2:=cap_p2.2
 conv=>arg 1;simp (disch:=first|exact Zd|fail) only[bodyOf,Tryz.f131,ZZ,d131_at,simprocAttr,c4_p2,c3_p2,b4_p2,b3_p2,nm_p2]
 refine J.eq go_seq ?_
 conv=>arg 1;simp (disch:=first|exact Zd|fail) only[ZZ,d131_at,simprocAttr,c4_p2,c3_p2,b4_p2,b3_p2,nm_p2]
 unfold reduce_fold_int64.W1
 refine J.loop (λ(s:Int×Int)=>([(1,.v (.int .i64 s.1)),(2,.fn fv_p2 [] ca_p2),(9,.arr x1.length (lm (ik .i64) x1)),(10,.v (.int .i64 (x1.length:Int))),(11,.v (.int .i64 s.2))],[])) (λnext s=>reduce_fold_int64.L1 fu p2 x1 (λx5 x6=>next (x5,x6)) s.1 s.2) (s0:=(x2,0)) ?_ ?_ ?_
 ·exact Ze
 ·exact Zh
 rintro next k1 hn1 ⟨x5,x6⟩
 let nx1:Int->Int->Option Int:=(λx5 x6=>next (x5,x6))
 show J _ (reduce_fold_int64.L1 fu p2 x1 nx1 x5 x6) _
 unfold reduce_fold_int64.L1
 conv=>arg 1;simp (disch:=first|exact Zd|fail) only[ZZ,d131_at,simprocAttr,c4_p2,c3_p2,b4_p2,b3_p2,nm_p2]
 refine J.eq go_seq ?_
 conv=>arg 1;simp (disch:=first|exact Zd|fail) only[ZZ,d131_at,simprocAttr,c4_p2,c3_p2,b4_p2,b3_p2,nm_p2]
 refine J.ite (λh1=> ?_) (λh1=> ?_)
 ·have h1':=decide_eq_true h1
  have h1'':decide ((x1.length:Int)<=x6)=false:=decide_eq_false (by omega)
  conv=>arg 1;simp (disch:=first|exact Zd|fail) only[ZZ,d131_at,simprocAttr,c4_p2,c3_p2,b4_p2,b3_p2,nm_p2,h1'',h1']
  refine J.eq ret_seq ?_
  refine J.eq go_seq ?_
  refine J.at λx9 h2 h3 h4=> ?_
  refine J.bind λx10 h5=> ?_
  have e_h5:=hp_p2 _ _ _ h5
  try simp only[NN,NT,LN,simprocAttr,DT]at e_h5
  conv=>arg 1;simp (disch:=first|exact Zd|fail) only[ZZ,d131_at,simprocAttr,c4_p2,c3_p2,b4_p2,b3_p2,nm_p2,h1'',h1',lm_ik h4,e_h5]
  refine J.eq ret_seq ?_
  conv=>arg 1;simp (disch:=first|exact Zd|fail) only[ZZ,d131_at,simprocAttr,c4_p2,c3_p2,b4_p2,b3_p2,nm_p2,h1'',h1',lm_ik h4,e_h5]
  refine J.next (s:=(x10,wk .i64 (x6+1))) hn1 ?_ ?_
  ·exact Ze
  ·exact Zh
 ·have h1':=decide_eq_false h1
  have h1'':decide ((x1.length:Int)<=x6)=true:=decide_eq_true (by omega)
  conv=>arg 1;simp (disch:=first|exact Zd|fail) only[ZZ,d131_at,simprocAttr,c4_p2,c3_p2,b4_p2,b3_p2,nm_p2,h1'',h1']
  refine J.eq ret_seq ?_
  refine J.some ?_
  simp (maxSteps:=20000000) (disch:=first|exact Zd|fail) only[ZZ,d131_at,simprocAttr,c4_p2,c3_p2,b4_p2,b3_p2,nm_p2,h1'',h1',FN]
noncomputable def t131(fu:Nat)(x1:List Int)(x2:Int)(p2:Int->Int->Option Int)(fv_p2:FuncId)(ca_p2:List AV):CallP:=orE fv_p2 (mkC (λ(t:Int×Int)=>((.v (.int .i64 t.1))::(.v (.int .i64 t.2))::ca_p2:List AV)) (λt=>p2 t.1 t.2) (λr=> .v (.int .i64 r))) (noP)
theorem t131_ok(fu:Nat)(x1:List Int)(x2:Int)(p2:Int->Int->Option Int)(fv_p2:FuncId)(ca_p2:List AV)(cap_p2:Capt ca_p2)(hp_p2: ∀ (y0:Int) (y1:Int) r,p2 y0 y1=some r->PureOK Tryz.prog fv_p2 ((.v (.int .i64 y0))::(.v (.int .i64 y1))::ca_p2) (.v (.int .i64 r))):CpOK Tryz.prog (t131 fu x1 x2 p2 fv_p2 ca_p2):=orE_ok (noP_ok) (mkC_ok (λt b h=>hp_p2 t.1 t.2 b h))
theorem ok131(fu:Nat)(x1:List Int)(x2:Int)(p2:Int→Int→Option Int)(fv_p2:FuncId)(ca_p2:List AV)(cap_p2:Capt ca_p2)(hp_p2: ∀ (y0:Int) (y1:Int) r,p2 y0 y1=some r→PureOK Tryz.prog fv_p2 ((.v (.int .i64 y0))::(.v (.int .i64 y1))::ca_p2) (.v (.int .i64 r)))(r)(h:reduce_fold_int64 fu x1 x2 p2=some r):PureOK Tryz.prog 131 [.arr x1.length (lm (ik .i64) x1),.v (.int .i64 x2),.fn fv_p2 [] ca_p2] (e131 r):=
  pure_J mixed (cp:=t131 fu x1 x2 p2 fv_p2 ca_p2) (t131_ok fu x1 x2 p2 fv_p2 ca_p2 cap_p2 hp_p2) noI_ok i131 (w131 _ fu x1 x2 p2 fv_p2 ca_p2 cap_p2 (λy0 y1 r h=>orE_hit (mkC_at (a:=(y0,y1)) (by intro a b h;first|(exact rfl)|(simp only[INJ,IJ]at h;first|exact h|(simp_all [Prod.ext_iff]))) h))) h
def d134:List (Nat×List Nat):=[(0,[4]),(0,[]),(0,[0,1,5,6,7])]
def d134_at:=by have h:=tabL d134.eq_1;simp only[AllAt,Nat.zero_add,Nat.reduceAdd]at h;exact h
theorem i134:finfo Tryz.prog 134 d134=some ⟨bodyOf Tryz.f134,[.tmp 4],[2]⟩:=finfo_at Tryz.func134 rfl (by kernel_rfl) (by kernel_rfl)
def e134:Int->AV:=λr=> .v (.int .i64 r)
set_option maxHeartbeats 20000000 in
theorem w134(cp:CallP)(fu:Nat)(x1:Int)(x2:Int):J (go Tryz.prog noC cp noI 0 [] d134 fu (fin Tryz.prog [.tmp 4] [2]) (bodyOf Tryz.f134) (initE 0 [.v (.int .i64 x1),.v (.int .i64 x2)]) [] []) (reduce_intOf_2_1 fu x1 x2) e134:=by
 unfold reduce_intOf_2_1 e134
 have da:=d134_at
 conv=>arg 1;simp only[bodyOf,Tryz.f134]
 have z0:=d134_at
 exact Wk
theorem ok134(fu:Nat)(x1:Int)(x2:Int)(r)(h:reduce_intOf_2_1 fu x1 x2=some r):PureOK Tryz.prog 134 [.v (.int .i64 x1),.v (.int .i64 x2)] (e134 r):=pureT mixed [] (ids:=[]) rfl (by decide) i134 (C:=noC) (ci:=λcp=>noI) (λcp ok=>noI_ok) (λcp H=>w134 cp fu x1 x2) h
def d133:List (Nat×List Nat):=[(0,[2]),(0,[]),(0,[0,3,4,5,6,7])]
def d133_at:=by have h:=tabL d133.eq_1;simp only[AllAt,Nat.zero_add,Nat.reduceAdd]at h;exact h
theorem i133:finfo Tryz.prog 133 d133=some ⟨bodyOf Tryz.f133,[.tmp 2],[2]⟩:=finfo_at Tryz.func133 rfl (by kernel_rfl) (by kernel_rfl)
def e133:Int->AV:=λr=> .v (.int .i64 r)
structure K131 (fu:Nat) (cp:CallP):Prop where
 ap: ∀ {a0:List Int} {a1:Int} {r},reduce_fold_int64 fu a0 a1 (λy0 y1=>reduce_intOf_2_1 fu y0 y1)=some r->cp 131 [.arr a0.length (lm (ik .i64) a0),.v (.int .i64 a1),.fn 134 [] []]=some (.v (.int .i64 r))
noncomputable def C131(fu:Nat):Cm Tryz.prog ((List Int)×Int) Int:=⟨131,λt=>[.arr t.1.length (lm (ik .i64) t.1),.v (.int .i64 t.2),.fn 134 [] []],λt=>reduce_fold_int64 fu t.1 t.2 (λy0 y1=>reduce_intOf_2_1 fu y0 y1),e131,λt b h=>ok131 fu t.1 t.2 (λy0 y1=>reduce_intOf_2_1 fu y0 y1) 134 [] Capt.nil (λy0 y1 r h=>ok134 fu y0 y1 r h) b h,Zi⟩
theorem u131{fu:Nat}{cp:CallP}(H:Hit cp (C131 fu).ct):K131 fu cp:=⟨λ {a0 a1 r} h=>(C131 fu).at H (a0,a1) r h⟩
set_option maxHeartbeats 20000000 in
theorem w133(cp:CallP)(fu:Nat)(x1:List Int)(H1:K131 fu cp):J (go Tryz.prog noC cp noI 0 [] d133 fu (fin Tryz.prog [.tmp 2] [2]) (bodyOf Tryz.f133) (initE 0 [.arr x1.length (lm (ik .i64) x1)]) [] []) (reduce_intOf_2 fu x1) e133:=by
 unfold reduce_intOf_2 e133
 have da:=d133_at
 conv=>arg 1;simp only[bodyOf,Tryz.f133]
 have z0:=d133_at
 exact Wk
theorem ok133(fu:Nat)(x1:List Int)(r)(h:reduce_intOf_2 fu x1=some r):PureOK Tryz.prog 133 [.arr x1.length (lm (ik .i64) x1)] (e133 r):=pureT mixed [(C131 fu).ct] (ids:=[131]) rfl (by decide) i133 (C:=noC) (ci:=λcp=>noI) (λcp ok=>noI_ok) (λcp H=>w133 cp fu x1 (u131 H.1)) h
def d128:List (Nat×List Nat):=[(0,[4]),(0,[1]),(0,[6,7,8,9,10,11]),(0,[]),(0,[]),(0,[]),(0,[13,14,15]),(0,[]),(0,[16,17,18]),(0,[]),(0,[20,21,22]),(0,[]),(0,[23]),(0,[]),(0,[0,24])]
def d128_at:=by have h:=tabL d128.eq_1;simp only[AllAt,Nat.zero_add,Nat.reduceAdd]at h;exact h
theorem i128:finfo Tryz.prog 128 d128=some ⟨bodyOf Tryz.f128,[.tmp 4],[24]⟩:=finfo_at Tryz.func128 rfl (by kernel_rfl) (by kernel_rfl)
def e128:Int->AV:=λr=> .v (.int .u32 r)
set_option maxHeartbeats 20000000 in
theorem w128(cp:CallP)(fu:Nat)(x1:Int)(x2:Int)(H1:K89 fu cp)(H2:K112 fu cp)(H3:K111 fu cp):J (go Tryz.prog noC cp noI 0 [] d128 fu (fin Tryz.prog [.tmp 4] [24]) (bodyOf Tryz.f128) (initE 0 [.v (.int .u32 x1),.v (.int .u32 x2)]) [] []) (soft_Min fu x1 x2) e128:=by
 unfold soft_Min e128
 have da:=d128_at
 conv=>arg 1;simp only[bodyOf,Tryz.f128]
 have z0:=d128_at
 exact Wk
theorem ok128(fu:Nat)(x1:Int)(x2:Int)(r)(h:soft_Min fu x1 x2=some r):PureOK Tryz.prog 128 [.v (.int .u32 x1),.v (.int .u32 x2)] (e128 r):=pureT mixed [(C89 fu).ct,(C112 fu).ct,(C111 fu).ct] (ids:=[89,112,111]) rfl (by decide) i128 (C:=noC) (ci:=λcp=>noI) (λcp ok=>noI_ok) (λcp H=>w128 cp fu x1 x2 (u89 H.1) (u112 H.2.1) (u111 H.2.2.1)) h
def d127:List (Nat×List Nat):=[(0,[2]),(0,[]),(7,[0,3,4,5,6,7,8])]
def d127_at:=by have h:=tabL d127.eq_1;simp only[AllAt,Nat.zero_add,Nat.reduceAdd]at h;exact h
theorem i127:finfo Tryz.prog 127 d127=some ⟨bodyOf Tryz.f127,[.tmp 2],[24]⟩:=finfo_at Tryz.func127 rfl (by kernel_rfl) (by kernel_rfl)
def e127:Int->AV:=λr=> .v (.int .u32 r)
structure K17_1 (fu:Nat) (cp:CallP):Prop where
 ap: ∀ {a0:List Int} {a1:Int} {r},reduce_fold_uint32 fu a0 a1 (λy0 y1=>soft_Min fu y0 y1)=some r->cp 17 [.arr a0.length (lm (ik .u32) a0),.v (.int .u32 a1),.fn 128 [] []]=some (.v (.int .u32 r))
noncomputable def C17_1(fu:Nat):Cm Tryz.prog ((List Int)×Int) Int:=⟨17,λt=>[.arr t.1.length (lm (ik .u32) t.1),.v (.int .u32 t.2),.fn 128 [] []],λt=>reduce_fold_uint32 fu t.1 t.2 (λy0 y1=>soft_Min fu y0 y1),e17,λt b h=>ok17 fu t.1 t.2 (λy0 y1=>soft_Min fu y0 y1) 128 [] rfl Capt.nil (λy0 y1 r h=>ok128 fu y0 y1 r h) b h,Zi⟩
theorem u17_1{fu:Nat}{cp:CallP}(H:Hit cp (C17_1 fu).ct):K17_1 fu cp:=⟨λ {a0 a1 r} h=>(C17_1 fu).at H (a0,a1) r h⟩
set_option maxHeartbeats 20000000 in
theorem w127(cp:CallP)(fu:Nat)(x1:List Int)(H1:K17_1 fu cp):J (go Tryz.prog noC cp noI 0 [] d127 fu (fin Tryz.prog [.tmp 2] [24]) (bodyOf Tryz.f127) (initE 0 [.arr x1.length (lm (ik .u32) x1)]) [] []) (reduce_floatOf_2 fu x1) e127:=by
 unfold reduce_floatOf_2 e127
 have da:=d127_at
 conv=>arg 1;simp only[bodyOf,Tryz.f127]
 have z0:=d127_at
 exact Wk
theorem ok127(fu:Nat)(x1:List Int)(r)(h:reduce_floatOf_2 fu x1=some r):PureOK Tryz.prog 127 [.arr x1.length (lm (ik .u32) x1)] (e127 r):=pureT mixed [(C17_1 fu).ct] (ids:=[17]) rfl (by decide) i127 (C:=noC) (ci:=λcp=>noI) (λcp ok=>noI_ok) (λcp H=>w127 cp fu x1 (u17_1 H.1)) h
def d136:List (Nat×List Nat):=[(0,[4]),(0,[]),(0,[0,1,5,6,7])]
def d136_at:=by have h:=tabL d136.eq_1;simp only[AllAt,Nat.zero_add,Nat.reduceAdd]at h;exact h
theorem i136:finfo Tryz.prog 136 d136=some ⟨bodyOf Tryz.f136,[.tmp 4],[2]⟩:=finfo_at Tryz.func136 rfl (by kernel_rfl) (by kernel_rfl)
def e136:Int->AV:=λr=> .v (.int .i64 r)
set_option maxHeartbeats 20000000 in
theorem w136(cp:CallP)(fu:Nat)(x1:Int)(x2:Int):J (go Tryz.prog noC cp noI 0 [] d136 fu (fin Tryz.prog [.tmp 4] [2]) (bodyOf Tryz.f136) (initE 0 [.v (.int .i64 x1),.v (.int .i64 x2)]) [] []) (reduce_intOf_3_1 fu x1 x2) e136:=by
 unfold reduce_intOf_3_1 e136
 have da:=d136_at
 conv=>arg 1;simp only[bodyOf,Tryz.f136]
 have z0:=d136_at
 exact Wk
theorem ok136(fu:Nat)(x1:Int)(x2:Int)(r)(h:reduce_intOf_3_1 fu x1 x2=some r):PureOK Tryz.prog 136 [.v (.int .i64 x1),.v (.int .i64 x2)] (e136 r):=pureT mixed [] (ids:=[]) rfl (by decide) i136 (C:=noC) (ci:=λcp=>noI) (λcp ok=>noI_ok) (λcp H=>w136 cp fu x1 x2) h
def d135:List (Nat×List Nat):=[(0,[2]),(0,[]),(0,[0,3,4,5,6,7])]
def d135_at:=by have h:=tabL d135.eq_1;simp only[AllAt,Nat.zero_add,Nat.reduceAdd]at h;exact h
theorem i135:finfo Tryz.prog 135 d135=some ⟨bodyOf Tryz.f135,[.tmp 2],[2]⟩:=finfo_at Tryz.func135 rfl (by kernel_rfl) (by kernel_rfl)
def e135:Int->AV:=λr=> .v (.int .i64 r)
structure K131_1 (fu:Nat) (cp:CallP):Prop where
 ap: ∀ {a0:List Int} {a1:Int} {r},reduce_fold_int64 fu a0 a1 (λy0 y1=>reduce_intOf_3_1 fu y0 y1)=some r->cp 131 [.arr a0.length (lm (ik .i64) a0),.v (.int .i64 a1),.fn 136 [] []]=some (.v (.int .i64 r))
noncomputable def C131_1(fu:Nat):Cm Tryz.prog ((List Int)×Int) Int:=⟨131,λt=>[.arr t.1.length (lm (ik .i64) t.1),.v (.int .i64 t.2),.fn 136 [] []],λt=>reduce_fold_int64 fu t.1 t.2 (λy0 y1=>reduce_intOf_3_1 fu y0 y1),e131,λt b h=>ok131 fu t.1 t.2 (λy0 y1=>reduce_intOf_3_1 fu y0 y1) 136 [] Capt.nil (λy0 y1 r h=>ok136 fu y0 y1 r h) b h,Zi⟩
theorem u131_1{fu:Nat}{cp:CallP}(H:Hit cp (C131_1 fu).ct):K131_1 fu cp:=⟨λ {a0 a1 r} h=>(C131_1 fu).at H (a0,a1) r h⟩
set_option maxHeartbeats 20000000 in
theorem w135(cp:CallP)(fu:Nat)(x1:List Int)(H1:K131_1 fu cp):J (go Tryz.prog noC cp noI 0 [] d135 fu (fin Tryz.prog [.tmp 2] [2]) (bodyOf Tryz.f135) (initE 0 [.arr x1.length (lm (ik .i64) x1)]) [] []) (reduce_intOf_3 fu x1) e135:=by
 unfold reduce_intOf_3 e135
 have da:=d135_at
 conv=>arg 1;simp only[bodyOf,Tryz.f135]
 have z0:=d135_at
 exact Wk
theorem ok135(fu:Nat)(x1:List Int)(r)(h:reduce_intOf_3 fu x1=some r):PureOK Tryz.prog 135 [.arr x1.length (lm (ik .i64) x1)] (e135 r):=pureT mixed [(C131_1 fu).ct] (ids:=[131]) rfl (by decide) i135 (C:=noC) (ci:=λcp=>noI) (λcp ok=>noI_ok) (λcp H=>w135 cp fu x1 (u131_1 H.1)) h
def d132:List (Nat×List Nat):=[(0,[4]),(0,[]),(0,[0,1,5,6,7])]
def d132_at:=by have h:=tabL d132.eq_1;simp only[AllAt,Nat.zero_add,Nat.reduceAdd]at h;exact h
theorem i132:finfo Tryz.prog 132 d132=some ⟨bodyOf Tryz.f132,[.tmp 4],[2]⟩:=finfo_at Tryz.func132 rfl (by kernel_rfl) (by kernel_rfl)
def e132:Int->AV:=λr=> .v (.int .i64 r)
set_option maxHeartbeats 20000000 in
theorem w132(cp:CallP)(fu:Nat)(x1:Int)(x2:Int):J (go Tryz.prog noC cp noI 0 [] d132 fu (fin Tryz.prog [.tmp 4] [2]) (bodyOf Tryz.f132) (initE 0 [.v (.int .i64 x1),.v (.int .i64 x2)]) [] []) (reduce_intOf_1_1 fu x1 x2) e132:=by
 unfold reduce_intOf_1_1 e132
 have da:=d132_at
 conv=>arg 1;simp only[bodyOf,Tryz.f132]
 have z0:=d132_at
 exact Wk
theorem ok132(fu:Nat)(x1:Int)(x2:Int)(r)(h:reduce_intOf_1_1 fu x1 x2=some r):PureOK Tryz.prog 132 [.v (.int .i64 x1),.v (.int .i64 x2)] (e132 r):=pureT mixed [] (ids:=[]) rfl (by decide) i132 (C:=noC) (ci:=λcp=>noI) (λcp ok=>noI_ok) (λcp H=>w132 cp fu x1 x2) h
def d130:List (Nat×List Nat):=[(0,[2]),(0,[]),(0,[0,3,4])]
def d130_at:=by have h:=tabL d130.eq_1;simp only[AllAt,Nat.zero_add,Nat.reduceAdd]at h;exact h
theorem i130:finfo Tryz.prog 130 d130=some ⟨bodyOf Tryz.f130,[.tmp 2],[2]⟩:=finfo_at Tryz.func130 rfl (by kernel_rfl) (by kernel_rfl)
def e130:Int->AV:=λr=> .v (.int .i64 r)
structure K131_2 (fu:Nat) (cp:CallP):Prop where
 ap: ∀ {a0:List Int} {a1:Int} {r},reduce_fold_int64 fu a0 a1 (λy0 y1=>reduce_intOf_1_1 fu y0 y1)=some r->cp 131 [.arr a0.length (lm (ik .i64) a0),.v (.int .i64 a1),.fn 132 [] []]=some (.v (.int .i64 r))
noncomputable def C131_2(fu:Nat):Cm Tryz.prog ((List Int)×Int) Int:=⟨131,λt=>[.arr t.1.length (lm (ik .i64) t.1),.v (.int .i64 t.2),.fn 132 [] []],λt=>reduce_fold_int64 fu t.1 t.2 (λy0 y1=>reduce_intOf_1_1 fu y0 y1),e131,λt b h=>ok131 fu t.1 t.2 (λy0 y1=>reduce_intOf_1_1 fu y0 y1) 132 [] Capt.nil (λy0 y1 r h=>ok132 fu y0 y1 r h) b h,Zi⟩
theorem u131_2{fu:Nat}{cp:CallP}(H:Hit cp (C131_2 fu).ct):K131_2 fu cp:=⟨λ {a0 a1 r} h=>(C131_2 fu).at H (a0,a1) r h⟩
set_option maxHeartbeats 20000000 in
theorem w130(cp:CallP)(fu:Nat)(x1:List Int)(H1:K131_2 fu cp):J (go Tryz.prog noC cp noI 0 [] d130 fu (fin Tryz.prog [.tmp 2] [2]) (bodyOf Tryz.f130) (initE 0 [.arr x1.length (lm (ik .i64) x1)]) [] []) (reduce_intOf_1 fu x1) e130:=by
 unfold reduce_intOf_1 e130
 have da:=d130_at
 conv=>arg 1;simp only[bodyOf,Tryz.f130]
 have z0:=d130_at
 exact Wk
theorem ok130(fu:Nat)(x1:List Int)(r)(h:reduce_intOf_1 fu x1=some r):PureOK Tryz.prog 130 [.arr x1.length (lm (ik .i64) x1)] (e130 r):=pureT mixed [(C131_2 fu).ct] (ids:=[131]) rfl (by decide) i130 (C:=noC) (ci:=λcp=>noI) (λcp ok=>noI_ok) (λcp H=>w130 cp fu x1 (u131_2 H.1)) h
def d138:List (Nat×List Nat):=[(0,[4]),(0,[]),(0,[0,1,5,6,7])]
def d138_at:=by have h:=tabL d138.eq_1;simp only[AllAt,Nat.zero_add,Nat.reduceAdd]at h;exact h
theorem i138:finfo Tryz.prog 138 d138=some ⟨bodyOf Tryz.f138,[.tmp 4],[2]⟩:=finfo_at Tryz.func138 rfl (by kernel_rfl) (by kernel_rfl)
def e138:Int->AV:=λr=> .v (.int .i64 r)
set_option maxHeartbeats 20000000 in
theorem w138(cp:CallP)(fu:Nat)(x1:Int)(x2:Int):J (go Tryz.prog noC cp noI 0 [] d138 fu (fin Tryz.prog [.tmp 4] [2]) (bodyOf Tryz.f138) (initE 0 [.v (.int .i64 x1),.v (.int .i64 x2)]) [] []) (reduce_intOf_4_1 fu x1 x2) e138:=by
 unfold reduce_intOf_4_1 e138
 have da:=d138_at
 conv=>arg 1;simp only[bodyOf,Tryz.f138]
 have z0:=d138_at
 exact Wk
theorem ok138(fu:Nat)(x1:Int)(x2:Int)(r)(h:reduce_intOf_4_1 fu x1 x2=some r):PureOK Tryz.prog 138 [.v (.int .i64 x1),.v (.int .i64 x2)] (e138 r):=pureT mixed [] (ids:=[]) rfl (by decide) i138 (C:=noC) (ci:=λcp=>noI) (λcp ok=>noI_ok) (λcp H=>w138 cp fu x1 x2) h
def d137:List (Nat×List Nat):=[(0,[2]),(0,[]),(0,[0,3,4])]
def d137_at:=by have h:=tabL d137.eq_1;simp only[AllAt,Nat.zero_add,Nat.reduceAdd]at h;exact h
theorem i137:finfo Tryz.prog 137 d137=some ⟨bodyOf Tryz.f137,[.tmp 2],[2]⟩:=finfo_at Tryz.func137 rfl (by kernel_rfl) (by kernel_rfl)
def e137:Int->AV:=λr=> .v (.int .i64 r)
structure K131_3 (fu:Nat) (cp:CallP):Prop where
 ap: ∀ {a0:List Int} {a1:Int} {r},reduce_fold_int64 fu a0 a1 (λy0 y1=>reduce_intOf_4_1 fu y0 y1)=some r->cp 131 [.arr a0.length (lm (ik .i64) a0),.v (.int .i64 a1),.fn 138 [] []]=some (.v (.int .i64 r))
noncomputable def C131_3(fu:Nat):Cm Tryz.prog ((List Int)×Int) Int:=⟨131,λt=>[.arr t.1.length (lm (ik .i64) t.1),.v (.int .i64 t.2),.fn 138 [] []],λt=>reduce_fold_int64 fu t.1 t.2 (λy0 y1=>reduce_intOf_4_1 fu y0 y1),e131,λt b h=>ok131 fu t.1 t.2 (λy0 y1=>reduce_intOf_4_1 fu y0 y1) 138 [] Capt.nil (λy0 y1 r h=>ok138 fu y0 y1 r h) b h,Zi⟩
theorem u131_3{fu:Nat}{cp:CallP}(H:Hit cp (C131_3 fu).ct):K131_3 fu cp:=⟨λ {a0 a1 r} h=>(C131_3 fu).at H (a0,a1) r h⟩
set_option maxHeartbeats 20000000 in
theorem w137(cp:CallP)(fu:Nat)(x1:List Int)(H1:K131_3 fu cp):J (go Tryz.prog noC cp noI 0 [] d137 fu (fin Tryz.prog [.tmp 2] [2]) (bodyOf Tryz.f137) (initE 0 [.arr x1.length (lm (ik .i64) x1)]) [] []) (reduce_intOf_4 fu x1) e137:=by
 unfold reduce_intOf_4 e137
 have da:=d137_at
 conv=>arg 1;simp only[bodyOf,Tryz.f137]
 have z0:=d137_at
 exact Wk
theorem ok137(fu:Nat)(x1:List Int)(r)(h:reduce_intOf_4 fu x1=some r):PureOK Tryz.prog 137 [.arr x1.length (lm (ik .i64) x1)] (e137 r):=pureT mixed [(C131_3 fu).ct] (ids:=[131]) rfl (by decide) i137 (C:=noC) (ci:=λcp=>noI) (λcp ok=>noI_ok) (λcp H=>w137 cp fu x1 (u131_3 H.1)) h
open Aw (d33)
def d33_at:=by have h:=tabL Aw.d33.eq_1;simp only[AllAt,Nat.zero_add,Nat.reduceAdd]at h;exact h
noncomputable def b33:Code:=bodyOf Tryz.f33
theorem go_b33{C:Cfg}{cp:CallP}{ci:CallI}{lvl:Nat}{prot:List Id}{D:List (Nat×List Nat)}{n:Nat}{K:KK}{e:Env}{h:Heap}{fs:List Fr}:go Tryz.prog C cp ci lvl prot D n K b33 e h fs=go Tryz.prog C cp ci lvl prot D n K (bodyOf Tryz.f33) e h fs:=rfl
theorem i33:finfo Tryz.prog 33 d33=some ⟨b33,[],[]⟩:=finfo_at Tryz.func33 rfl (by kernel_rfl) (by kernel_rfl)
open Aw (d47)
def d47_at:=by have h:=tabL Aw.d47.eq_1;simp only[AllAt,Nat.zero_add,Nat.reduceAdd]at h;exact h
noncomputable def b47:Code:=bodyOf Tryz.f47
theorem go_b47{C:Cfg}{cp:CallP}{ci:CallI}{lvl:Nat}{prot:List Id}{D:List (Nat×List Nat)}{n:Nat}{K:KK}{e:Env}{h:Heap}{fs:List Fr}:go Tryz.prog C cp ci lvl prot D n K b47 e h fs=go Tryz.prog C cp ci lvl prot D n K (bodyOf Tryz.f47) e h fs:=rfl
theorem i47:finfo Tryz.prog 47 d47=some ⟨b47,[.tmp 2],[74]⟩:=finfo_at Tryz.func47 rfl (by kernel_rfl) (by kernel_rfl)
open Aw (d13)
def d13_at:=by have h:=tabL Aw.d13.eq_1;simp only[AllAt,Nat.zero_add,Nat.reduceAdd]at h;exact h
theorem i13:finfo Tryz.prog 13 d13=some ⟨bodyOf Tryz.f13,[.cell 6 31,.tmp 7],[31,32]⟩:=finfo_at Tryz.func13 rfl (by kernel_rfl) (by kernel_rfl)
def e13:(T_Tensor×Int)->AV:=λr=> .tuple [.agg [.v (.int .i64 r.1.fType),.arr r.1.fDims.length (lm (ik .i64) r.1.fDims),.arr r.1.fF.length (lm (ik .u32) r.1.fF),.arr r.1.fI.length (lm (ik .i64) r.1.fI),.arr r.1.fB.length (lm (bk) r.1.fB)],.v (.int .i64 r.2)]
structure K22 (fu:Nat) (cp:CallP):Prop where
 ap: ∀ {a0:Int} {r},reduce_Has fu a0=some r->cp 22 [.v (.int .i64 a0)]=some (.v (.bool r))
noncomputable def C22(fu:Nat):Cm Tryz.prog Int Bool:=⟨22,λt=>[.v (.int .i64 t)],λt=>reduce_Has fu t,e22,λt b h=>ok22 fu t b h,Zi⟩
theorem u22{fu:Nat}{cp:CallP}(H:Hit cp (C22 fu).ct):K22 fu cp:=⟨λ {a0 r} h=>(C22 fu).at H a0 r h⟩
structure K24 (fu:Nat) (cp:CallP):Prop where
 ap: ∀ {a0:T_Tensor} {r},tens_Canon fu a0=some r->cp 24 [.agg (c_T_Tensor a0)]=some (.agg [.v (.int .i64 r.fType),.fresh 1 r.fDims.length (lm (ik .i64) r.fDims),.fresh 1 r.fF.length (lm (ik .u32) r.fF),.fresh 1 r.fI.length (lm (ik .i64) r.fI),.fresh 1 r.fB.length (lm (bk) r.fB)])
noncomputable def C24(fu:Nat):Cm Tryz.prog T_Tensor T_Tensor:=⟨24,λt=>[.agg (c_T_Tensor t)],λt=>tens_Canon fu t,e24,λt b h=>ok24 fu t b h,Zi⟩
theorem u24{fu:Nat}{cp:CallP}(H:Hit cp (C24 fu).ct):K24 fu cp:=⟨λ {a0 r} h=>(C24 fu).at H a0 r h⟩
structure K26 (fu:Nat) (cp:CallP):Prop where
 ap: ∀ {a0:List T_Tensor} {r},ewise_Vals fu a0=some r->cp 26 [.arr a0.length (fm c_T_Tensor a0)]=some (.arr r.length (fm c_T_Val r))
noncomputable def C26(fu:Nat):Cm Tryz.prog (List T_Tensor) (List T_Val):=⟨26,λt=>[.arr t.length (fm c_T_Tensor t)],λt=>ewise_Vals fu t,e26,λt b h=>ok26 fu t b h,Zi⟩
theorem u26{fu:Nat}{cp:CallP}(H:Hit cp (C26 fu).ct):K26 fu cp:=⟨λ {a0 r} h=>(C26 fu).at H a0 r h⟩
structure K25 (fu:Nat) (cp:CallP):Prop where
 ap: ∀ {a0:Int} {a1:T_Setting} {a2:List T_Val} {a3:Int} {r},infer_Node fu a0 a1 a2 a3=some r->cp 25 [.v (.int .i64 a0),.agg (c_T_Setting a1),.arr a2.length (fm c_T_Val a2),.v (.int .i64 a3)]=some (.tuple [.arr r.1.length (fm c_T_Val r.1),.v (.int .i64 r.2)])
noncomputable def C25(fu:Nat):Cm Tryz.prog (Int×T_Setting×(List T_Val)×Int) ((List T_Val)×Int):=⟨25,λt=>[.v (.int .i64 t.1),.agg (c_T_Setting t.2.1),.arr t.2.2.1.length (fm c_T_Val t.2.2.1),.v (.int .i64 t.2.2.2)],λt=>infer_Node fu t.1 t.2.1 t.2.2.1 t.2.2.2,e25,λt b h=>ok25 fu t.1 t.2.1 t.2.2.1 t.2.2.2 b h,Zi⟩
theorem u25{fu:Nat}{cp:CallP}(H:Hit cp (C25 fu).ct):K25 fu cp:=⟨λ {a0 a1 a2 a3 r} h=>(C25 fu).at H (a0,a1,a2,a3) r h⟩
structure K27 (fu:Nat) (cp:CallP):Prop where
 ap: ∀ {a0:Int} {a1:List Int} {r},tens_New fu a0 a1=some r->cp 27 [.v (.int .i64 a0),.arr a1.length (lm (ik .i64) a1)]=some (.tuple [.agg [.v (.int .i64 r.1.fType),.fresh 1 r.1.fDims.length (lm (ik .i64) r.1.fDims),.fresh 1 r.1.fF.length (lm (ik .u32) r.1.fF),.fresh 1 r.1.fI.length (lm (ik .i64) r.1.fI),.fresh 1 r.1.fB.length (lm (bk) r.1.fB)],.v (.int .i64 r.2)])
noncomputable def C27(fu:Nat):Cm Tryz.prog (Int×(List Int)) (T_Tensor×Int):=⟨27,λt=>[.v (.int .i64 t.1),.arr t.2.length (lm (ik .i64) t.2)],λt=>tens_New fu t.1 t.2,e27,λt b h=>ok27 fu t.1 t.2 b h,Zi⟩
theorem u27{fu:Nat}{cp:CallP}(H:Hit cp (C27 fu).ct):K27 fu cp:=⟨λ {a0 a1 r} h=>(C27 fu).at H (a0,a1) r h⟩
structure K108 (fu:Nat) (cp:CallP):Prop where
 ap: ∀ {a0:T_reduce_work} {r},reduce_work_over fu a0=some r->cp 108 [.ref (c_T_reduce_work a0) 0]=some (.fresh 1 r.length (lm (bk) r))
noncomputable def C108(fu:Nat):Cm Tryz.prog T_reduce_work (List Bool):=⟨108,λt=>[.ref (c_T_reduce_work t) 0],λt=>reduce_work_over fu t,e108,λt b h=>ok108 fu t b h,Zi⟩
theorem u108{fu:Nat}{cp:CallP}(H:Hit cp (C108 fu).ct):K108 fu cp:=⟨λ {a0 r} h=>(C108 fu).at H a0 r h⟩
structure K54 (fu:Nat) (cp:CallP):Prop where
 ap: ∀ {a0:List Int} {r},shape_Strides fu a0=some r->cp 54 [.arr a0.length (lm (ik .i64) a0)]=some (.tuple [.fresh 1 r.1.length (lm (ik .i64) r.1),.v (.int .i64 r.2)])
noncomputable def C54(fu:Nat):Cm Tryz.prog (List Int) ((List Int)×Int):=⟨54,λt=>[.arr t.length (lm (ik .i64) t)],λt=>shape_Strides fu t,e54,λt b h=>ok54 fu t b h,Zi⟩
theorem u54{fu:Nat}{cp:CallP}(H:Hit cp (C54 fu).ct):K54 fu cp:=⟨λ {a0 r} h=>(C54 fu).at H a0 r h⟩
structure K109 (fu:Nat) (cp:CallP):Prop where
 ap: ∀ {a0:List Int} {a1:List Int} {r},reduce_places fu a0 a1=some r->cp 109 [.arr a0.length (lm (ik .i64) a0),.arr a1.length (lm (ik .i64) a1)]=some (.arr r.length (lm (ik .i64) r))
noncomputable def C109(fu:Nat):Cm Tryz.prog ((List Int)×(List Int)) (List Int):=⟨109,λt=>[.arr t.1.length (lm (ik .i64) t.1),.arr t.2.length (lm (ik .i64) t.2)],λt=>reduce_places fu t.1 t.2,e109,λt b h=>ok109 fu t.1 t.2 b h,Zi⟩
theorem u109{fu:Nat}{cp:CallP}(H:Hit cp (C109 fu).ct):K109 fu cp:=⟨λ {a0 a1 r} h=>(C109 fu).at H (a0,a1) r h⟩
structure K49 (fu:Nat) (cp:CallP):Prop where
 ap: ∀ {a0:List Int} {a1:List Int} {r},reduce_at_uint32 fu a0 a1=some r->cp 49 [.arr a0.length (lm (ik .u32) a0),.arr a1.length (lm (ik .i64) a1)]=some (.fresh 1 r.length (lm (ik .u32) r))
noncomputable def C49(fu:Nat):Cm Tryz.prog ((List Int)×(List Int)) (List Int):=⟨49,λt=>[.arr t.1.length (lm (ik .u32) t.1),.arr t.2.length (lm (ik .i64) t.2)],λt=>reduce_at_uint32 fu t.1 t.2,e49,λt b h=>ok49 fu t.1 t.2 b h,Zi⟩
theorem u49{fu:Nat}{cp:CallP}(H:Hit cp (C49 fu).ct):K49 fu cp:=⟨λ {a0 a1 r} h=>(C49 fu).at H (a0,a1) r h⟩
structure K126 (fu:Nat) (cp:CallP):Prop where
 ap: ∀ {a0:List Int} {r},reduce_floatOf_1 fu a0=some r->cp 126 [.arr a0.length (lm (ik .u32) a0)]=some (.v (.int .u32 r))
noncomputable def C126(fu:Nat):Cm Tryz.prog (List Int) Int:=⟨126,λt=>[.arr t.length (lm (ik .u32) t)],λt=>reduce_floatOf_1 fu t,e126,λt b h=>ok126 fu t b h,Zi⟩
theorem u126{fu:Nat}{cp:CallP}(H:Hit cp (C126 fu).ct):K126 fu cp:=⟨λ {a0 r} h=>(C126 fu).at H a0 r h⟩
structure K65 (fu:Nat) (cp:CallP):Prop where
 ap: ∀ {a0:List Int} {a1:List Int} {r},reduce_at_int64 fu a0 a1=some r->cp 65 [.arr a0.length (lm (ik .i64) a0),.arr a1.length (lm (ik .i64) a1)]=some (.fresh 1 r.length (lm (ik .i64) r))
noncomputable def C65(fu:Nat):Cm Tryz.prog ((List Int)×(List Int)) (List Int):=⟨65,λt=>[.arr t.1.length (lm (ik .i64) t.1),.arr t.2.length (lm (ik .i64) t.2)],λt=>reduce_at_int64 fu t.1 t.2,e65,λt b h=>ok65 fu t.1 t.2 b h,Zi⟩
theorem u65{fu:Nat}{cp:CallP}(H:Hit cp (C65 fu).ct):K65 fu cp:=⟨λ {a0 a1 r} h=>(C65 fu).at H (a0,a1) r h⟩
structure K133 (fu:Nat) (cp:CallP):Prop where
 ap: ∀ {a0:List Int} {r},reduce_intOf_2 fu a0=some r->cp 133 [.arr a0.length (lm (ik .i64) a0)]=some (.v (.int .i64 r))
noncomputable def C133(fu:Nat):Cm Tryz.prog (List Int) Int:=⟨133,λt=>[.arr t.length (lm (ik .i64) t)],λt=>reduce_intOf_2 fu t,e133,λt b h=>ok133 fu t b h,Zi⟩
theorem u133{fu:Nat}{cp:CallP}(H:Hit cp (C133 fu).ct):K133 fu cp:=⟨λ {a0 r} h=>(C133 fu).at H a0 r h⟩
structure K127 (fu:Nat) (cp:CallP):Prop where
 ap: ∀ {a0:List Int} {r},reduce_floatOf_2 fu a0=some r->cp 127 [.arr a0.length (lm (ik .u32) a0)]=some (.v (.int .u32 r))
noncomputable def C127(fu:Nat):Cm Tryz.prog (List Int) Int:=⟨127,λt=>[.arr t.length (lm (ik .u32) t)],λt=>reduce_floatOf_2 fu t,e127,λt b h=>ok127 fu t b h,Zi⟩
theorem u127{fu:Nat}{cp:CallP}(H:Hit cp (C127 fu).ct):K127 fu cp:=⟨λ {a0 r} h=>(C127 fu).at H a0 r h⟩
structure K135 (fu:Nat) (cp:CallP):Prop where
 ap: ∀ {a0:List Int} {r},reduce_intOf_3 fu a0=some r->cp 135 [.arr a0.length (lm (ik .i64) a0)]=some (.v (.int .i64 r))
noncomputable def C135(fu:Nat):Cm Tryz.prog (List Int) Int:=⟨135,λt=>[.arr t.length (lm (ik .i64) t)],λt=>reduce_intOf_3 fu t,e135,λt b h=>ok135 fu t b h,Zi⟩
theorem u135{fu:Nat}{cp:CallP}(H:Hit cp (C135 fu).ct):K135 fu cp:=⟨λ {a0 r} h=>(C135 fu).at H a0 r h⟩
structure K130 (fu:Nat) (cp:CallP):Prop where
 ap: ∀ {a0:List Int} {r},reduce_intOf_1 fu a0=some r->cp 130 [.arr a0.length (lm (ik .i64) a0)]=some (.v (.int .i64 r))
noncomputable def C130(fu:Nat):Cm Tryz.prog (List Int) Int:=⟨130,λt=>[.arr t.length (lm (ik .i64) t)],λt=>reduce_intOf_1 fu t,e130,λt b h=>ok130 fu t b h,Zi⟩
theorem u130{fu:Nat}{cp:CallP}(H:Hit cp (C130 fu).ct):K130 fu cp:=⟨λ {a0 r} h=>(C130 fu).at H a0 r h⟩
structure K137 (fu:Nat) (cp:CallP):Prop where
 ap: ∀ {a0:List Int} {r},reduce_intOf_4 fu a0=some r->cp 137 [.arr a0.length (lm (ik .i64) a0)]=some (.v (.int .i64 r))
noncomputable def C137(fu:Nat):Cm Tryz.prog (List Int) Int:=⟨137,λt=>[.arr t.length (lm (ik .i64) t)],λt=>reduce_intOf_4 fu t,e137,λt b h=>ok137 fu t b h,Zi⟩
theorem u137{fu:Nat}{cp:CallP}(H:Hit cp (C137 fu).ct):K137 fu cp:=⟨λ {a0 r} h=>(C137 fu).at H a0 r h⟩
theorem cf63(x b:Int)(h:(if x=65∨x=67∨x=68∨x=69 then some x else none)=some b):PureOK Tryz.prog 63 [.v (.int .i64 x)] (if b=65 then .fn 9 [] []else if b=67 then .fn 126 [] []else if b=68 then .fn 127 [] []else .fn 129 [] []):=by
  split at h
  · rename_i hx;injection h with h;subst h;rcases hx with rfl|rfl|rfl|rfl
    · exact Aw.c116_ok 63 [.v (.int .i64 65)] _ (by kernel_rfl)
    · exact Aw.c116_ok 63 [.v (.int .i64 67)] _ (by kernel_rfl)
    · exact Aw.c116_ok 63 [.v (.int .i64 68)] _ (by kernel_rfl)
    · exact Aw.c116_ok 63 [.v (.int .i64 69)] _ (by kernel_rfl)
  · cases h
noncomputable def C63:Cm Tryz.prog Int Int:=⟨63,λx=>[.v (.int .i64 x)],λx=>if x=65∨x=67∨x=68∨x=69 then some x else none,λx=>if x=65 then .fn 9 [] []else if x=67 then .fn 126 [] []else if x=68 then .fn 127 [] []else .fn 129 [] [],cf63,λa b h=>by simpa using h⟩
theorem cf64(x b:Int)(h:(if x=65∨x=67∨x=68∨x=69 then some x else none)=some b):PureOK Tryz.prog 64 [.v (.int .i64 x)] (if b=65 then .fn 130 [] []else if b=67 then .fn 133 [] []else if b=68 then .fn 135 [] []else .fn 137 [] []):=by
  split at h
  · rename_i hx;injection h with h;subst h;rcases hx with rfl|rfl|rfl|rfl
    · exact Aw.c116_ok 64 [.v (.int .i64 65)] _ (by kernel_rfl)
    · exact Aw.c116_ok 64 [.v (.int .i64 67)] _ (by kernel_rfl)
    · exact Aw.c116_ok 64 [.v (.int .i64 68)] _ (by kernel_rfl)
    · exact Aw.c116_ok 64 [.v (.int .i64 69)] _ (by kernel_rfl)
  · cases h
noncomputable def C64:Cm Tryz.prog Int Int:=⟨64,λx=>[.v (.int .i64 x)],λx=>if x=65∨x=67∨x=68∨x=69 then some x else none,λx=>if x=65 then .fn 130 [] []else if x=67 then .fn 133 [] []else if x=68 then .fn 135 [] []else .fn 137 [] [],cf64,λa b h=>by simpa using h⟩
theorem sf25: ∀ {h:Heap} {id:Id} {off ext:Nat} {k:FuncId},stX Tryz.prog 25 h (.ptr id off ext) (.fn k [] [])=(h.get id).bind (stI h id off ext (.fn k [] [])):=stX_any (show tsize Tryz.prog 25=1 by kernel_rfl) rfl rfl rfl rfl
theorem sf85: ∀ {h:Heap} {id:Id} {off ext:Nat} {k:FuncId},stX Tryz.prog 85 h (.ptr id off ext) (.fn k [] [])=(h.get id).bind (stI h id off ext (.fn k [] [])):=stX_any (show tsize Tryz.prog 85=1 by kernel_rfl) rfl rfl rfl rfl
def cA:Code→Code
  | .seq a _=>a
  | .block _ c=>c
  | .loop c=>c
  |c=>c
def cD:Code→Code
  | .seq _ b=>b
  | .block _ c=>c
  | .loop c=>c
  |c=>c
def dY:List (Nat×List Nat):=[(0,[1,2,10,11]),(0,[0,3,12,13,14]),(0,[]),(0,[]),(0,[16,17,18]),(0,[6,19,20,21]),(0,[1000007]),(0,[]),(0,[]),(0,[]),(0,[]),(0,[]),(0,[23,24]),(0,[]),(0,[9,25,26,27,28,29,30]),(0,[]),(0,[31]),(0,[]),(0,[5,7,33,34,35]),(0,[]),(0,[37])]
def dY_at:=by have h:=tabL dY.eq_1;simp only[AllAt,Nat.zero_add,Nat.reduceAdd]at h;exact h
theorem iY:finfoY Tryz.prog 110 dY=some ⟨bodyOf Tryz.f110,[],[]⟩:=finfoY_at Tryz.func110 rfl (by kernel_rfl) (by kernel_rfl) (by kernel_rfl)
noncomputable def cO:Code:=cA (cA (cD (bodyOf Tryz.f110)))
noncomputable def cI:Code:=cA (cA (cD (cA (cD (cD (cA (cA (cD (cD cO)))))))))
section
variable (S fs:List Int) (k x:Int)
def eI(row:List Int)(j:Int):Env:=[(3,.ref [.arr S.length (lm (ik .i64) S)] 0),(5,.v (.int .i64 k)),(6,.v (.int .i64 x)),(7,.own (0,7,77) 0 row.length row.length),(12,.arr fs.length (lm (ik .i64) fs)),(13,.v (.int .i64 (fs.length:Int))),(14,.v (.int .i64 k)),(19,.arr S.length (lm (ik .i64) S)),(20,.v (.int .i64 (S.length:Int))),(21,.v (.int .i64 j))]
def hI(row:List Int):Heap:=[((0,7,77),.sl true true 1 row.length (lm (ik .i64) row))]
def eO(k:Int):Env:=[(3,.ref [.arr S.length (lm (ik .i64) S)] 0),(12,.arr fs.length (lm (ik .i64) fs)),(13,.v (.int .i64 (fs.length:Int))),(14,.v (.int .i64 k))]
end
set_option maxHeartbeats 20000000 in
theorem rI_step{cp:CallP}{n q:Nat}{K:KY}{acc:List AV}{S fs row:List Int}{k x s:Int}{j:Nat}{h:Heap}(hj:S[j]? =some s)(hr:(row.length+1:Int)*8≤140737488355328)(hS:S.length≤140737488355328)(hh:sweep [] (eI S fs k x row j) h=hI row):
    ∃ h',sweep [] (eI S fs k x (row++[wk .i64 (x+s)]) ((j:Int)+1)) h'=hI (row++[wk .i64 (x+s)])/\
    glY Tryz.prog noC cp noI 0 [] dY n cI (q+1) (eI S fs k x row j) h acc K=glY Tryz.prog noC cp noI 0 [] dY n cI q (eI S fs k x (row++[wk .i64 (x+s)]) ((j:Int)+1)) h' acc K:=by
  have hl:(j:Int)<(S.length:Int):=by have:=(List.getElem?_eq_some_iff.1 hj).1;omega
  have h1:decide ((j:Int)<(S.length:Int))=true:=decide_eq_true hl
  have h2:=lm_ik (k:= .i64) hj
  have h3:wk .i64 ((j:Int)+1)=(j:Int)+1:=wk_i64 (by omega) (by omega)
  have da:=dY_at
  have e:(row++[wk .i64 (x+s)]).length=row.length+1:=by simp
  rw[glY_succ,hh]
  refine⟨[((0,7,77),Blk.sl true true 1 (row.length+1) (lm (ik IntKind.i64) (row++[wk IntKind.i64 (x+s)]))),((0,29,0),Blk.sl true true 1 1 [AV.v (Value.int IntKind.i64 (wk IntKind.i64 (x+s)))])],?_,?_⟩
  · simp only[eI,hI,e]
    simp (disch:=first|exact Zd|fail) only[ZZ,simprocAttr]
  clear hh
  conv=>lhs;simp only[cI,cO,cA,cD,bodyOf,Tryz.f110,Option.getD,eI,hI]
  conv=>lhs;simp (disch:=first|exact Zd|fail) only[RQ,ZZ,simprocAttr, *]
  simp only[eI,hI,e]
  rfl
set_option maxHeartbeats 20000000 in
theorem rI_end{cp:CallP}{n q:Nat}{K:KY}{acc:List AV}{S fs row:List Int}{k x:Int}{h:Heap}(hh:sweep [] (eI S fs k x row S.length) h=hI row):glY Tryz.prog noC cp noI 0 [] dY n cI (q+1) (eI S fs k x row S.length) h acc K=K (.exit 2) (eI S fs k x row S.length) (hI row) acc:=by
  have h1:decide ((S.length:Int)<(S.length:Int))=false:=decide_eq_false (by omega)
  have da:=dY_at
  rw[glY_succ,hh]
  clear hh
  conv=>lhs;simp only[cI,cO,cA,cD,bodyOf,Tryz.f110,Option.getD,eI,hI]
  conv=>lhs;simp (disch:=first|exact Zd|fail) only[RQ,ZZ,simprocAttr, *]
  rfl
theorem rI_all{cp:CallP}{n:Nat}{K:KY}{acc:List AV}{S fs:List Int}{k x:Int}(hS:S.length*8≤140737488355328): ∀ (m q j:Nat) (row:List Int) (h:Heap),S.length - j=m→j≤S.length→row.length=j→m<q→sweep [] (eI S fs k x row j) h=hI row→
    glY Tryz.prog noC cp noI 0 [] dY n cI q (eI S fs k x row j) h acc K=K (.exit 2) (eI S fs k x (row++rowL (S.drop j) x) S.length) (hI (row++rowL (S.drop j) x)) acc
  | 0,q,j,row,h,hm,hj,hr,hq,hh=>by
    obtain⟨q,rfl⟩: ∃ i,q=i+1:=⟨q - 1,by omega⟩
    obtain rfl:j=S.length:=by omega
    rw[rI_end hh,List.drop_length]
    simp only[rowL,List.map_nil,List.append_nil]
  | m+1,q,j,row,h,hm,hj,hr,hq,hh=>by
    obtain⟨q,rfl⟩: ∃ i,q=i+1:=⟨q - 1,by omega⟩
    have hlt:j<S.length:=by omega
    obtain⟨h',h1,h2⟩:=rI_step (cp:=cp) (n:=n) (q:=q) (K:=K) (acc:=acc) (List.getElem?_eq_getElem hlt) (by omega) (by omega) hh
    rw[h2]
    rw[show((j:Int)+1)=((j+1:Nat):Int)by omega]at h1 ⊢
    rw[rI_all hS m q (j+1) (row++[wk .i64 (x+S[j])]) h' (by omega) (by omega) (by simp[hr]) (by omega) h1,List.drop_eq_getElem_cons hlt]
    simp only[rowL,List.map_cons,List.append_assoc,List.singleton_append]
set_option maxHeartbeats 20000000 in
theorem rO_step{cp:CallP}{n q:Nat}{K:KY}{acc:List AV}{S fs:List Int}{x:Int}{k:Nat}{h:Heap}(hS:S.length*8≤140737488355328)(hn:S.length<n)(hk:fs[k]? =some x)(hf:fs.length≤140737488355328)(hh:sweep [] (eO S fs k) h=[]):
    ∃ h',sweep [] (eO S fs ((k:Int)+1)) h'=[]/\glY Tryz.prog noC cp noI 0 [] dY n cO (q+1) (eO S fs k) h acc K=glY Tryz.prog noC cp noI 0 [] dY n cO q (eO S fs ((k:Int)+1)) h' (acc++[.tuple (eyI ((k:Int),rowL S x))]) K:=by
  have hl:(k:Int)<(fs.length:Int):=by have:=(List.getElem?_eq_some_iff.1 hk).1;omega
  have h1:decide ((k:Int)<(fs.length:Int))=true:=decide_eq_true hl
  have h2:=lm_ik (k:= .i64) hk
  have h3:wk .i64 ((k:Int)+1)=(k:Int)+1:=wk_i64 (by omega) (by omega)
  have da:=dY_at
  have hI0:=fun K=> @rI_all cp n K acc S fs k x hS S.length n 0 [] _ (by omega) (by omega) rfl (by omega) (show sweep [] (eI S fs k x [] 0) (hI [])=hI []by
    simp only[eI,hI]
    simp (disch:=first|exact Zd|fail) only[ZZ,simprocAttr])
  rw[glY_succ,hh]
  clear hh
  simp only[List.drop_zero,List.nil_append,show((0:Nat):Int)=0 from rfl]at hI0
  simp only[cI,cO,cA,cD,bodyOf,Tryz.f110,Option.getD,eI,hI,List.length_nil,lm_nil]at hI0
  refine⟨[((0,7,77),.sl true false 1 (rowL S x).length (lm (ik .i64) (rowL S x)))],?_,?_⟩
  · simp only[eO]
    simp (disch:=first|exact Zd|fail) only[ZZ,simprocAttr]
  · conv=>lhs;simp only[cO,cA,cD,bodyOf,Tryz.f110,Option.getD,eO]
    conv=>lhs;simp (disch:=first|exact Zd|fail) only[RQ,ZZ,simprocAttr,da,h1,h2,h3,hI0]
    simp only[eO,eyI,cO,cA,cD,bodyOf,Tryz.f110,Option.getD]
set_option maxHeartbeats 20000000 in
theorem rO_end{cp:CallP}{n q:Nat}{K:KY}{acc:List AV}{S fs:List Int}{h:Heap}(hh:sweep [] (eO S fs fs.length) h=[]):glY Tryz.prog noC cp noI 0 [] dY n cO (q+1) (eO S fs fs.length) h acc K=K (.exit 0) (eO S fs fs.length) [] acc:=by
  have h1:decide ((fs.length:Int)<(fs.length:Int))=false:=decide_eq_false (by omega)
  have da:=dY_at
  rw[glY_succ,hh]
  clear hh
  conv=>lhs;simp only[cO,cA,cD,bodyOf,Tryz.f110,Option.getD,eO]
  conv=>lhs;simp (disch:=first|exact Zd|fail) only[RQ,ZZ,simprocAttr,da,h1]
  rfl
theorem rO_all{cp:CallP}{n:Nat}{K:KY}{S fs:List Int}(hS:S.length*8≤140737488355328)(hn:S.length<n)(hf:fs.length≤140737488355328): ∀ (m q k:Nat) (h:Heap) (acc:List AV),fs.length - k=m→k≤fs.length→m<q→sweep [] (eO S fs k) h=[]→
    glY Tryz.prog noC cp noI 0 [] dY n cO q (eO S fs k) h acc K=K (.exit 0) (eO S fs fs.length) [] (acc++(rowsL S k (fs.drop k)).map λy=> .tuple (eyI y))
  | 0,q,k,h,acc,hm,hk,hq,hh=>by
    obtain⟨q,rfl⟩: ∃ i,q=i+1:=⟨q - 1,by omega⟩
    obtain rfl:k=fs.length:=by omega
    rw[rO_end hh,List.drop_length]
    simp only[rowsL,List.map_nil,List.append_nil]
  | m+1,q,k,h,acc,hm,hk,hq,hh=>by
    obtain⟨q,rfl⟩: ∃ i,q=i+1:=⟨q - 1,by omega⟩
    have hlt:k<fs.length:=by omega
    obtain⟨h',h1,h2⟩:=rO_step (cp:=cp) (n:=n) (q:=q) (K:=K) (acc:=acc) hS hn (List.getElem?_eq_getElem hlt) hf hh
    rw[h2]
    rw[show((k:Int)+1)=((k+1:Nat):Int)by omega]at h1 ⊢
    rw[rO_all hS hn hf m q (k+1) h' _ (by omega) (by omega) (by omega) h1,List.drop_eq_getElem_cons hlt]
    simp only[rowsL,List.map_cons,List.append_assoc,List.singleton_append]
def aY(a b c:List Int):List AV:=[.ref [.arr a.length (lm (ik .i64) a)] 0,.ref [.arr b.length (lm (ik .i64) b)] 0,.ref [.arr c.length (lm (ik .i64) c)] 0]
set_option maxHeartbeats 20000000 in
theorem rY_all{cp:CallP}{fu:Nat}{outer far S:List Int}{ys:List (Int×List Int)}(H:K109 fu cp)(h:reduce_rowsIt fu outer far S=some ys):bodyY Tryz.prog noC cp noI fu dY ⟨bodyOf Tryz.f110,[],[]⟩ (aY outer far S)=some (ys.map fun y=> .tuple (eyI y)):=by
  unfold reduce_rowsIt at h
  obtain⟨fs,hp,h⟩:=Option.bind_eq_some_iff.1 h
  unfold chk at h
  split at h
  · rename_i hc
    injection h with h
    subst h
    obtain⟨c1,c2,c3,c4⟩:=hc
    have hp':=H.ap hp
    refine bodyY_of rfl ?_
    have da:=dY_at
    have hall:=fun K=> @rO_all cp fu K S fs c4 c2 c3 fs.length fu 0 [] [] (by omega) (by omega) c1 (by
      simp only[eO]
      simp (disch:=first|exact Zd|fail) only[ZZ,simprocAttr])
    simp only[List.drop_zero,List.nil_append,show((0:Nat):Int)=0 from rfl]at hall
    simp only[cO,cA,cD,bodyOf,Tryz.f110,Option.getD,eO]at hall
    conv=>lhs;simp only[bodyOf,Tryz.f110,Option.getD,aY,initE]
    conv=>lhs;simp (disch:=first|exact Zd|fail) only[RQ,ZZ,simprocAttr,da,hp',hall]
    rfl
  · cases h
noncomputable def cy110(fu:Nat):List AV->Option (List AV):=λxs=>(mkC (λ(t:List Int×List Int×List Int)=>aY t.1 t.2.1 t.2.2) (λt=>reduce_rowsIt fu t.1 t.2.1 t.2.2) (λys=> .tuple (ys.map λy=> .tuple (eyI y))) xs).bind tupL
theorem cy110_ok(fu:Nat)(xs ys:List AV)(h:cy110 fu xs=some ys):ItOK Tryz.prog 110 xs ys:=by
  unfold cy110 at h
  obtain⟨r,hr,h⟩:=Option.bind_eq_some_iff.1 h
  obtain⟨t,zs,rfl,hz,rfl⟩:=mkC_some hr
  injection h with h
  subst h
  have ok:=tabC_ok [(C109 fu).ct]
  have hit:=tabC_hits [(C109 fu).ct] (by simp)
  exact bodyY_ok mixed ok noI_ok iY (rY_all (u109 hit.1) hz)
theorem aY_inj:Inj (fun(t:List Int×List Int×List Int)=>aY t.1 t.2.1 t.2.2):=by
  intro a b h
  simp only[aY,INJ,IJ]at h
  first|exact h|simp_all [Prod.ext_iff]
theorem cy110_ap{fu:Nat}{a b c:List Int}{r:List (Int×List Int)}(h:reduce_rowsIt fu a b c=some r):cy110 fu [.ref [.arr a.length (lm (ik .i64) a)] 0,.ref [.arr b.length (lm (ik .i64) b)] 0,.ref [.arr c.length (lm (ik .i64) c)] 0]=some (r.map fun y=> .tuple (eyI y)):=by
  have:=mkC_at (F:=λ(t:List Int×List Int×List Int)=>reduce_rowsIt fu t.1 t.2.1 t.2.2) (eb:=λys=>AV.tuple (ys.map λy=> .tuple (eyI y))) aY_inj (a:=(a,b,c)) h
  show(mkC _ _ _ (aY a b c)).bind tupL=_
  rw[this]
  rfl
def reduce_Do.r1:LJ 1 3 Unit ((List Int)×(List Int)):=⟨λr s e=>e,λr s h=>[((0,6,0),hr h (0,6,0)),((0,21,0),hr h (0,21,0)),((0,8,115),hr h (0,8,115)),((0,80,0),hr h (0,80,0)),((0,80,1),.sl true true 1 (hx h (0,80,1)) (lm (ik .u32) s.1)),((0,80,2),.sl true true 1 (hx h (0,80,2)) (lm (ik .i64) s.2)),((0,80,3),hr h (0,80,3)),((1,1,0),hr h (1,1,0)),((1,2,0),hr h (1,2,0)),((1,3,0),hr h (1,3,0)),((2,4,0),hr h (2,4,0)),((2,4,78),hr h (2,4,78)),((2,6,0),hr h (2,6,0)),((2,6,78),hr h (2,6,78)),((2,12,0),hr h (2,12,0))]⟩
def reduce_Do.m1:LJ 1 12 Unit ((List Int)×(List Int)×(List Int)×(List Int)×Int):=⟨λr s e=>[(3,er e 3),(4,er e 4),(5,.own (2,5,77) 0 s.1.length s.1.length),(6,er e 6),(7,.own (2,7,77) 0 s.2.2.1.length s.2.2.1.length),(8,er e 8),(28,er e 28),(29,er e 29),(30,.v (.int .i64 s.2.2.2.2))],λr s h=>[((0,6,0),hr h (0,6,0)),((0,21,0),hr h (0,21,0)),((0,8,115),hr h (0,8,115)),((0,80,0),hr h (0,80,0)),((0,80,1),hr h (0,80,1)),((0,80,2),hr h (0,80,2)),((0,80,3),hr h (0,80,3)),((1,1,0),hr h (1,1,0)),((1,2,0),hr h (1,2,0)),((1,3,0),hr h (1,3,0)),((2,14,0),hr h (2,14,0)),((2,4,0),bs (hr h (2,4,0)) 0 (.own (2,4,78) 0 s.2.1.length s.2.1.length)),((2,5,77),.sl true true 1 s.1.length (lm (ik .i64) s.1)),((2,4,78),.sl true true 1 s.2.1.length (lm (ik .i64) s.2.1)),((2,6,0),bs (hr h (2,6,0)) 0 (.own (2,6,78) 0 s.2.2.2.1.length s.2.2.2.1.length)),((2,7,77),.sl true true 1 s.2.2.1.length (lm (ik .i64) s.2.2.1)),((2,6,78),.sl true true 1 s.2.2.2.1.length (lm (ik .i64) s.2.2.2.1))]⟩
def reduce_Do.j2:LJ 2 24 Unit ((List Int)×(List Int)×(List Int)×(List Int)):=⟨λr t e=>[(4,er e 4),(5,.own (2,5,77) 0 t.1.length t.1.length),(6,er e 6),(7,.own (2,7,77) 0 t.2.2.1.length t.2.2.1.length)],λr t h=>[((0,6,0),hr h (0,6,0)),((0,21,0),hr h (0,21,0)),((0,8,115),hr h (0,8,115)),((0,80,0),hr h (0,80,0)),((0,80,1),hr h (0,80,1)),((0,80,2),hr h (0,80,2)),((0,80,3),hr h (0,80,3)),((1,1,0),hr h (1,1,0)),((1,2,0),hr h (1,2,0)),((1,3,0),hr h (1,3,0)),((2,14,0),hr h (2,14,0)),((2,4,0),bs (hr h (2,4,0)) 0 (.own (2,4,78) 0 t.2.1.length t.2.1.length)),((2,5,77),.sl true true 1 t.1.length (lm (ik .i64) t.1)),((2,4,78),.sl true true 1 t.2.1.length (lm (ik .i64) t.2.1)),((2,6,0),bs (hr h (2,6,0)) 0 (.own (2,6,78) 0 t.2.2.2.length t.2.2.2.length)),((2,7,77),.sl true true 1 t.2.2.1.length (lm (ik .i64) t.2.2.1)),((2,6,78),.sl true true 1 t.2.2.2.length (lm (ik .i64) t.2.2.2))]⟩
def reduce_Do.m2:LJ 2 10 Unit ((List T_Tensor)×Int):=⟨λr s e=>[(0,er e 0),(2,er e 2),(4,er e 4),(6,er e 6),(8,er e 8),(22,er e 22),(23,er e 23),(24,.v (.int .i64 s.2))],λr s h=>[((0,4,0),hr h (0,4,0)),((0,6,0),hr h (0,6,0)),((0,21,0),bs (hr h (0,21,0)) 37 (.own (0,8,115) 0 s.1.length s.1.length)),((0,8,115),.sl true true 5 s.1.length (fm c_T_Tensor s.1))]⟩
def reduce_Do.j1:LJ 1 26 Unit (List T_Tensor):=⟨λr t e=>[(0,er e 0),(2,er e 2),(4,er e 4),(6,er e 6),(8,er e 8)],λr t h=>[((0,4,0),hr h (0,4,0)),((0,6,0),hr h (0,6,0)),((0,21,0),bs (hr h (0,21,0)) 37 (.own (0,8,115) 0 t.length t.length)),((0,8,115),.sl true true 5 t.length (fm c_T_Tensor t))]⟩
def reduce_Do.r2:LJ 2 3 Unit ((List Int)×(List Int)):=⟨λr s e=>e,λr s h=>[((0,6,0),hr h (0,6,0)),((0,21,0),hr h (0,21,0)),((0,8,115),hr h (0,8,115)),((0,80,0),hr h (0,80,0)),((0,80,1),.sl true true 1 (hx h (0,80,1)) (lm (ik .u32) s.1)),((0,80,2),.sl true true 1 (hx h (0,80,2)) (lm (ik .i64) s.2)),((0,80,3),hr h (0,80,3)),((1,1,0),hr h (1,1,0)),((1,2,0),hr h (1,2,0)),((1,3,0),hr h (1,3,0)),((2,4,0),hr h (2,4,0)),((2,4,78),hr h (2,4,78)),((2,6,0),hr h (2,6,0)),((2,6,78),hr h (2,6,78)),((2,12,0),hr h (2,12,0))]⟩
def reduce_Do.m3:LJ 3 12 Unit ((List Int)×(List Int)×(List Int)×(List Int)×Int):=⟨λr s e=>[(3,er e 3),(4,er e 4),(5,.own (2,5,77) 0 s.1.length s.1.length),(6,er e 6),(7,.own (2,7,77) 0 s.2.2.1.length s.2.2.1.length),(8,er e 8),(28,er e 28),(29,er e 29),(30,.v (.int .i64 s.2.2.2.2))],λr s h=>[((0,6,0),hr h (0,6,0)),((0,21,0),hr h (0,21,0)),((0,8,115),hr h (0,8,115)),((0,80,0),hr h (0,80,0)),((0,80,1),hr h (0,80,1)),((0,80,2),hr h (0,80,2)),((0,80,3),hr h (0,80,3)),((1,1,0),hr h (1,1,0)),((1,2,0),hr h (1,2,0)),((1,3,0),hr h (1,3,0)),((2,14,0),hr h (2,14,0)),((2,4,0),bs (hr h (2,4,0)) 0 (.own (2,4,78) 0 s.2.1.length s.2.1.length)),((2,5,77),.sl true true 1 s.1.length (lm (ik .i64) s.1)),((2,4,78),.sl true true 1 s.2.1.length (lm (ik .i64) s.2.1)),((2,6,0),bs (hr h (2,6,0)) 0 (.own (2,6,78) 0 s.2.2.2.1.length s.2.2.2.1.length)),((2,7,77),.sl true true 1 s.2.2.1.length (lm (ik .i64) s.2.2.1)),((2,6,78),.sl true true 1 s.2.2.2.1.length (lm (ik .i64) s.2.2.2.1))]⟩
def reduce_Do.j4:LJ 4 24 Unit ((List Int)×(List Int)×(List Int)×(List Int)):=⟨λr t e=>[(4,er e 4),(5,.own (2,5,77) 0 t.1.length t.1.length),(6,er e 6),(7,.own (2,7,77) 0 t.2.2.1.length t.2.2.1.length)],λr t h=>[((0,6,0),hr h (0,6,0)),((0,21,0),hr h (0,21,0)),((0,8,115),hr h (0,8,115)),((0,80,0),hr h (0,80,0)),((0,80,1),hr h (0,80,1)),((0,80,2),hr h (0,80,2)),((0,80,3),hr h (0,80,3)),((1,1,0),hr h (1,1,0)),((1,2,0),hr h (1,2,0)),((1,3,0),hr h (1,3,0)),((2,14,0),hr h (2,14,0)),((2,4,0),bs (hr h (2,4,0)) 0 (.own (2,4,78) 0 t.2.1.length t.2.1.length)),((2,5,77),.sl true true 1 t.1.length (lm (ik .i64) t.1)),((2,4,78),.sl true true 1 t.2.1.length (lm (ik .i64) t.2.1)),((2,6,0),bs (hr h (2,6,0)) 0 (.own (2,6,78) 0 t.2.2.2.length t.2.2.2.length)),((2,7,77),.sl true true 1 t.2.2.1.length (lm (ik .i64) t.2.2.1)),((2,6,78),.sl true true 1 t.2.2.2.length (lm (ik .i64) t.2.2.2))]⟩
def reduce_Do.m4:LJ 4 10 Unit ((List T_Tensor)×Int):=⟨λr s e=>[(0,er e 0),(2,er e 2),(4,er e 4),(6,er e 6),(8,er e 8),(22,er e 22),(23,er e 23),(24,.v (.int .i64 s.2))],λr s h=>[((0,4,0),hr h (0,4,0)),((0,6,0),hr h (0,6,0)),((0,21,0),bs (hr h (0,21,0)) 37 (.own (0,8,115) 0 s.1.length s.1.length)),((0,8,115),.sl true true 5 s.1.length (fm c_T_Tensor s.1))]⟩
def reduce_Do.j3:LJ 3 26 Unit (List T_Tensor):=⟨λr t e=>[(0,er e 0),(2,er e 2),(4,er e 4),(6,er e 6),(8,er e 8)],λr t h=>[((0,4,0),hr h (0,4,0)),((0,6,0),hr h (0,6,0)),((0,21,0),bs (hr h (0,21,0)) 37 (.own (0,8,115) 0 t.length t.length)),((0,8,115),.sl true true 5 t.length (fm c_T_Tensor t))]⟩
def reduce_Do.r3:LJ 3 3 Unit (List Int):=⟨λr s e=>e,λr s h=>[((0,6,0),hr h (0,6,0)),((0,21,0),hr h (0,21,0)),((0,8,115),hr h (0,8,115)),((0,80,0),hr h (0,80,0)),((0,80,1),hr h (0,80,1)),((0,80,2),.sl true true 1 (hx h (0,80,2)) (lm (ik .i64) s)),((0,80,3),hr h (0,80,3)),((1,1,0),hr h (1,1,0)),((1,2,0),hr h (1,2,0)),((1,3,0),hr h (1,3,0)),((2,4,0),hr h (2,4,0)),((2,4,78),hr h (2,4,78)),((2,6,0),hr h (2,6,0)),((2,6,78),hr h (2,6,78)),((2,12,0),hr h (2,12,0))]⟩
def reduce_Do.m5:LJ 5 12 Unit ((List Int)×(List Int)×(List Int)×(List Int)×Int):=⟨λr s e=>[(3,er e 3),(4,er e 4),(5,.own (2,5,77) 0 s.1.length s.1.length),(6,er e 6),(7,.own (2,7,77) 0 s.2.2.1.length s.2.2.1.length),(8,er e 8),(28,er e 28),(29,er e 29),(30,.v (.int .i64 s.2.2.2.2))],λr s h=>[((0,6,0),hr h (0,6,0)),((0,21,0),hr h (0,21,0)),((0,8,115),hr h (0,8,115)),((0,80,0),hr h (0,80,0)),((0,80,1),hr h (0,80,1)),((0,80,2),hr h (0,80,2)),((0,80,3),hr h (0,80,3)),((1,1,0),hr h (1,1,0)),((1,2,0),hr h (1,2,0)),((1,3,0),hr h (1,3,0)),((2,14,0),hr h (2,14,0)),((2,4,0),bs (hr h (2,4,0)) 0 (.own (2,4,78) 0 s.2.1.length s.2.1.length)),((2,5,77),.sl true true 1 s.1.length (lm (ik .i64) s.1)),((2,4,78),.sl true true 1 s.2.1.length (lm (ik .i64) s.2.1)),((2,6,0),bs (hr h (2,6,0)) 0 (.own (2,6,78) 0 s.2.2.2.1.length s.2.2.2.1.length)),((2,7,77),.sl true true 1 s.2.2.1.length (lm (ik .i64) s.2.2.1)),((2,6,78),.sl true true 1 s.2.2.2.1.length (lm (ik .i64) s.2.2.2.1))]⟩
def reduce_Do.j6:LJ 6 24 Unit ((List Int)×(List Int)×(List Int)×(List Int)):=⟨λr t e=>[(4,er e 4),(5,.own (2,5,77) 0 t.1.length t.1.length),(6,er e 6),(7,.own (2,7,77) 0 t.2.2.1.length t.2.2.1.length)],λr t h=>[((0,6,0),hr h (0,6,0)),((0,21,0),hr h (0,21,0)),((0,8,115),hr h (0,8,115)),((0,80,0),hr h (0,80,0)),((0,80,1),hr h (0,80,1)),((0,80,2),hr h (0,80,2)),((0,80,3),hr h (0,80,3)),((1,1,0),hr h (1,1,0)),((1,2,0),hr h (1,2,0)),((1,3,0),hr h (1,3,0)),((2,14,0),hr h (2,14,0)),((2,4,0),bs (hr h (2,4,0)) 0 (.own (2,4,78) 0 t.2.1.length t.2.1.length)),((2,5,77),.sl true true 1 t.1.length (lm (ik .i64) t.1)),((2,4,78),.sl true true 1 t.2.1.length (lm (ik .i64) t.2.1)),((2,6,0),bs (hr h (2,6,0)) 0 (.own (2,6,78) 0 t.2.2.2.length t.2.2.2.length)),((2,7,77),.sl true true 1 t.2.2.1.length (lm (ik .i64) t.2.2.1)),((2,6,78),.sl true true 1 t.2.2.2.length (lm (ik .i64) t.2.2.2))]⟩
def reduce_Do.m6:LJ 6 10 Unit ((List T_Tensor)×Int):=⟨λr s e=>[(0,er e 0),(2,er e 2),(4,er e 4),(6,er e 6),(8,er e 8),(22,er e 22),(23,er e 23),(24,.v (.int .i64 s.2))],λr s h=>[((0,4,0),hr h (0,4,0)),((0,6,0),hr h (0,6,0)),((0,21,0),bs (hr h (0,21,0)) 37 (.own (0,8,115) 0 s.1.length s.1.length)),((0,8,115),.sl true true 5 s.1.length (fm c_T_Tensor s.1))]⟩
def reduce_Do.j5:LJ 5 26 Unit (List T_Tensor):=⟨λr t e=>[(0,er e 0),(2,er e 2),(4,er e 4),(6,er e 6),(8,er e 8)],λr t h=>[((0,4,0),hr h (0,4,0)),((0,6,0),hr h (0,6,0)),((0,21,0),bs (hr h (0,21,0)) 37 (.own (0,8,115) 0 t.length t.length)),((0,8,115),.sl true true 5 t.length (fm c_T_Tensor t))]⟩
def reduce_Do.r4:LJ 4 3 Unit (List Int):=⟨λr s e=>e,λr s h=>[((0,6,0),hr h (0,6,0)),((0,21,0),hr h (0,21,0)),((0,8,115),hr h (0,8,115)),((0,80,0),hr h (0,80,0)),((0,80,1),hr h (0,80,1)),((0,80,2),.sl true true 1 (hx h (0,80,2)) (lm (ik .i64) s)),((0,80,3),hr h (0,80,3)),((1,1,0),hr h (1,1,0)),((1,2,0),hr h (1,2,0)),((1,3,0),hr h (1,3,0)),((2,4,0),hr h (2,4,0)),((2,4,78),hr h (2,4,78)),((2,6,0),hr h (2,6,0)),((2,6,78),hr h (2,6,78)),((2,12,0),hr h (2,12,0))]⟩
def reduce_Do.m7:LJ 7 12 Unit ((List Int)×(List Int)×(List Int)×(List Int)×Int):=⟨λr s e=>[(3,er e 3),(4,er e 4),(5,.own (2,5,77) 0 s.1.length s.1.length),(6,er e 6),(7,.own (2,7,77) 0 s.2.2.1.length s.2.2.1.length),(8,er e 8),(28,er e 28),(29,er e 29),(30,.v (.int .i64 s.2.2.2.2))],λr s h=>[((0,6,0),hr h (0,6,0)),((0,21,0),hr h (0,21,0)),((0,8,115),hr h (0,8,115)),((0,80,0),hr h (0,80,0)),((0,80,1),hr h (0,80,1)),((0,80,2),hr h (0,80,2)),((0,80,3),hr h (0,80,3)),((1,1,0),hr h (1,1,0)),((1,2,0),hr h (1,2,0)),((1,3,0),hr h (1,3,0)),((2,14,0),hr h (2,14,0)),((2,4,0),bs (hr h (2,4,0)) 0 (.own (2,4,78) 0 s.2.1.length s.2.1.length)),((2,5,77),.sl true true 1 s.1.length (lm (ik .i64) s.1)),((2,4,78),.sl true true 1 s.2.1.length (lm (ik .i64) s.2.1)),((2,6,0),bs (hr h (2,6,0)) 0 (.own (2,6,78) 0 s.2.2.2.1.length s.2.2.2.1.length)),((2,7,77),.sl true true 1 s.2.2.1.length (lm (ik .i64) s.2.2.1)),((2,6,78),.sl true true 1 s.2.2.2.1.length (lm (ik .i64) s.2.2.2.1))]⟩
def reduce_Do.j8:LJ 8 24 Unit ((List Int)×(List Int)×(List Int)×(List Int)):=⟨λr t e=>[(4,er e 4),(5,.own (2,5,77) 0 t.1.length t.1.length),(6,er e 6),(7,.own (2,7,77) 0 t.2.2.1.length t.2.2.1.length)],λr t h=>[((0,6,0),hr h (0,6,0)),((0,21,0),hr h (0,21,0)),((0,8,115),hr h (0,8,115)),((0,80,0),hr h (0,80,0)),((0,80,1),hr h (0,80,1)),((0,80,2),hr h (0,80,2)),((0,80,3),hr h (0,80,3)),((1,1,0),hr h (1,1,0)),((1,2,0),hr h (1,2,0)),((1,3,0),hr h (1,3,0)),((2,14,0),hr h (2,14,0)),((2,4,0),bs (hr h (2,4,0)) 0 (.own (2,4,78) 0 t.2.1.length t.2.1.length)),((2,5,77),.sl true true 1 t.1.length (lm (ik .i64) t.1)),((2,4,78),.sl true true 1 t.2.1.length (lm (ik .i64) t.2.1)),((2,6,0),bs (hr h (2,6,0)) 0 (.own (2,6,78) 0 t.2.2.2.length t.2.2.2.length)),((2,7,77),.sl true true 1 t.2.2.1.length (lm (ik .i64) t.2.2.1)),((2,6,78),.sl true true 1 t.2.2.2.length (lm (ik .i64) t.2.2.2))]⟩
def reduce_Do.m8:LJ 8 10 Unit ((List T_Tensor)×Int):=⟨λr s e=>[(0,er e 0),(2,er e 2),(4,er e 4),(6,er e 6),(8,er e 8),(22,er e 22),(23,er e 23),(24,.v (.int .i64 s.2))],λr s h=>[((0,4,0),hr h (0,4,0)),((0,6,0),hr h (0,6,0)),((0,21,0),bs (hr h (0,21,0)) 37 (.own (0,8,115) 0 s.1.length s.1.length)),((0,8,115),.sl true true 5 s.1.length (fm c_T_Tensor s.1))]⟩
def reduce_Do.j7:LJ 7 26 Unit (List T_Tensor):=⟨λr t e=>[(0,er e 0),(2,er e 2),(4,er e 4),(6,er e 6),(8,er e 8)],λr t h=>[((0,4,0),hr h (0,4,0)),((0,6,0),hr h (0,6,0)),((0,21,0),bs (hr h (0,21,0)) 37 (.own (0,8,115) 0 t.length t.length)),((0,8,115),.sl true true 5 t.length (fm c_T_Tensor t))]⟩
end Go.Av
