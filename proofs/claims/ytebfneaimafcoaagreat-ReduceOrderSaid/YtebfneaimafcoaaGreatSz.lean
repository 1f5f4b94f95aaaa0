/- Functions that are ranged over: what they hand over. Conditions: none. -/
import Derived.Test.YtebfneaimafcoaaGreatSh2
set_option linter.unusedVariables false
namespace Go.Av
section
variable {P:Program} {C:Cfg} {cp:CallP} {ci:CallI} {lvl:Nat} {N:SlotN} {prot:List Id} {D:List (Nat×List Nat)}
variable {w0:World} {l:Nat} {YS:List AV} {J:Nat->World->(Nat->Prop)->(Nat->Prop)->Prop}
theorem drop1_get: ∀ (e:Env) {d:Nat},(e.drop [d]).get d=none
  |[],_=>rfl
  | (j,x)::e,d=>by
    unfold Env.drop
    split
    · exact drop1_get e
    · rename_i hm
      have hne: ¬ j=d:=λh=>hm (by simp[memN,h])
      simp only[Env.get,if_neg hne]
      exact drop1_get e
def StabJ(w0:World)(J:Nat→World→(Nat→Prop)→(Nat→Prop)→Prop):Prop:=
  ∀ i w1 F1 O1 w2 F2,J i w1 F1 O1->Foreign (λb=>b<w0.heap.size∨F1 b∨O1 b) w1 F1 w2 F2->J i w2 F2 O1
def RoundJ(P:Program)(w0:World)(l:Nat)(YS:List AV)(J:Nat→World→(Nat→Prop)→(Nat→Prop)→Prop):Prop:=
  ∀ (i :Nat) (zs:List AV) (vs:List Value) w1 F1 O1,YS[i]? =some (.tuple zs)→J i w1 F1 O1→(∀ b,F1 b→b<w1.heap.size)→w0.heap.size≤w1.heap.size→zs.length=vs.length→
      (∀ (j:Nat) x u,zs[j]? =some x->vs[j]? =some u->VC w1.heap F1 x u)->
      ∃ fn tmps assign body,(Instr.yield l vs.toArray).run P w1= .ok (.round l fn tmps assign body) w1∧RoundIn Fence.wide 0 P l fn tmps assign body w1 fun e w2=>e= .returned (.bool true)∧
        ∃ F2 O2,J (i+1) w2 F2 O2/\Foreign (λb=> ¬ O1 b) w1 F1 w2 F2/\(∀ b,O2 b->b<w1.heap.size->O1 b)/\ ∀ b,O2 b->b<w2.heap.size/\ ¬ F2 b
structure JnY (N:SlotN) (w0:World) (J:Nat→World→(Nat→Prop)→(Nat→Prop)→Prop) (i:Nat) (w:World) (F:Nat→Prop) (h:Heap) (M:Id→Option Nat) (O:Nat→Prop) (e:Env) (a:Act):Prop where
  st:St N w F h M e a
  j:J i w F O
  own: ∀ id x b,h.get id=some x->x.rw=true->M id=some b->w0.heap.size<=b/\ ¬ O b
  ob: ∀ b,O b->b<w.heap.size/\ ¬ F b
  base:w0.heap.size<=w.heap.size
theorem JnY.step(hs:StabJ w0 J){K:Id→Prop}{i:Nat}{w w':World}{F F':Nat→Prop}{h h':Heap}{M M':Id→Option Nat}{O:Nat→Prop}{e e':Env}{a a':Act}(jn:JnY N w0 J i w F h M O e a)
    (st':St N w' F' h' M' e' a') (ev:Evo K w F h M w' F' h' M'):JnY N w0 J i w' F' h' M' O e' a' where
  st:=st'
  j :=hs i w F O w' F' jn.j (ev.foreign st'.ok fun id x b hg hr hm hk=>by
    have ho:=jn.own id x b hg hr hm
    rcases hk with h1|h1|h1
    · omega
    · exact jn.st.ok.notF hg hr hm h1
    · exact ho.2 h1)
  own id x b hg hr hm:=by
    rcases ev.orig id x hg hr with⟨y,hy,hyr,hym⟩|h1
    · exact jn.own id y b hy hyr (hym ▸ hm)
    · have:=h1 b hm
      exact⟨Nat.le_trans jn.base this,λho=>by have:=(jn.ob b ho).1;omega⟩
  ob b ho:=by
    obtain⟨h1,h2⟩:=jn.ob b ho
    exact⟨Nat.lt_of_lt_of_le h1 ev.size,λhF=>(ev.fold b hF h1).elim h2 λ⟨id,x,hg,hr,hm⟩=>(jn.own id x b hg hr hm).2 ho⟩
  base:=Nat.le_trans jn.base ev.size
theorem run_yieldO{o:Oper}{a:Act}{w:World}{f:Operand}{args:List Operand}{ts:Array TypeId}(ho:o.op= .call ⟨.value f,⟨args⟩,ts⟩)(hf:a.eval f=yv l):
    (execOp a.eval o).run P w=(Instr.yield l (args.map a.eval).toArray).run P w:=by
  unfold execOp
  rw[ho]
  simp[resolve,hf,yv,Deferred.ofValue,invoke,callFunc]
theorem run_moveO{o:Oper}{a:Act}{w:World}{x:Operand}(ho:o.op= .move x):(execOp a.eval o).run P w= .ok (.value (a.eval x)) w:=by
  unfold execOp
  rw[ho]
  simp
theorem aopsY_ok(hcp:CpOK P cp)(hci:CiOK P ci)(hs:StabJ w0 J)(hr:RoundJ P w0 l YS J)(hN:N.y=some l){all:List Oper}{Q:Exit→Act→World→Prop}: ∀ (os:List Oper) {al:Option Nat} {i:Nat} {w:World} {F:Nat→Prop} {h:Heap} {M:Id→Option Nat} {O:Nat→Prop} {e:Env} {a:Act}
    {e':Env} {h':Heap} {ys:List AV},JnY N w0 J i w F h M O e a->(∀ d,al=some d->a.tmps.getD d undef=yv l)->os.all (dstOk N)=true->aopsY P C cp ci lvl all al os e h=some (e',h',ys)->
    (∀ (j:Nat) y,ys[j]? =some y->YS[i+j]? =some y)->
    (∀ a' w' F' M' O',JnY N w0 J (i+ys.length) w' F' h' M' O' e' a'->Q .normal a' w')->wpListIn (Fw none) 0 P all.toArray Q os a w
  | [],al,i,w,F,h,M,O,e,a,e',h',ys,jn,_,_,hq,_,hn=>by
    simp only[aopsY,Option.some.injEq,Prod.mk.injEq]at hq
    obtain⟨rfl,rfl,rfl⟩:=hq
    exact wpListIn_nil (hn a w F M O jn)
  | o :: os, al,i,w,F,h,M,O,e,a,e',h',ys,jn,hal,hd,hq,hY,hn=>by
    simp only[aopsY,Option.bind_eq_some_iff]at hq
    obtain⟨wd,hw,hq⟩:=hq
    simp only[List.all_cons,Bool.and_eq_true]at hd
    have hw':=wanted_ok jn.st.env hw
    unfold wpListIn
    cases wd with
    | false=>
      rw[if_neg (by rw[hw'];simp)]
      rw[if_neg (by simp)]at hq
      exact⟨λ_ _=>trivial,aopsY_ok hcp hci hs hr hN os (jn.step hs (jn.st.put jn.st.ok .refl (dstOk_spec hd.1) (.c .v)) (K:=All) .refl) (λd hd=>by cases hd) hd.2 hq hY hn⟩
    | true=>
      rw[if_pos hw']
      rw[if_pos rfl]at hq
      split at hq
      · rename_i hiy
        split at hq
        · rename_i d hdst
          obtain⟨x,hx⟩: ∃ x,o.op= .move (.tmp 0):=by
            unfold isY at hiy
            split at hiy
            · rename_i h1;exact⟨0,h1⟩
            · cases hiy
          have h0:a.eval (.tmp 0)=yv l:=jn.st.size.2 l hN
          refine⟨λ_ _=>trivial,?_⟩
          rw[Oper.semAt_eq _ _ _ (dstOk_nd hd.1),run_moveO hx,Oper.uponIn_value,h0]
          have hdN:=dstOk_spec hd.1 d hdst
          have st1:=jn.st.drop [d]
          have st2:St N w F h M (e.drop [d]) (a.put o.dst (yv l)):=by
            refine⟨st1.ok,λk y hy=> ?_,st1.size.put (dstOk_spec hd.1),put_defers.trans st1.defers⟩
            have hne: ¬ k=d:=λhk=>by rw[hk,drop1_get]at hy;cases hy
            rw[hdst,put_getD (by rw[st1.size.1];exact hdN.1),if_neg hne]
            exact st1.env k y hy
          refine aopsY_ok hcp hci hs hr hN os (jn.step hs st2 (K:=All) .refl) (λd' hd'=> ?_) hd.2 hq hY hn
          injection hd' with hd'
          subst hd'
          rw[hdst,put_getD (by rw[st1.size.1];exact hdN.1),if_pos rfl]
        · cases hq
      · split at hq
        · rename_i args hya
          obtain⟨d,ts,hop,hald⟩: ∃ d ts,o.op= .call ⟨.value (.tmp d),⟨args⟩,ts⟩∧al=some d:=by
            unfold yArgs at hya
            split at hya
            · rename_i d args' ts h1
              split at hya
              · rename_i h2
                injection hya with hya
                subst hya
                exact⟨d,ts,h1,h2⟩
              · cases hya
            · cases hya
          simp only[Option.bind_eq_some_iff,Prod.exists,Option.some.injEq,Prod.mk.injEq]at hq
          obtain⟨as,has,bs,hbs,e1,h1,ys1,hq,rfl,rfl,rfl⟩:=hq
          obtain⟨l1,x1⟩:=optL_both has
          have hvr: ∀ (j:Nat) x u,as[j]? =some x→(args.map a.eval)[j]? =some u→VR w.heap F h M x u:=fun j x u hx hu=>by
            obtain⟨p,hp,hpx⟩:=x1 j x hx
            rw[List.getElem?_map,hp]at hu
            injection hu with hu
            subst hu
            exact opnd_ok jn.st.env hpx
          obtain⟨F1,k1,ev1,lx,hxv⟩:=seqH_ok jn.st.ok (us:=args.map a.eval) (by simp[l1]) hvr hbs
          have st1:St N w F1 (seqH h as) M e a:=⟨k1,envR_evo jn.st.ok ev1 jn.st.env,jn.st.size,jn.st.defers⟩
          have jn1:=jn.step hs st1 ev1
          obtain⟨fn,tmps,asg,bd,hyr,hround⟩:=hr i bs (args.map a.eval) w F1 O (hY 0 _ rfl) jn1.j k1.fb jn1.base lx hxv
          refine⟨λ_ _=>trivial,?_⟩
          rw[Oper.semAt_eq _ _ _ (dstOk_nd hd.1),run_yieldO (l:=l) hop (hal d hald),hyr,Oper.uponIn_round]
          refine⟨λhd=>by simp[Fw,Fence.wide]at hd,hround.mono ?_⟩
          rintro e2 w2 ⟨rfl,F2,O2,j2,fg,o1,o2⟩
          have kF: ∀ b,F1 b-> ¬ O b:=λb hb ho=>(jn1.ob b ho).2 hb
          have kO: ∀ id x b,(seqH h as).get id=some x->x.rw=true->M id=some b-> ¬ O b:=λid x b hg hr hm=>(jn1.own id x b hg hr hm).2
          obtain⟨k2,v2,_⟩:=foreign_ok k1 fg kF kO
          have st2:St N w2 F2 (seqH h as) M (putE e o.dst (.v (.bool true))) (a.put o.dst (.bool true)):=
            St.put ⟨k2,λk x hx=>v2 _ _ (st1.env k x hx),st1.size,st1.defers⟩ k2 .refl (dstOk_spec hd.1) (.c .v)
          refine aopsY_ok hcp hci hs hr hN os (i:=i+1) ⟨st2,j2,fun id x b hg hr hm=>⟨(jn1.own id x b hg hr hm).1,fun ho=> ?_⟩,o2,Nat.le_trans jn1.base fg.size⟩ (fun d hd=>by cases hd) hd.2 hq
            (λj y hy=>by have:=hY (j+1) y hy;rwa[show i+(j+1)=i+1+j by omega]at this) λa' w' F' M' O' hj=>hn a' w' F' M' O' (by rw[List.length_cons,show i+(ys1.length+1)=i+1+ys1.length by omega];exact hj)
          exact(jn1.own id x b hg hr hm).2 (o1 b ho (k1.lt hg hm))
        · simp only[Option.bind_eq_some_iff,Prod.exists]at hq
          obtain⟨y,h1,hop,hq⟩:=hq
          refine oper_in (dstOk_nd hd.1) (aop_ok hcp hci jn.st.ok jn.st.env hop λw' F' M' u q1 q2 q3=> ?_)
          refine aopsY_ok hcp hci hs hr hN os (jn.step hs (jn.st.put q1 q2 (dstOk_spec hd.1) q3) q2) (λd hd'=> ?_) hd.2 hq hY hn
          split at hd'
          · cases hd'
          · rename_i hne
            cases hdst:o.dst with
            |none=>exact hal d hd'
            | some d2=>
              have h3:=dstOk_spec hd.1 d2 hdst
              rw[put_getD (by rw[jn.st.size.1];exact h3.1),if_neg (λhh=>hne (by rw[hdst,hd',hh]))]
              exact hal d hd'
def ExecYOK(P:Program)(N:SlotN)(w0:World)(YS:List AV)(J:Nat→World→(Nat→Prop)→(Nat→Prop)→Prop)(c:Code)(f:Env→Heap→Option (Ex×Env×Heap×List AV)):Prop:=
  ∀ {i:Nat} {w:World} {F:Nat→Prop} {h:Heap} {M:Id→Option Nat} {O:Nat→Prop} {e:Env} {a:Act} {x:Ex} {e':Env} {h':Heap} {ys:List AV} {Q:Exit→Act→World→Prop},JnY N w0 J i w F h M O e a→f e h=some (x,e',h',ys)→
    (∀ (j:Nat) y,ys[j]? =some y->YS[i+j]? =some y)->(∀ a' w' F' M' O',JnY N w0 J (i+ys.length) w' F' h' M' O' e' a'->Q x.toExit a' w')->c.wpIn (Fw none) 0 P Q a w
theorem execY_of(hm:P.follows .mixedOrders=true)(hcp:CpOK P cp)(hci:CiOK P ci)(hs:StabJ w0 J)(n:Nat){c:Code}(hrf:noRF c=true)(hc:codeOk N D c=true){i:Nat}{w:World}{F:Nat→Prop}{h:Heap}{M:Id→Option Nat}{O:Nat→Prop}{e:Env}{a:Act}{x:Ex}{e':Env}{h':Heap}{Q:Exit→Act→World→Prop}
    (hds:N.ds=[]) (jn:JnY N w0 J i w F h M O e a) (hq:exec P C cp ci lvl prot D n c e h=some (x,e',h')) (hn: ∀ a' w' F' M' O',JnY N w0 J i w' F' h' M' O' e' a'->Q x.toExit a' w'):c.wpIn (Fw none) 0 P Q a w:=by
  obtain⟨nn,ny,nds⟩:=N
  simp only at hds
  subst hds
  refine exec_ok (N:=⟨nn,ny,[]⟩) hm hcp hci n none c prot (.inl rfl) hc (B:=0) (ds:=[]) jn.st ⟨Nat.zero_le _,trivial⟩ hq λds' a' w' F' M' hd st' _ ev=> ?_
  obtain rfl:=hd hrf
  exact hn a' w' F' M' O (jn.step hs st' ev)
theorem yloop_ok(hs:StabJ w0 J){c:Code}{f:Env→Heap→Option (Ex×Env×Heap×List AV)}(hb:ExecYOK P N w0 YS J c f): ∀ n {i:Nat} {w:World} {F:Nat→Prop} {h:Heap} {M:Id→Option Nat} {O:Nat→Prop} {e:Env} {a:Act} {x:Ex} {e':Env} {h':Heap} {ys:List AV} {Q:Exit→Act→World→Prop},
    JnY N w0 J i w F h M O e a->yloop prot f n e h=some (x,e',h',ys)->(∀ (j:Nat) y,ys[j]? =some y->YS[i+j]? =some y)->(∀ a' w' F' M' O',JnY N w0 J (i+ys.length) w' F' h' M' O' e' a'->Q x.toExit a' w')->Code.roundsIn (Fw none) 0 P c Q n a w:=by
  intro n
  induction n with
  |zero=>intro i w F h M O e a x e' h' ys Q jn hq _ _;simp[yloop]at hq
  | succ n ih=>
    intro i w F h M O e a x e' h' ys Q jn hq hY hn
    simp only[yloop,Option.bind_eq_some_iff,Prod.exists]at hq
    obtain⟨x1,e1,h1,ys1,hbody,hq⟩:=hq
    obtain⟨k1,ev1,hvr⟩:=sweep_ok jn.st.ok prot e
    have jn1:=jn.step hs (st':=⟨k1,λk y hy=>hvr y _ (λid hid=>namedE_of hy hid) (jn.st.env k y hy),jn.st.size,jn.st.defers⟩) ev1
    cases x1 with
    | normal=>
      simp only[Option.bind_eq_some_iff,Prod.exists,Option.some.injEq,Prod.mk.injEq]at hq
      obtain⟨x2,e2,h2,zs,hq,rfl,rfl,rfl,rfl⟩:=hq
      refine hb jn1 hbody (λj y hy=>hY j y (by rw[List.getElem?_append_left (List.getElem?_eq_some_iff.1 hy).1];exact hy)) λa2 w2 F2 M2 O2 jn2=> ?_
      refine ih jn2 hq (λj y hy=> ?_) λa3 w3 F3 M3 O3 jn3=>hn a3 w3 F3 M3 O3 (by rw[List.length_append,← Nat.add_assoc];exact jn3)
      have:=hY (ys1.length+j) y (by rw[List.getElem?_append_right (by omega)];simpa using hy)
      rwa[← Nat.add_assoc]at this
    | exit id=>
      simp only[Option.some.injEq,Prod.mk.injEq]at hq
      obtain⟨rfl,rfl,rfl,rfl⟩:=hq
      exact hb jn1 hbody hY λa2 w2 F2 M2 O2 jn2=>hn a2 w2 F2 M2 O2 jn2
    | ret=>
      simp only[Option.some.injEq,Prod.mk.injEq]at hq
      obtain⟨rfl,rfl,rfl,rfl⟩:=hq
      exact hb jn1 hbody hY λa2 w2 F2 M2 O2 jn2=>hn a2 w2 F2 M2 O2 jn2
theorem execY_ok(hm:P.follows .mixedOrders=true)(hcp:CpOK P cp)(hci:CiOK P ci)(hs:StabJ w0 J)(hr:RoundJ P w0 l YS J)(hN:N.y=some l)(hds:N.ds=[])(n:Nat): ∀ c,noRF c=true→codeOk N D c=true→ExecYOK P N w0 YS J c (execY P C cp ci lvl prot D n c)
  | .skip,hrf,hc=>fun jn hq hY hn=>by
    simp only[execY,Option.bind_eq_some_iff,Prod.exists,Option.some.injEq,Prod.mk.injEq]at hq
    obtain⟨_,_,_,hq,rfl,rfl,rfl,rfl⟩:=hq
    exact execY_of hm hcp hci hs n hrf hc hds jn hq hn
  | .label _,hrf,hc=>fun jn hq hY hn=>by
    simp only[execY,Option.bind_eq_some_iff,Prod.exists,Option.some.injEq,Prod.mk.injEq]at hq
    obtain⟨_,_,_,hq,rfl,rfl,rfl,rfl⟩:=hq
    exact execY_of hm hcp hci hs n hrf hc hds jn hq hn
  | .exit _,hrf,hc=>fun jn hq hY hn=>by
    simp only[execY,Option.bind_eq_some_iff,Prod.exists,Option.some.injEq,Prod.mk.injEq]at hq
    obtain⟨_,_,_,hq,rfl,rfl,rfl,rfl⟩:=hq
    exact execY_of hm hcp hci hs n hrf hc hds jn hq hn
  | .ret,hrf,hc=>fun jn hq hY hn=>by
    simp only[execY,Option.bind_eq_some_iff,Prod.exists,Option.some.injEq,Prod.mk.injEq]at hq
    obtain⟨_,_,_,hq,rfl,rfl,rfl,rfl⟩:=hq
    exact execY_of hm hcp hci hs n hrf hc hds jn hq hn
  | .region id ⟨ops⟩ true,hrf,hc=>fun jn hq hY hn=>by
    simp only[execY,Option.bind_eq_some_iff,Prod.exists,Option.some.injEq,Prod.mk.injEq]at hq
    obtain⟨_,_,_,hq,rfl,rfl,rfl,rfl⟩:=hq
    exact execY_of hm hcp hci hs n hrf hc hds jn hq hn
  | .region id ⟨ops⟩ false,hrf,hc=>fun jn hq hY hn=>by
    simp only[execY]at hq
    split at hq
    · simp only[Option.bind_eq_some_iff,Prod.exists,Option.some.injEq,Prod.mk.injEq]at hq
      obtain⟨e1,h1,ys1,hops,e2,h2,hp,rfl,rfl,rfl,rfl⟩:=hq
      simp only[codeOk,Bool.and_eq_true]at hc
      refine wpIn_region_list (aopsY_ok hcp hci hs hr hN ops jn (λd hd=>by cases hd) hc.1 hops hY λa' w' F' M' O' jn'=> ?_)
      obtain⟨F2,M2,s2,ev2⟩:=post_ok _ (jn'.st.drop _) hp
      exact hn a' w' F2 M2 O' (jn'.step hs s2 ev2)
    · simp only[Option.bind_eq_some_iff,Prod.exists,Option.some.injEq,Prod.mk.injEq]at hq
      obtain⟨_,_,_,hq,rfl,rfl,rfl,rfl⟩:=hq
      exact execY_of hm hcp hci hs n hrf hc hds jn hq hn
  | .seq x y,hrf,hc=>fun jn hq hY hn=>by
    simp only[codeOk,Bool.and_eq_true]at hc
    simp only[noRF,Bool.and_eq_true]at hrf
    simp only[execY,Option.bind_eq_some_iff,Prod.exists]at hq
    obtain⟨x1,e1,h1,ys1,hx,hq⟩:=hq
    cases x1 with
    | normal=>
      simp only[Option.bind_eq_some_iff,Prod.exists,Option.some.injEq,Prod.mk.injEq]at hq
      obtain⟨x2,e2,h2,zs,hy,rfl,rfl,rfl,rfl⟩:=hq
      refine wpIn_seq (execY_ok hm hcp hci hs hr hN hds n x hrf.1 hc.1 jn hx (λj y hy=>hY j y (by rw[List.getElem?_append_left (List.getElem?_eq_some_iff.1 hy).1];exact hy)) λa2 w2 F2 M2 O2 jn2=> ?_)
      refine execY_ok hm hcp hci hs hr hN hds n y hrf.2 hc.2 jn2 hy (λj y hy=> ?_) λa3 w3 F3 M3 O3 jn3=>hn a3 w3 F3 M3 O3 (by rw[List.length_append,← Nat.add_assoc];exact jn3)
      have:=hY (ys1.length+j) y (by rw[List.getElem?_append_right (by omega)];simpa using hy)
      rwa[← Nat.add_assoc]at this
    | exit id=>
      simp only[Option.some.injEq,Prod.mk.injEq]at hq
      obtain⟨rfl,rfl,rfl,rfl⟩:=hq
      exact wpIn_seq (execY_ok hm hcp hci hs hr hN hds n x hrf.1 hc.1 jn hx hY λa2 w2 F2 M2 O2 jn2=>hn a2 w2 F2 M2 O2 jn2)
    | ret=>
      simp only[Option.some.injEq,Prod.mk.injEq]at hq
      obtain⟨rfl,rfl,rfl,rfl⟩:=hq
      exact wpIn_seq (execY_ok hm hcp hci hs hr hN hds n x hrf.1 hc.1 jn hx hY λa2 w2 F2 M2 O2 jn2=>hn a2 w2 F2 M2 O2 jn2)
  | .cond c x y,hrf,hc=>fun jn hq hY hn=>by
    simp only[codeOk,Bool.and_eq_true]at hc
    simp only[noRF,Bool.and_eq_true]at hrf
    simp only[execY,Option.bind_eq_some_iff]at hq
    obtain⟨v,hv,hq⟩:=hq
    have hvr:=opnd_ok jn.st.env hv
    split at hq
    · have hb:=hvr.v_inv
      split at hq
      · rename_i ht
        subst ht
        exact wpIn_cond_true hb (execY_ok hm hcp hci hs hr hN hds n x hrf.1 hc.1 (jn.step hs jn.st.dropO (K:=All) .refl) hq hY hn)
      · rename_i ht
        rw[Bool.eq_false_iff.mpr ht]at hb
        exact wpIn_cond_false hb (execY_ok hm hcp hci hs hr hN hds n y hrf.2 hc.2 (jn.step hs jn.st.dropO (K:=All) .refl) hq hY hn)
    · cases hq
  | .block id c,hrf,hc=>fun jn hq hY hn=>by
    simp only[codeOk]at hc
    simp only[noRF]at hrf
    simp only[execY,Option.bind_eq_some_iff,Prod.exists]at hq
    obtain⟨x1,e1,h1,ys1,hx,hq⟩:=hq
    cases x1 with
    | normal=>
      simp only[Option.bind_eq_some_iff,Prod.exists,Option.some.injEq,Prod.mk.injEq]at hq
      obtain⟨e3,h3,hp,rfl,rfl,rfl,rfl⟩:=hq
      refine wpIn_block (execY_ok hm hcp hci hs hr hN hds n c hrf hc jn hx hY λa2 w2 F2 M2 O2 jn2=> ?_)
      obtain⟨F3,M3,s3,ev3⟩:=post_ok _ (jn2.st.drop _) hp
      exact hn a2 w2 F3 M3 O2 (jn2.step hs s3 ev3)
    | exit j=>
      simp only at hq
      split at hq
      · rename_i hj
        simp only[Option.bind_eq_some_iff,Prod.exists,Option.some.injEq,Prod.mk.injEq]at hq
        obtain⟨e3,h3,hp,rfl,rfl,rfl,rfl⟩:=hq
        refine wpIn_block (execY_ok hm hcp hci hs hr hN hds n c hrf hc jn hx hY λa2 w2 F2 M2 O2 jn2=> ?_)
        obtain⟨F3,M3,s3,ev3⟩:=post_ok _ (jn2.st.drop _) hp
        simp only[Ex.toExit,Exit.inBlock]
        rw[if_pos hj]
        exact hn a2 w2 F3 M3 O2 (jn2.step hs s3 ev3)
      · rename_i hj
        simp only[Option.some.injEq,Prod.mk.injEq]at hq
        obtain⟨rfl,rfl,rfl,rfl⟩:=hq
        refine wpIn_block (execY_ok hm hcp hci hs hr hN hds n c hrf hc jn hx hY λa2 w2 F2 M2 O2 jn2=> ?_)
        simp only[Ex.toExit,Exit.inBlock]
        rw[if_neg hj]
        exact hn a2 w2 F2 M2 O2 jn2
    | ret=>
      simp only[Option.some.injEq,Prod.mk.injEq]at hq
      obtain⟨rfl,rfl,rfl,rfl⟩:=hq
      exact wpIn_block (execY_ok hm hcp hci hs hr hN hds n c hrf hc jn hx hY λa2 w2 F2 M2 O2 jn2=>hn a2 w2 F2 M2 O2 jn2)
  | .loop c,hrf,hc=>fun jn hq hY hn=>by
    simp only[codeOk]at hc
    simp only[noRF]at hrf
    simp only[execY]at hq
    exact wpIn_loop_rounds n (yloop_ok hs (execY_ok hm hcp hci hs hr hN hds n c hrf hc) n jn hq hY hn)
  | .scope c,hrf,hc=>fun jn hq hY hn=>by
    simp only[codeOk]at hc
    simp only[noRF]at hrf
    simp only[execY]at hq
    refine wpIn_scope_straight (execY_ok hm hcp hci hs hr hN hds n c hrf hc jn hq hY λa2 w2 F2 M2 O2 jn2=> ?_)
    have:=hn a2 w2 F2 M2 O2 jn2
    rename_i xx _ _ _ _
    cases xx <;> exact this
  | .rangeFunc _ _ _ _,hrf,_=>by cases hrf
  | .goto _,_,hc=>by cases hc
  | .refuse _,_,hc=>by cases hc
def finfoY(P:Program)(f:FuncId)(D:List (Nat×List Nat)):Option FInfo:=
  match P.funcs[f]? with
  | some fn=>match fn.body with
    |some c=>if(fn.name== "runtime.NumGoroutine")=false/\codeOk ⟨fn.ntmps,some 0,[]⟩ D c=true/\noRF c=true then some ⟨c,fn.results.toList,fn.resultTypes.toList⟩else none
    |none=>none
  |none=>none
theorem finfoY_some{f:FuncId}{D:List (Nat×List Nat)}{i:FInfo}(hi:finfoY P f D=some i): ∃ fn,P.funcs[f]? =some fn∧(fn.name== "runtime.NumGoroutine")=false∧fn.body=some i.code∧
    codeOk ⟨fn.ntmps,some 0,[]⟩ D i.code=true/\noRF i.code=true/\i.results=fn.results.toList:=by
  unfold finfoY at hi
  split at hi
  · rename_i fn hf
    split at hi
    · rename_i c hc
      split at hi
      · rename_i hh
        injection hi with hi
        subst hi
        exact⟨fn,hf,hh.1,hc,hh.2.1,hh.2.2,rfl⟩
      · cases hi
    · cases hi
  · cases hi
theorem finfoY_at{f:FuncId}{fn:Func}{c:Code}(hf:P.funcs[f]? =some fn)(hb:fn.body=some c)(hn:(fn.name== "runtime.NumGoroutine")=false)(hc:codeOk ⟨fn.ntmps,some 0,[]⟩ D c=true)(hr:noRF c=true):
    finfoY P f D=some ⟨c,fn.results.toList,fn.resultTypes.toList⟩:=by
  simp only[finfoY,hf,hb]
  rw[if_pos ⟨hn,hc,hr⟩]
theorem bodyY_ok(hm:P.follows .mixedOrders=true)(hcp:CpOK P cp)(hci:CiOK P ci){n:Nat}{f:FuncId}{i:FInfo}(hi:finfoY P f D=some i)
    {args ys:List AV} (hq:bodyY P C cp ci n D i args=some ys):ItOK P f args ys:=by
  obtain⟨fn,hf,hname,hbody,hcode,hrf,hres⟩:=finfoY_some hi
  refine⟨⟨fn,hf,hname,by rw[hbody];rfl⟩,λw F us l J O hF hl hx hs hr h0 hO=> ?_⟩
  refine calls_out (n:=0) (callsIn_of_wp_marks hf hbody trivial ?_)
  have hk:HOK w.heap F [] (λ_=>none):=⟨λid b hb=>(by cases hb),λ_ _ _ _ _ hb=>(by cases hb),hF⟩
  obtain⟨N,hN,st⟩:=init_stY hk hl (λi x u a b=> .c (hx i x u a b)) fn.ntmps l
  unfold bodyY at hq
  simp only[Option.bind_eq_some_iff,Prod.exists]at hq
  obtain⟨x,e,h',ys',hex,hq⟩:=hq
  have jn:JnY ⟨N,some l,[]⟩ w J 0 w F [] (fun _=>none) O (initE 1 args) {tmps:=(yv l::us).toArray++Array.replicate (fn.ntmps - (yv l::us).toArray.size) undef,defers:=[]}:=
    ⟨st,h0,λid x b hg=>(by cases hg),hO,Nat.le_refl _⟩
  have fin:i.results.isEmpty=true→ ∀ {a':Act} {w':World} {F':Nat→Prop} {M':Id→Option Nat} {O':Nat→Prop},JnY ⟨N,some l,[]⟩ w J (0+ys'.length) w' F' h' M' O' e a'→
      LeavesInM (Fw none) 0 P fn a'.tmps (λe w'=> ∃ v F' O',e= .returned v/\J ys'.length w' F' O') a'.defers .returning w':=λhre a' w' F' M' O' jn'=>by
    rw[jn'.st.defers]
    have hnil:fn.results= #[]:=by
      have:fn.results.toList=[]:=by rw[← hres];simpa using hre
      simpa using this
    obtain⟨us',h1,_,_⟩:=results_ok (P:=P) jn'.st.ok jn'.st.env (fn:=fn) (rs:=[]) (by rw[hnil];rfl)
    exact⟨_,h1,_,F',O',rfl,by have:=jn'.j;rwa[Nat.zero_add]at this⟩
  refine execY_ok (N:=⟨N,some l,[]⟩) (YS:=ys') (l:=l) hm hcp hci hs ?_ rfl rfl n i.code hrf (codeOk_mono (N:=⟨fn.ntmps,some 0,[]⟩) (N':=⟨N,some l,[]⟩) hN rfl _ hcode) jn hex (λj y hy=>by rw[Nat.zero_add];exact hy) λa' w' F' M' O' jn'=> ?_
  · have:ys'=ys:=by
      cases x <;> simp only at hq
      · split at hq
        · injection hq
        · cases hq
      · cases hq
      · split at hq
        · injection hq
        · cases hq
    subst this
    exact hr
  · cases x with
    |exit j=>cases hq
    | normal=>
      simp only at hq
      split at hq
      · injection hq with hq;subst hq;exact fin (by assumption) jn'
      · cases hq
    | ret=>
      simp only at hq
      split at hq
      · injection hq with hq;subst hq;exact fin (by assumption) jn'
      · cases hq
def ciY(f:FuncId)(c:List AV→Option (List AV))(ci:CallI):CallI:=fun lvl k as h=>
  match lvl with
  |0=>if k=f then(c as).bind λys=>some (.newbx ys,h)else ci 0 k as h
  |lvl+1=>ci (lvl+1) k as h
theorem ciY_ok(hci:CiOK P ci){f:FuncId}{c:List AV→Option (List AV)}(hc: ∀ as ys,c as=some ys→ItOK P f as ys):CiOK P (ciY f c ci):=fun lvl k as h r h' hq=>by
  cases lvl with
  | zero=>
    simp only[ciY]at hq
    split at hq
    · rename_i hk
      subst hk
      simp only[Option.bind_eq_some_iff,Option.some.injEq,Prod.mk.injEq]at hq
      obtain⟨ys,hys,rfl,rfl⟩:=hq
      exact .inr ⟨rfl,ys,rfl,hc _ _ hys⟩
    · exact hci _ _ _ _ _ _ hq
  |succ lvl=>exact hci _ _ _ _ _ _ hq
end
end Go.Av
