/- A function's body: what the interpreter makes of it is what a call of it does. Conditions: none. -/
import Derived.Test.YtiagecndhhinfaaGreatSh1
import Derived.Calls
import Derived.Laws.Sem
set_option linter.unusedVariables false
namespace Go.Av
section
variable {P:Program} {w:World} {F:Nat->Prop} {h:Heap} {M:Id->Option Nat}
theorem amb{N N':jq}(hN:N.n≤N'.n)(hy:N.y.isNone=N'.y.isNone){o:Oper}(hd:jD N o=true):jD N' o=true:=by
  unfold jD at hd ⊢
  rw[← hy]
  simp only[Bool.and_eq_true]at hd ⊢
  refine⟨?_,hd.2⟩
  have h1:=hd.1
  split at h1
  · simp only[Bool.and_eq_true,decide_eq_true_eq]at h1 ⊢
    exact⟨Nat.lt_of_lt_of_le h1.1 hN,h1.2⟩
  · rfl
theorem sH{N N':jq}(hN:N.n≤N'.n)(hy:N.y.isNone=N'.y.isNone){D:List (Nat×List Nat)}: ∀ c,codeOk N D c=true→codeOk N' D c=true
  | .skip,_=>rfl
  | .label _,_=>rfl
  | .exit _,_=>rfl
  | .ret,_=>rfl
  | .region id ⟨ops⟩ draw,hc=>by
    simp only[codeOk,Bool.and_eq_true,List.all_eq_true]at hc ⊢
    exact⟨λo ho=>amb hN hy (hc.1 o ho),hc.2⟩
  | .seq a b,hc=>by
    simp only[codeOk,Bool.and_eq_true]at hc ⊢
    exact⟨sH hN hy a hc.1,sH hN hy b hc.2⟩
  | .cond _ a b,hc=>by
    simp only[codeOk,Bool.and_eq_true]at hc ⊢
    exact⟨sH hN hy a hc.1,sH hN hy b hc.2⟩
  | .block _ c,hc=>by simp only[codeOk]at hc ⊢;exact sH hN hy c hc
  | .loop c,hc=>by simp only[codeOk]at hc ⊢;exact sH hN hy c hc
  | .scope c,hc=>by simp only[codeOk]at hc ⊢;exact sH hN hy c hc
  | .rangeFunc _ ⟨ps⟩ a b,hc=>by
    simp only[codeOk,Bool.and_eq_true]at hc ⊢
    refine⟨⟨⟨⟨sH hN hy a hc.1.1.1.1,sH hN hy b hc.1.1.1.2⟩,hc.1.1.2⟩,hc.1.2⟩,?_⟩
    rw[← hy]
    have h1:=hc.2
    simp only[List.all_eq_true,Bool.and_eq_true,decide_eq_true_eq]at h1 ⊢
    exact λp hp=>⟨Nat.lt_of_lt_of_le (h1 p hp).1 hN,(h1 p hp).2⟩
  | .goto _,hc=>by cases hc
  | .refuse _,hc=>by cases hc
theorem aaB: ∀ (xs:List AV) (k j:Nat),(bW k xs).get j=if k≤j then xs[j - k]? else none
  |[],k,j=>by simp[bW,Env.get]
  | x ::xs,k,j=>by
    simp only[bW,Env.get]
    by_cases h1:k=j
    · subst h1;simp
    · rw[if_neg h1,aaB xs (k+1) j]
      by_cases h2:k<=j
      · rw[if_pos h2,if_pos ae,show j - k=(j - (k+1))+1 by omega,List.getElem?_cons_succ]
      · rw[if_neg h2,if_neg ae]
theorem aaC(hk:aQ w.heap F h M){args:List AV}{us:List Value}(hl:args.length=us.length)(hx: ∀ (i:Nat) x u,args[i]? =some x→us[i]? =some u→VR w.heap F h M x u)(n:Nat):
    ∃ N,n<=N/\St ⟨N,none,[]⟩ w F h M (bW 0 args) {tmps:=us.toArray++Array.replicate (n - us.toArray.size) undef,defers:=[]}:=by
  refine⟨us.length+(n - us.length),by omega,hk,λk x hk=> ?_,⟨by simp,λl h=>by cases h⟩,rfl⟩
  rw[aaB]at hk
  simp only[Nat.zero_le,if_true,Nat.sub_zero]at hk
  have h1:=(List.getElem?_eq_some_iff.1 hk).1
  have h2:k<us.length:=ae
  refine hx k x _ hk ?_
  simp only[Array.getD_eq_getD_getElem?]
  rw[Array.getElem?_append_left (by simpa using h2)]
  simp[List.getElem?_eq_getElem h2]
theorem ae9(hk:aQ w.heap F h M){x y:AV}{u:Value}{t:TypeId}(hv:VR w.heap F h M x u)(e:pz P h.get t x=some y):
    ∃ v,(do loadVar t (← asAddr u):Sem Value).run P w= .ok v w/\VR w.heap F h M y v:=by
  unfold pz at e
  split at e
  · rename_i id off ext
    simp only[aA]at e
    obtain⟨blk,hg,e⟩:=e
    split at e
    · rename_i hext
      obtain⟨blk',hg',_,ho⟩:=hv.zH
      rw[hg]at hg';injection hg' with hg';subst hg'
      obtain⟨b,hM,rfl⟩:=ho hext
      obtain⟨cur,et,h1,h2⟩:=hk.along hg hM
      obtain⟨v,h3,h4⟩:=MZ (P:=P) (o:=0) h1 h2 e
      exact⟨v,by simpa[asAddr]using h3,h4.vr⟩
    · cases e
  · rename_i xs off
    obtain⟨b,o,cur,et,fz,rfl,_,h1,h2,_⟩:=hv.nC.nC
    obtain⟨v,h3,h4⟩:=MZ (P:=P) h1 h2 e
    exact⟨v,by simpa[asAddr]using h3,.c h4.vc⟩
  · cases e
theorem acT(hk:aQ w.heap F h M){e:Env}{a:Act}(he:fK w.heap F h M e.get a): ∀ {l:List ResultVar} {rs:List AV},aZ (mf P e h) l=some rs→
    ∃ us,(l.mapM fun r=>match r with| .tmp t=>pure (a.tmps.getD t undef)| .cell c t=>do loadVar t (← asAddr (a.tmps.getD c undef)):Sem (List Value)).run P w= .ok us w∧
      rs.length=us.length/\ ∀ (i:Nat) x u,rs[i]? =some x->us[i]? =some u->VR w.heap F h M x u
  | [],rs,hq=>by
    simp only[aZ,aH]at hq
    subst hq
    exact⟨[],by simp,rfl,λi x u hi=>by simp at hi⟩
  | r ::l,rs,hq=>by
    simp only[aZ,aA,aH]at hq
    obtain⟨y,hy,ys,hys,rfl⟩:=hq
    obtain⟨us,h1,h2,h3⟩:=acT hk he hys
    have hv: ∃ v,(match r with| .tmp t=>pure (a.tmps.getD t undef)| .cell c t=>do loadVar t (← asAddr (a.tmps.getD c undef)):Sem Value).run P w= .ok v w∧VR w.heap F h M y v:=by
      cases r with
      |tmp t=>exact⟨_,by simp,he t y hy⟩
      | cell c t=>
        simp only[mf,aA]at hy
        obtain⟨p,hp,hy⟩:=hy
        exact ae9 hk (he c p hp) hy
    obtain⟨v,h4,h5⟩:=hv
    refine⟨v::us,?_,by simp[h2],λi x u hx hu=> ?_⟩
    · rw[List.mapM_cons,Sem.run_bind,h4,Result.andThen_ok,Sem.run_bind,h1,Result.andThen_ok]
      simp
    · cases i with
      |zero=>simp at hx hu;subst hx hu;exact h5
      |succ i=>simp at hx hu;exact h3 i x u hx hu
def EW(us:List Value):Value:=match us with|[u]=>u|us=> .tuple ⟨us⟩
theorem acU(hk:aQ w.heap F h M){e:Env}{a:Act}(he:fK w.heap F h M e.get a){fn:Func}{rs:List AV}(hq:aZ (mf P e h) fn.results.toList=some rs):
    ∃ us,(results fn a.tmps).run P w= .ok (EW us) w/\rs.length=us.length/\ ∀ (i:Nat) x u,rs[i]? =some x->us[i]? =some u->VR w.heap F h M x u:=by
  obtain⟨us,h1,h2,h3⟩:=acT (P:=P) hk he hq
  refine⟨us,?_,h2,h3⟩
  unfold results
  rw[Array.mapM_eq_mapM_toList]
  simp only[map_eq_pure_bind,bind_assoc,Sem.run_bind,pure_bind]
  refine(congrArg (λr=>Result.andThen r _) h1).trans ?_
  match us with
  |[]=>rfl
  |[u]=>rfl
  |_::_::_=>simp[EW]
def aN(P:Program)(f:FuncId)(D:List (Nat×List Nat)):Option aU:=
  match P.funcs[f]? with
  | some fn=>match fn.body with
    |some c=>if(fn.name== "runtime.NumGoroutine")=false/\codeOk ⟨fn.ntmps,none,[]⟩ D c=true then some ⟨c,fn.results.toList,fn.resultTypes.toList⟩else none
    |none=>none
  |none=>none
theorem Z4{f:FuncId}{D:List (Nat×List Nat)}{i:aU}(hi:aN P f D=some i): ∃ fn,P.funcs[f]? =some fn∧(fn.name== "runtime.NumGoroutine")=false∧fn.body=some i.code∧
    codeOk ⟨fn.ntmps,none,[]⟩ D i.code=true/\i.results=fn.results.toList:=by
  unfold aN at hi
  split at hi
  · rename_i fn hf
    split at hi
    · rename_i c hc
      split at hi
      · rename_i hh
        injection hi with hi
        subst hi
        exact⟨fn,hf,hh.1,hc,hh.2,rfl⟩
      · cases hi
    · cases hi
  · cases hi
theorem bn.abf{K K':Id→Prop}{w':World}{F':Nat→Prop}{h':Heap}{M':Id→Option Nat}(a:bn K w F h M w' F' h' M')(hK: ∀ id x,h.get id=some x→K id):bn K' w F h M w' F' h' M':=
  ⟨a.os,a.tape,a.output,a.size,a.keep,a.fsub,a.fold,a.orig,λid x hx _=>a.held id x hx (hK id x hx)⟩
theorem dO.one{H:Array Obj}{C R:AV→Value→Prop}{xs:List AV}{us:List Value}{bs:List Nat}(ht:dO H C R xs us bs):TR H C R (Go.Av.one xs) (EW us) bs:=by
  cases ht with
  |nil=>exact .tuple .nil
  | cons a b=>
    cases b with
    |nil=>exact dO.single (.cons a .nil)
    |cons b c=>exact .tuple (.cons a (.cons b c))
theorem TA{K:Id→Prop}{B:Nat}{fn:Func}{tmps:Array Value}{R:Ending→World→Prop}{w0:World}{F0:Nat→Prop}{h0:Heap}{M0:Id→Option Nat}(hB:w0.heap.size≤B): ∀ (ds:List Deferred) {w:World} {F:Nat→Prop} {h:Heap} {M:Id→Option Nat},aQ w.heap F h M→oH B w F ds→bn K w0 F0 h0 M0 w F h M→
    (∀ w',aQ w'.heap F h M->bn K w0 F0 h0 M0 w' F h M->(∀ x u,VR w.heap F h M x u->VR w'.heap F h M x u)-> ∃ v,(results fn tmps).run P w'= .ok v w'/\R (.returned v) w')->LeavesInM (Fw none) 0 P fn tmps R ds .returning w
  |[],w,F,h,M,hk,_,ev,fin=>fin w hk ev λ_ _ h=>h
  | d::ds,w,F,h,M,hk,⟨⟨D,h1,h2,h3,h4,h5⟩,hd⟩,ev,fin=>by
    refine⟨by simp,.inl ⟨D,_,by rw[h1];rfl,run_takeDeferred h2,?_⟩⟩
    obtain⟨k1,v1,_⟩:=MK hk (.deferred none) h2 rfl h3
    exact TA hB ds k1 (hd.put h4) (ZR hk ev _ h2 rfl h3 ae) λw' a b c=>fin w' a b λx u hv=>c x u (v1 x u hv)
theorem bM(hm:P.follows .mixedOrders=true){C:bG}{cp:aC}{ci:bz}(hcp:aK P cp)(hci:eH P ci){n:Nat}{D:List (Nat×List Nat)}{f:FuncId}{i:aU}(hi:aN P f D=some i)
    {args:List AV} {r:AV} (hq:bI P C cp ci n D i args=some r):bH P f args r:=by
  obtain⟨fn,hf,hname,hbody,hcode,hres⟩:=Z4 hi
  refine⟨⟨fn,hf,hname,by rw[hbody];rfl⟩,λw F us hF hl hx=> ?_⟩
  refine Xy (n:=0) (callsIn_of_wp_marks hf hbody trivial ?_)
  have hk:aQ w.heap F [] (λ_=>none):=⟨λid b hb=>(by cases hb),λ_ _ _ _ _ hb=>(by cases hb),hF⟩
  obtain⟨N,hN,st⟩:=aaC hk hl (λi x u a b=> .c (hx i x u a b)) fn.ntmps
  unfold bI at hq
  simp only[aA,Prod.exists]at hq
  obtain⟨x,e,h',hex,hq⟩:=hq
  refine sJ (N:=⟨N,none,[]⟩) hm hcp hci n none i.code [] (.inl rfl) (sH (N:=⟨fn.ntmps,none,[]⟩) (N':=⟨N,none,[]⟩) hN rfl _ hcode) (B:=w.heap.size) (ds:=[]) st ⟨Nat.le_refl _,trivial⟩ hex λds' a' w2 F' M' _ s2 dk' ev2=> ?_
  have fin: ∀ {rs:List AV},aZ (mf P e h') i.results=some rs→ ∀ {ys:List AV} {us':List Id},fE (fQ (dV h' ((rs.map (kZ h'.get 4)).flatten)).get 4) rs []=some (ys,us')→one (rU P i.types ys)=r→
      LeavesInM (Fw none) 0 P fn a'.tmps (λe w'=> ∃ u F' bs,e= .returned u/\w.grownBy w' none/\(∀ b,F b->F' b)/\(∀ b,F' b->b<w'.heap.size)/\(∀ b,F' b->b<w.heap.size->F b)/\
      TR w'.heap (VC w'.heap F') (VC w'.heap F') r u bs/\bs.Nodup/\ ∀ b ∈ bs,w.heap.size<=b/\b<w'.heap.size/\ ¬ F' b) a'.defers .returning w2:=by
    intro rs hrs ys us' hys hr
    rw[s2.defers]
    refine TA (Nat.le_refl _) ds' s2.ok dk'.2 ev2 λw' k' ev vv=> ?_
    have s'env:fK w'.heap F' h' M' e.get a':=λk x hx=>vv _ _ (s2.env k x hx)
    rw[hres]at hrs
    obtain⟨vs,hrun,l1,x1⟩:=acU (P:=P) k' s'env hrs
    refine⟨_,hrun,EW vs,?_⟩
    obtain⟨k1,fz⟩:=ve ((rs.map (kZ h'.get 4)).flatten) k'
    have ev1:=fz.jS (is:=(rs.map (kZ h'.get 4)).flatten) k'
    obtain⟨bs,ht,hb⟩:=Eb k1 (amR k1 4) rs [] ys us' vs l1 (λi x u a b=>ev1.vr k' (x1 i x u a b)) hys
    have evA:bn All w F [] (λ_=>none) w' F' h' M':=ev.abf λid x hx=>by cases hx
    have ev2:=evA.trans k' ev1
    refine⟨_,bs,rfl,⟨ev2.os,ev2.tape,ev2.output,ev2.size,λb hb _=>ev2.keep b hb λid x hx=>(by cases hx)⟩,ev2.fsub,k1.fb,λb hb hlt=>(ev2.fold b hb hlt).elim id λ⟨id,x,hx,_⟩=>(by cases hx),?_,hb.nodup,λb hbb=> ?_⟩
    · rw[← hr]
      exact(adP ht).one
    · obtain⟨id,blk,_,_,hg,hrw,hM⟩:=hb.own b hbb
      refine⟨?_,k1.lt hg hM,k1.BP hg hrw hM⟩
      rcases ev2.orig id blk hg hrw with⟨_,hx,_⟩|hh
      · cases hx
      · exact hh b hM
  cases x with
  | normal=>
    simp only[aA,Prod.exists,aH]at hq
    obtain⟨rs,hrs,ys,us',hys,hr⟩:=hq
    exact fin hrs hys hr
  |exit j=>cases hq
  | ret=>
    simp only[aA,Prod.exists,aH]at hq
    obtain⟨rs,hrs,ys,us',hys,hr⟩:=hq
    exact fin hrs hys hr
theorem ahW(hm:P.follows .mixedOrders=true){C:bG}{cp:aC}{ci:bz}(hcp:aK P cp)(hci:eH P ci){n:Nat}{D:List (Nat×List Nat)}{f:FuncId}{i:aU}(hi:aN P f D=some i)
    {lvl:Nat} {args:List AV} {h:Heap} {r:AV} {h2:Heap} (hq:G5 P C cp ci n D i lvl args h=some (r,h2)):Oc P f args h r h2:=by
  obtain⟨fn,hf,hname,hbody,hcode,hres⟩:=Z4 hi
  refine .inl ⟨⟨fn,hf,hname,by rw[hbody];rfl⟩,λw F M us hk hl hx=> ?_⟩
  refine Xy (n:=0) (callsIn_of_wp_marks hf hbody trivial ?_)
  obtain⟨N,hN,st⟩:=aaC hk hl hx fn.ntmps
  unfold G5 at hq
  simp only[aA,Prod.exists]at hq
  obtain⟨x,e,h',hex,hq⟩:=hq
  refine sJ (N:=⟨N,none,[]⟩) hm hcp hci n none i.code (keys h) (.inl rfl) (sH (N:=⟨fn.ntmps,none,[]⟩) (N':=⟨N,none,[]⟩) hN rfl _ hcode) (B:=w.heap.size) (ds:=[]) st ⟨Nat.le_refl _,trivial⟩ hex λds' a' w2 F' M' _ s2 dk' ev2=> ?_
  have fin: ∀ {rs:List AV},aZ (mf P e h') i.results=some rs→one rs=r→sweep (keys h) [(0,one rs)] h'=h2→
      LeavesInM (Fw none) 0 P fn a'.tmps (λe w'=> ∃ u F' M',e= .returned u/\aQ w'.heap F' h2 M'/\bn All w F h M w' F' h2 M'/\VR w'.heap F' h2 M' r u) a'.defers .returning w2:=by
    intro rs hrs hr hh2
    rw[s2.defers]
    refine TA (Nat.le_refl _) ds' s2.ok dk'.2 ev2 λw' k' ev vv=> ?_
    have s'env:fK w'.heap F' h' M' e.get a':=λk x hx=>vv _ _ (s2.env k x hx)
    rw[hres]at hrs
    obtain⟨vs,hrun,l1,x1⟩:=acU (P:=P) k' s'env hrs
    refine⟨_,hrun,EW vs,F',M',rfl,?_⟩
    obtain⟨k1,ev1,hvr⟩:=Fv k' (keys h) [(0,one rs)]
    rw[hh2]at k1 ev1 hvr
    refine⟨k1,(ev.trans k' ev1).abf (λid x hx=>TK h id x hx),?_⟩
    rw[← hr]
    refine hvr _ _ (λid hid=>by simp[ni,hid]) ?_
    match rs,vs,l1,x1 with
    |[],[],_,_=>exact .tuple rfl λi x u a=>by simp at a
    |[y],[v],_,x1=>exact x1 0 y v rfl rfl
    |y::y2::ys,v::v2::vs,l1,x1=>exact .tuple l1 x1
  cases x with
  | normal=>
    simp only[aA,aH,Prod.mk.injEq]at hq
    obtain⟨rs,hrs,hr,hh⟩:=hq
    exact fin hrs hr hh
  |exit j=>cases hq
  | ret=>
    simp only[aA,aH,Prod.mk.injEq]at hq
    obtain⟨rs,hrs,hr,hh⟩:=hq
    exact fin hrs hr hh
end
end Go.Av
