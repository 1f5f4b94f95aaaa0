/- An operation, whatever it is; operations in their order. Conditions: none. -/
import Derived.Test.YtiagecndhhinfaaGreatSf1
set_option linter.unusedVariables false
namespace Go.Av
section
variable {P:Program} {w:World} {F:Nat->Prop} {h:Heap} {M:Id->Option Nat}
theorem aeA(hk:aQ w.heap F h M){w':World}(hg:w.grownBy w' none){F':Nat→Prop}(h1: ∀ b,F b→F' b)(h2: ∀ b,F' b→b<w'.heap.size)(h3: ∀ b,F' b→b<w.heap.size→F b):
    aQ w'.heap F' h M/\bn All w F h M w' F' h M:=by
  have hb: ∀ b,b<w.heap.size->w'.heap[b]? =w.heap[b]? :=λb hb=>hg.block b hb (by simp)
  have hd: ∀ id x,h.get id=some x-> ∃ y,h.get id=some y/\Held w.heap w'.heap M M id x y:=λid x hx=>⟨x,hx,Held.refl rfl λb hm=>xH (hb b (hk.lt hx hm))⟩
  refine⟨⟨λid x hx=>(hk.row id x hx).keep h1 (λb hF=>hb b (hk.fb b hF)) hd rfl λb hm=>⟨hb b (hk.lt hx hm),λ_ hF=>h3 b hF (hk.lt hx hm)⟩,hk.inj,h2⟩,?_⟩
  exact⟨hg.os,hg.tape,hg.output,hg.size,λb hlt _=>hb b hlt,h1,λb hF hlt=> .inl (h3 b hF hlt),λid y hy hr=> .inl ⟨y,hy,hr,rfl⟩,λid x hx _=>hd id x hx⟩
theorem MS(hk:aQ w.heap F h M){w':World}(hg:w.grownBy w' none){F':Nat→Prop}(h1: ∀ b,F b→F' b)(h2: ∀ b,F' b→b<w'.heap.size)(h3: ∀ b,F' b→b<w.heap.size→F b)
    {r y:AV} {u:Value} {bs:List Nat} (ht:TR w'.heap (VC w'.heap F') (VC w'.heap F') r u bs) (hnd:bs.Nodup) (hbs: ∀ b ∈ bs,w.heap.size<=b/\b<w'.heap.size/\ ¬ F' b) {lvl slot d k k':Nat} {h':Heap}
    (e:bC lvl slot d r (k,h)=some (y,k',h')): ∃ M',aQ w'.heap F' h' M'/\bn All w F h M w' F' h' M'/\VR w'.heap F' h' M' y u:=by
  obtain⟨k1,ev1⟩:=aeA hk hg h1 h2 h3
  obtain⟨M',im,hv⟩:=aax lvl slot d r u bs k h M y k' h' (ht.mono (fun _ _ h=>h) fun _ _ h=> .c h) k1 hnd (fun b hb=>(hbs b hb).2.2)
    (λb hb id x hx hm=>by have:=hk.lt hx hm;have:=(hbs b hb).1;omega) e
  exact⟨M',im.ok,im.jS hg.size (λb hb=>(hbs b hb).1) ev1 k1,hv⟩
def aK(P:Program)(cp:aC):Prop:= ∀ f args r,cp f args=some r->bH P f args r
def eH(P:Program)(ci:bz):Prop:= ∀ lvl f args h r h',ci lvl f args h=some (r,h')->Oc P f args h r h'∨(lvl=0/\ ∃ ys,r= .newbx ys/\Vg P f args ys)
theorem eH.inl{P:Program}{ci:bz}(hci:eH P ci){lvl f args h r h'}(e:ci (lvl+1) f args h=some (r,h')):Oc P f args h r h':=(hci _ _ _ _ _ _ e).resolve_right λh=>by cases h.1
theorem O3{cp:aC}(hcp:aK P cp)(hk:aQ w.heap F h M){k:FuncId}{as:List AV}{us:List Value}(hl:as.length=us.length)(hx: ∀ (i:Nat) x u,as[i]? =some x→us[i]? =some u→VR w.heap F h M x u)
    {r:AV} {fl:List Id} (e:mr cp h.get k as=some (r,fl)):
    (∃ fn,P.funcs[k]? =some fn/\(fn.name== "runtime.NumGoroutine")=false/\fn.body.isNone=false)/\
    Calls P k us.toArray w fun e w'=> ∃ u F' bs,e= .returned u∧w.grownBy w' none∧(∀ b,(F b∨Of h M fl b)→F' b)∧(∀ b,F' b→b<w'.heap.size)∧(∀ b,F' b→b<w.heap.size→F b∨Of h M fl b)∧
      TR w'.heap (VC w'.heap F') (VC w'.heap F') r u bs/\bs.Nodup/\ ∀ b ∈ bs,w.heap.size<=b/\b<w'.heap.size/\ ¬ F' b:=by
  unfold mr at e
  simp only[aA]at e
  obtain⟨bs,hbs,r',hr,e⟩:=e
  simp only[aH,Prod.mk.injEq]at e
  obtain⟨rfl,rfl⟩:=e
  obtain⟨hfn,hp⟩:=hcp k bs r' hr
  refine⟨hfn,?_⟩
  obtain⟨l1,x1⟩:=MF hbs
  have hlt: ∀ b,(F b∨Of h M ((as.map (aW h.get 4)).flatten) b)->b<w.heap.size:=λb hb=>hb.elim (hk.fb b) λ⟨id,x,_,hg,hm⟩=>hk.lt hg hm
  refine(hp w (λb=>F b∨Of h M ((as.map (aW h.get 4)).flatten) b) us hlt ae λi x u hxi hui=> ?_).mono ?_
  · obtain⟨y,hy1,hy2⟩:=x1 i x hxi
    exact(yU hk 4 y u x (hx i y u hy1 hui) hy2).grow λb hb=>hb.imp_right λ⟨j,q,hj,hm⟩=>⟨j,q,zq (List.mem_of_getElem? hy1) hj,hm⟩
  · rintro e w' ⟨u,F',bs',he,hg,f1,f2,f3,ht,hnd,hb⟩
    by_cases hbr:((as.map (aW h.get 4)).flatten).isEmpty=true
    · have hnil:(as.map (aW h.get 4)).flatten=[]:=by simpa using hbr
      rw[if_pos hbr]
      rw[hnil]at f1 f3
      exact⟨u,F',bs',he,hg,f1,f2,f3,ht,hnd,hb⟩
    · rw [if_neg hbr]
      by_cases hal:alias 4 r'=true
      · rw[if_pos hal]
        exact⟨u,F',bs',he,hg,f1,f2,f3,ht,hnd,hb⟩
      · rw[if_neg hal]
        have hno: ∀ b,¬ Of h M [] b:=λb ⟨_,_,h,_⟩=>by cases h
        refine⟨u,F,bs',he,hg,fun b hb=>hb.elim (fun h=>h) fun h=>(hno b h).elim,fun b hF=>Nat.lt_of_lt_of_le (hk.fb b hF) hg.size,fun b hF _=> .inl hF,
          ht.uw 4 (by simpa using hal),hnd,λb hb'=>⟨(hb b hb').1,(hb b hb').2.1,λhF=>by have:=hk.fb b hF;have:=(hb b hb').1;omega⟩⟩
theorem VJ{e:Nat→Option AV}{a0:Act}(he:fK w.heap F h M e a0){f:Operand}{x:AV}(hf:aB e f=some x){k:FuncId}{fs cap:List AV}(hfn:qX x=some (k,fs,cap)){args:List Operand}{as:List AV}
    (has:aZ (aB e) args=some as): ∃ us vs,a0.eval f= .func (.func k) ⟨us⟩ ⟨vs⟩∧(fs++as++cap).length=(us++args.map a0.eval++vs).length∧
      ∀ (i:Nat) x u,(fs++as++cap)[i]? =some x->(us++args.map a0.eval++vs)[i]? =some u->VR w.heap F h M x u:=by
  have hxe:x= .fn k fs cap:=by
    unfold qX at hfn
    split at hfn
    · simp only[aH,Prod.mk.injEq]at hfn
      obtain⟨h1,h2,h3⟩:=hfn
      rw[h1,h2,h3]
    · cases hfn
  subst hxe
  obtain⟨us,vs,hu,l1,x1,l2,x2⟩:=(gV he hf).qA
  obtain⟨l3,x3⟩:=zC he has
  refine⟨us,vs,hu,by simp only[List.length_append];omega,λi x u a b=> ?_⟩
  by_cases h1:i<(fs++as).length
  · rw[List.getElem?_append_left h1]at a
    rw[List.getElem?_append_left (by simp only[List.length_append]at h1 ⊢;omega)]at b
    by_cases h2:i<fs.length
    · rw[List.getElem?_append_left h2]at a
      rw[List.getElem?_append_left ae]at b
      exact x1 i x u a b
    · rw[List.getElem?_append_right ae]at a
      rw[List.getElem?_append_right ae]at b
      rw[l1]at a
      exact x3 _ x u a b
  · have hle:(fs++as).length=(us++args.map a0.eval).length:=by simp only[List.length_append];omega
    rw[List.getElem?_append_right ae]at a
    rw[List.getElem?_append_right ae]at b
    rw[hle]at a
    exact x2 _ x u a b
theorem Pe{C:bG}{cp:aC}{ci:bz}(hcp:aK P cp)(hci:eH P ci)(hk:aQ w.heap F h M){e:Env}{a:Act}(he:fK w.heap F h M e.get a){lvl:Nat}{o:Oper}{y:AV}{h':Heap}
    (hq:dw P C cp ci lvl e h o.dst o.op=some (y,h')) {next:Act->World->Prop} {Q:Exit->Act->World->Prop}
    (hn: ∀ w' F' M' u,aQ w'.heap F' h' M'->bn All w F h M w' F' h' M'->VR w'.heap F' h' M' y u->next (a.put o.dst u) w'):o.wp P a w next Q:=by
  unfold dw at hq
  split at hq
  · -- a call
    rename_i f args ts hop
    simp only[aA,Prod.exists]at hq
    obtain⟨x,hf,k,first,cap,hfn,as,has,hq⟩:=hq
    obtain⟨us,vs,hu,hl,hx⟩:=VJ he hf hfn has
    split at hq
    · rcases hci.inl hq with⟨⟨fn,n1,n2,n3⟩,hc⟩|⟨rfl,hxt⟩
      case inr=>
        obtain⟨u,hr,hv⟩:=hxt w F _ M _ hk hl hx
        have hrun:=(axX (P:=P) (w:=w) (ty:=o.type) (c:={callee:= .value f,args:=⟨args⟩,argTypes:=ts}) hu (args:=args) (ts:=ts)).trans hr
        unfold Oper.wp execOp
        simp only[hop,hrun,Oper.upon_value]
        exact hn w F M u hk .refl hv
      have hrun:=MW (P:=P) (w:=w) (ty:=o.type) (c:={callee:= .value f,args:=⟨args⟩,argTypes:=ts}) hu n1 n2 n3 (args:=args) (ts:=ts)
      unfold Oper.wp execOp
      simp only[hop,hrun,Oper.upon_enter]
      refine(hc w F M _ hk hl hx).mono ?_
      rintro e w' ⟨u,F',M',rfl,q1,q2,q3⟩
      exact hn w' F' M' u q1 q2 q3
    · simp only[aA,Prod.exists,aH,Prod.mk.injEq]at hq
      obtain⟨r,fl,hr,z,k',h2,himp,rfl,rfl⟩:=hq
      obtain⟨⟨fn,n1,n2,n3⟩,hc⟩:=O3 hcp hk hl hx hr
      have hrun:=MW (P:=P) (w:=w) (ty:=o.type) (c:={callee:= .value f,args:=⟨args⟩,argTypes:=ts}) hu n1 n2 n3 (args:=args) (ts:=ts)
      unfold Oper.wp execOp
      simp only[hop,hrun,Oper.upon_enter]
      refine hc.mono ?_
      rintro e w' ⟨u,F',bs,rfl,hg,f1,f2,f3,ht,hnd,hb⟩
      obtain⟨k1,fz⟩:=ve fl hk
      have ev1:=fz.jS (is:=fl) hk
      obtain⟨M',q1,q2,q3⟩:=MS k1 hg f1 f2 f3 ht hnd hb himp
      exact hn w' F' M' u q1 (ev1.trans k1 q2) q3
  · rename_i hnc
    split at hq
    · rename_i t ht
      simp only[aA,Prod.exists,aH,Prod.mk.injEq]at hq
      obtain⟨z,k',h2,himp,rfl,rfl⟩:=hq
      obtain⟨u,w',bs,hr,hg,htr,hnd,hb⟩:=Pj hk he ht
      obtain⟨M',q1,q2,q3⟩:=C9 hk hg htr hnd hb himp
      unfold Oper.wp
      rw[hr,Oper.upon_value]
      exact hn w' F M' u q1 q2 q3
    · obtain⟨n,w',F',M',hr,q1,q2,q3⟩:=Vr hk he (lvl:=lvl) (dst:=o.dst.getD 0) hq
      unfold Oper.wp
      rw[hr]
      rcases q3 with⟨rfl,rfl⟩|⟨u,rfl,q3⟩
      · rw[Oper.upon_skip]
        exact hn w' F' M' undef q1 q2 (.c .v)
      · rw[Oper.upon_value]
        exact hn w' F' M' u q1 q2 q3
end
end Go.Av
