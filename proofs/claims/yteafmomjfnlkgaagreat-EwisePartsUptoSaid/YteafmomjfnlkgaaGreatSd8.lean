/- An operation that turns no row does in the model what it does in the interpreter. Conditions: none. -/
import Derived.Test.YteafmomjfnlkgaaGreatSd7
set_option linter.unusedVariables false
namespace Go.Av
section
variable {P:Program} {w:World} {F:Nat->Prop} {h:Heap} {M:Id->Option Nat}
def zt(P:Program)(w:World)(F:Nat→Prop)(h:Heap)(M:Id→Option Nat)(s:Sem Next)(t:AV):Prop:=
  ∃ u w' bs,s.run P w= .ok (.value u) w'/\w.grownBy w' none/\TR w'.heap (VC w'.heap F) (VR w'.heap F h M) t u bs/\bs.Nodup/\ ∀ b ∈ bs,w.heap.size<=b/\b<w'.heap.size
theorem ve.next{s:Sem Value}{t:AV}(hy:ve P w F h M s t):zt P w F h M (do pure (.value (← s))) t:=by
  obtain⟨u,w',bs,h1,h2⟩:=hy
  exact⟨u,w',bs,by simp[h1],h2⟩
theorem zt.same{s:Sem Value}{t:AV}{u:Value}(hr:s.run P w= .ok u w)(hv:VR w.heap F h M t u):zt P w F h M (do pure (.value (← s))) t:=(ve.same hr hv).next
theorem zt.val{t:AV}{u:Value}(hv:VR w.heap F h M t u):zt P w F h M (pure (.value u)) t:=
  ⟨u,w,[],rfl,GI w,.base hv,List.nodup_nil,λ_ h=>by cases h⟩
theorem aiJ{e:Nat→Option AV}{a:Act}(he:dW w.heap F h M e a): ∀ {ps:List (Nat×Operand)} {qs:List (Nat×AV)},aV (fun p:Nat×Operand=>(az e p.2).bind fun y=>some (p.1,y)) ps=some qs→
    NF (VR w.heap F h M) qs (ps.map λ(i,x)=>(i,a.eval x)):=by
  intro ps qs ho
  obtain⟨h1,h2⟩:=QH ho
  refine⟨by simp[h1],λi p q hp hq=> ?_⟩
  obtain⟨x,hx1,hx2⟩:=h2 i p hp
  rw[List.getElem?_map,hx1]at hq
  simp only[Option.map_some,Option.some.injEq]at hq
  subst hq
  simp only[Option.bind_eq_some_iff,Option.some.injEq]at hx2
  obtain⟨y,hy,rfl⟩:=hx2
  exact⟨rfl,eH he hy⟩
theorem aid{e:Nat→Option AV}{a:Act}(he:dW w.heap F h M e a){x:Option Operand}{y:Option AV}(ho:oQ (az e) x=some y):
    DU (VR w.heap F h M) y (x.map a.eval):=by
  cases x with
  |none=>simp only[oQ,Option.some.injEq]at ho;subst ho;trivial
  | some x=>
    simp only[oQ,Option.bind_eq_some_iff,Option.some.injEq]at ho
    obtain⟨z,hz,rfl⟩:=ho
    exact eH he hz
theorem aHb{H:Array Obj}{x:AV}{u:Value}{n:Nat}(hv:VR H F h M x u)(e:zq x=some n): ∃ a c,u= .slice a n c:=by
  unfold zq at e
  split at e
  · injection e with e;subst e;cases hv.pg <;> exact⟨_,_,rfl⟩
  · injection e with e;subst e;obtain⟨a,c,_,_,_,_,_,rfl,_⟩:=hv.mQ;exact⟨_,_,rfl⟩
  · injection e with e;subst e;obtain rfl:=hv.dI;exact⟨_,_,rfl⟩
  · cases e
theorem aCs{b:Builtin}{ts:Array TypeId}{xs:List AV}{us:List Value}{y:AV}(hl:xs.length=us.length)
    (hx: ∀ (i:Nat) x u,xs[i]? =some x->us[i]? =some u->VR w.heap F h M x u) (e:jJ P b ts xs=some y): ∃ v,(∀ ty cs,(Go.builtin b ts ty cs ⟨us⟩).run P w= .ok (.value v) w)/\VR w.heap F h M y v:=by
  unfold jJ at e
  split at e
  · rename_i x
    match us,hl with
    | [u],_=>
      have hv:=hx 0 x u rfl rfl
      simp only[Option.bind_eq_some_iff]at e
      obtain⟨t,ht,tv,htv,e⟩:=e
      split at e
      · obtain⟨hu,_⟩:=mi htv
        simp only[Option.bind_eq_some_iff,Option.some.injEq]at e
        obtain⟨n,hn,rfl⟩:=e
        obtain⟨a,c,rfl⟩:=aHb hv hn
        exact⟨_,λty cs=>by simp[Go.builtin,Builtin.len_,ht,run_underlying hu,goInt],.c .v⟩
      · have hu:=Jh htv
        split at e
        · obtain rfl:=hv.dI
          injection e with e;subst e
          exact⟨_,λty cs=>by simp[Go.builtin,Builtin.len_,ht,run_underlying hu,goInt],.c .v⟩
        · cases e
      · rename_i n et sz
        obtain⟨hu,_⟩:=yh htv
        injection e with e;subst e
        exact⟨_,λty cs=>by simp[Go.builtin,Builtin.len_,ht,run_underlying hu,goInt],.c .v⟩
      · cases e
  · match us,hl with
    | [u],_=>
      obtain rfl:=(hx 0 _ u rfl rfl).dI
      simp only[Option.bind_eq_some_iff]at e
      obtain⟨t,ht,tv,htv,e⟩:=e
      split at e
      · obtain⟨hu,_⟩:=mi htv
        injection e with e;subst e
        exact⟨_,λty cs=>by simp[Go.builtin,Builtin.cap_,ht,run_underlying hu,goInt],.c .v⟩
      · cases e
  · rename_i k a k' b'
    match us,hl with
    | [u,v],_=>
      obtain rfl:=(hx 0 _ u rfl rfl).dI
      obtain rfl:=(hx 1 _ v rfl rfl).dI
      split at e
      · rename_i hk
        subst hk
        injection e with e;subst e
        refine⟨_,λty cs=> ?_,.c .v⟩
        simp[Go.builtin,Builtin.min_,Builtin.min2]
      · cases e
  · rename_i k a k' b'
    match us,hl with
    | [u,v],_=>
      obtain rfl:=(hx 0 _ u rfl rfl).dI
      obtain rfl:=(hx 1 _ v rfl rfl).dI
      split at e
      · rename_i hk
        subst hk
        injection e with e;subst e
        refine⟨_,λty cs=> ?_,.c .v⟩
        simp[Go.builtin,Builtin.max_,Builtin.max2]
      · cases e
  · cases e
theorem zt.run{s:Sem Next}{t:AV}{u:Value}(hr:s.run P w= .ok (.value u) w)(hv:VR w.heap F h M t u):zt P w F h M s t:=
  ⟨u,w,[],hr,GI w,.base hv,List.nodup_nil,λ_ h=>by cases h⟩
theorem XQ(hk:aK w.heap F h M){e:Nat→Option AV}{a:Act}(he:dW w.heap F h M e a){o:Oper}{t:AV}(hq:aq P e h.get o.op=some t):zt P w F h M (execOp a.eval o) t:=by
  unfold aq at hq
  unfold execOp
  split at hq <;> rename_i hop <;> simp only[hop]
  · exact .val (eH he hq)
  · exact .val (eH he hq)
  · -- pick
    simp only[Option.bind_eq_some_iff]at hq
    obtain⟨c,hc,hq⟩:=hq
    split at hq
    · have hcv:=(eH he hc).dI
      split at hq
      · rename_i hb
        exact .run (by simp[hcv,asBool,hb]) (eH he hq)
      · rename_i hb
        exact .run (by simp[hcv,asBool,hb]) (eH he hq)
    · cases hq
  · -- alloc
    simp only[Option.bind_eq_some_iff,Option.some.injEq]at hq
    obtain⟨z,hz,rfl⟩:=hq
    exact(apO hk hz).next
  · -- box
    simp only[Option.bind_eq_some_iff]at hq
    obtain⟨y,hy,hq⟩:=hq
    split at hq
    · injection hq with hq;subst hq
      exact(aC4 hk (eH he hy) (by assumption)).next
    · cases hq
  · -- build
    simp only[Option.bind_eq_some_iff]at hq
    obtain⟨ps,hps,hq⟩:=hq
    obtain⟨u,h1,h2⟩:=aGq (aiJ he (by simpa only[Option.bind_eq_some_iff]using hps)) hq
    exact .same (by simpa using h1) h2
  · -- buildSlice
    simp only[Option.bind_eq_some_iff]at hq
    obtain⟨ps,hps,hq⟩:=hq
    have h1:=ax5 hk (aiJ he (by simpa only[Option.bind_eq_some_iff]using hps)) hq
    simpa using h1.next
  · -- load
    simp only[Option.bind_eq_some_iff]at hq
    obtain⟨p,hp,hq⟩:=hq
    obtain⟨v,h1,h2⟩:=auE (P:=P) hk (eH he hp) hq
    exact .same h1 h2
  · -- nilCheck
    simp only[Option.bind_eq_some_iff]at hq
    obtain⟨y,hy,hq⟩:=hq
    have hv:=eH he hy
    split at hq
    · split at hq
      · rename_i hl
        obtain⟨b,hg,hb⟩:=Rh hl
        injection hq with hq;subst hq
        obtain⟨x,hu,_⟩:=aat hk hv hg hb 0
        refine .run ?_ hv
        simp only[hu]
        rfl
      · cases hq
    · injection hq with hq;subst hq
      obtain⟨x,hu,_⟩:=hv.mJ.aaX 0
      refine .run ?_ hv
      simp only[hu]
      rfl
    · injection hq with hq;subst hq
      obtain⟨us,vs,hu,_⟩:=hv.qy
      refine .run ?_ hv
      simp only[hu]
      rfl
    · cases hq
  · -- binOp
    simp only[Option.bind_eq_some_iff]at hq
    obtain⟨x,hx,y,hy,hq⟩:=hq
    obtain⟨z,h1,rfl⟩:=aDt (P:=P) (eH he hx) (eH he hy) hq
    exact .same h1 (.c .v)
  · -- unOp
    simp only[Option.bind_eq_some_iff]at hq
    obtain⟨x,hx,hq⟩:=hq
    obtain⟨z,h1,rfl⟩:=aJd (P:=P) (eH he hx) hq
    exact .same h1 (.c .v)
  · -- convert
    simp only[Option.bind_eq_some_iff]at hq
    obtain⟨x,hx,tv1,ht1,OE,ht2,n,hn,hq⟩:=hq
    obtain⟨k,hu⟩:=Iy (eH he hx) hn
    split at hq
    · injection hq with hq;subst hq
      obtain⟨d1,hd1⟩:=xK ht1
      have hd2:=G7 ht2
      refine .same (u:= .int _ _) ?_ (.c .v)
      rw[hu]
      simp[convert,run_underlying hd1,run_underlying hd2,Conv.intToInt]
    · cases hq
  · -- makeFunc
    simp only[Option.bind_eq_some_iff,Option.some.injEq]at hq
    obtain⟨xs,hx,ys,hy,rfl⟩:=hq
    obtain⟨l1,x1⟩:=Bj he hx
    obtain⟨l2,x2⟩:=Bj he hy
    refine .same (u:= .func (.func _) ⟨_⟩ ⟨_⟩) ?_ (.fn l1 x1 l2 x2)
    simp[Instr.makeFunc]
  · -- makeSlice
    simp only[Option.bind_eq_some_iff]at hq
    obtain⟨x,hx,y,hy,n,hn,c,hc,tv,htv,hq⟩:=hq
    obtain⟨k,hu⟩:=Iy (eH he hx) hn
    obtain⟨k',hu'⟩:=Iy (eH he hy) hc
    split at hq
    · simp only[Option.bind_eq_some_iff]at hq
      obtain⟨z,hz,hq⟩:=hq
      split at hq
      · rename_i hcond
        injection hq with hq;subst hq
        obtain⟨c1,c2,c3,c4,c5⟩:=hcond
        rw[hu,hu']
        exact(aEU hk htv hz c1 c2 c3 c4 c5).next
      · cases hq
    · cases hq
  · -- slice
    simp only[Option.bind_eq_some_iff]at hq
    obtain⟨x,hx,l,hl,r,hr,hq⟩:=hq
    obtain⟨v,h1,h2⟩:=aoD (P:=P) hk (eH he hx) (aid he hl) (aid he hr) hq
    exact .same h1 h2
  · -- fieldAddr
    simp only[Option.bind_eq_some_iff]at hq
    obtain⟨x,hx,hq⟩:=hq
    obtain⟨v,h1,h2⟩:=ayr (P:=P) hk (eH he hx) hq
    exact .same h1 h2
  · -- field
    simp only[Option.bind_eq_some_iff,Prod.exists]at hq
    obtain⟨x,hx,o',ft,hf,hq⟩:=hq
    split at hq
    · obtain⟨us,hu,hl,hxs⟩:=(eH he hx).mX
      obtain⟨fs,f,hd,hfs,rfl,rfl⟩:=Ws hf
      obtain⟨v,h1,h2⟩:=Dc (P:=P) (w:=w) hl hxs hq
      refine .same (u:=v) ?_ h2.vr
      rw[hu]
      simpa[Instr.field,run_underlying hd,hfs,asAgg]using h1
    · cases hq
  · -- indexAddr
    simp only[Option.bind_eq_some_iff]at hq
    obtain⟨x,hx,y,hy,n,hn,hq⟩:=hq
    obtain⟨k,hu⟩:=Iy (eH he hy) hn
    obtain⟨v,h1,h2⟩:=an2 (P:=P) (k:=k) hk (eH he hx) hq
    refine .same (u:=v) ?_ h2
    rw[hu];exact h1
  · -- index
    simp only[Option.bind_eq_some_iff]at hq
    obtain⟨x,hx,y,hy,n,hn,hq⟩:=hq
    obtain⟨k,hu⟩:=Iy (eH he hy) hn
    obtain⟨v,h1,h2⟩:=aHk (P:=P) (k:=k) (eH he hx) hq
    refine .same (u:=v) ?_ h2
    rw[hu];exact h1
  · -- extract
    simp only[Option.bind_eq_some_iff]at hq
    obtain⟨x,hx,hq⟩:=hq
    split at hq
    · obtain⟨us,hu,hl,hxs⟩:=(eH he hx).yB
      obtain⟨v,q1,q2⟩:=nM hl hxs hq
      refine .same (u:=v) ?_ q2
      rw[hu]
      simp[Instr.extract,q1]
    · cases hq
  · -- builtin
    simp only[Option.bind_eq_some_iff]at hq
    obtain⟨xs,hx,hq⟩:=hq
    obtain⟨l1,x1⟩:=Bj he hx
    obtain⟨v,h1,h2⟩:=aCs (P:=P) l1 x1 hq
    refine .run (u:=v) ?_ h2
    simp only[resolve,Sem.run_bind,Sem.run_pure,Result.andThen_ok,invoke,List.map_toArray]
    exact h1 _ _
  · cases hq
end
end Go.Av
