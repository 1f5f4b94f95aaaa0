/- What a result is to the caller. Conditions: none. -/
import Derived.Test.YteafmomjfnlkgaaGreatLL
set_option linter.unusedVariables false
namespace Go.Av
structure zL (H:Array Obj) (F:Nat→Prop) (h:Heap) (M:Id→Option Nat) (us us':List Id) (bs:List Nat):Prop where
  nodup:bs.Nodup
  own: ∀ b ∈ bs,∃ id blk,id ∈ us'/\id ∉ us/\h.get id=some blk/\blk.rw=true/\M id=some b
  sub: ∀ i ∈ us,i ∈ us'
def aiz(H:Array Obj)(F:Nat→Prop)(h:Heap)(M:Id→Option Nat)(f:AV→List Id→Option (AV×List Id)):Prop:=
  ∀ x us y us' u,VR H F h M x u->f x us=some (y,us')-> ∃ bs,TR H (VC H F) (VC H F) y u bs/\zL H F h M us us' bs
theorem zL.nil{H:Array Obj}{F:Nat->Prop}{h:Heap}{M:Id->Option Nat}{us:List Id}:zL H F h M us us []:=⟨List.nodup_nil,(λ_ h=>by cases h),λ_ h=>h⟩
theorem Gl{H:Array Obj}{F:Nat→Prop}{h:Heap}{M:Id→Option Nat}(hk:aK H F h M){f:AV→List Id→Option (AV×List Id)}(hf:aiz H F h M f):
    ∀ xs us ys us' vs,xs.length=vs.length→(∀ (i:Nat) x u,xs[i]? =some x→vs[i]? =some u→VR H F h M x u)→dP f xs us=some (ys,us')→
      ∃ bs,dD H (VC H F) (VC H F) ys vs bs/\zL H F h M us us' bs
  | [],us,ys,us',vs,hl,hx,e=>by
    simp only[dP,Option.some.injEq,Prod.mk.injEq]at e
    obtain⟨rfl,rfl⟩:=e
    obtain rfl:vs=[]:=List.eq_nil_of_length_eq_zero (by simpa using hl.symm)
    exact⟨[],.nil,.nil⟩
  | x ::xs,us,ys,us',vs,hl,hx,e=>by
    cases vs with
    |nil=>simp at hl
    | cons v vs=>
      simp only[dP,Option.bind_eq_some_iff,Prod.exists]at e
      obtain⟨y,u1,e1,ys',u2,e2,e3⟩:=e
      simp only[Option.some.injEq,Prod.mk.injEq]at e3
      obtain⟨rfl,rfl⟩:=e3
      obtain⟨b1,t1,k1⟩:=hf x us y u1 v (hx 0 x v rfl rfl) e1
      obtain⟨b2,t2,k2⟩:=Gl hk hf xs u1 ys' u2 vs (by simpa using hl) (λi x u a b=>hx (i+1) x u (by simpa using a) (by simpa using b)) e2
      refine⟨b1++b2,.cons t1 t2,List.nodup_append.2 ⟨k1.nodup,k2.nodup,λa ha b hb hab=> ?_⟩,λb hb=> ?_,λi hi=>k2.sub i (k1.sub i hi)⟩
      · subst hab
        obtain⟨i,x1,q1,_,q2,_,q3⟩:=k1.own a ha
        obtain⟨j,x2,_,p2,p3,_,p4⟩:=k2.own a hb
        obtain rfl:=hk.inj _ _ _ _ _ q2 p3 q3 p4
        exact p2 q1
      · rcases List.mem_append.1 hb with hb|hb
        · obtain⟨i,x,q1,q2,q3⟩:=k1.own b hb
          exact⟨i,x,k2.sub i q1,q2,q3⟩
        · obtain⟨i,x,q1,q2,q3⟩:=k2.own b hb
          exact⟨i,x,q1,λh=>q2 (k1.sub i h),q3⟩
theorem akM{us:List Id}{id:Id}(h:us.contains id=false):id ∉ us:=fun hm=>by
  rw[List.contains_iff_mem.2 hm]at h;cases h
theorem ahP{H:Array Obj}{F:Nat→Prop}{h:Heap}{M:Id→Option Nat}(hk:aK H F h M){id:Id}{off n ext:Nat}{u:Value}{sz e:Nat}{cells:List AV}{us:List Id}
    (hv:VR H F h M (.own id off n ext) u) (hg:h.get id=some (.sl true true sz e cells)) (hc:e=ext/\off=0/\n<=e/\us.contains id=false):
    ∃ bs,TR H (VC H F) (VC H F) (.fresh sz n (cut cells off n sz e)) u bs/\zL H F h M us (id::us) bs:=by
  obtain⟨rfl,rfl,hne,hus⟩:=hc
  obtain⟨a,c,cl,rw',sz',e',cells',rfl,hg',hn,hle,ho⟩:=hv.mQ
  rw[hg]at hg'
  injection hg' with hg'
  injection hg' with _ _ h1 h2 h3
  subst h1;subst h2;subst h3
  obtain⟨hl,hr⟩:=hk.row _ _ hg
  rcases(ho rfl).2 with⟨rfl,rfl⟩|⟨b,S,h1,rfl,h3,h4⟩
  · rw[LZ hl]
    exact⟨[],.nil,List.nodup_nil,(λ_ h=>by cases h),λ_ h=>List.mem_cons_of_mem _ h⟩
  · rcases hr with⟨_,h0⟩|⟨b',cur,t,h6,h7,_,_,h8⟩
    · rw[h1]at h0;cases h0
    · rw [h1]at h6;injection h6 with h6;subst h6
      refine⟨[b],.fresh h7 hn ?_ ?_ λi x hx=> ?_,by simp,λc hc=> ?_,λ_ h=>List.mem_cons_of_mem _ h⟩
      · simp only[kM,h7,Option.some.injEq]at h3;omega
      · unfold cut
        split
        · rename_i hh;obtain⟨_,rfl⟩:=hh;exact hl
        · simp only[List.drop_zero,List.length_take]
          have:=Nat.mul_le_mul_right sz hne
          omega
      · have:cells[i]? =some x:=by
          unfold cut at hx
          split at hx
          · exact hx
          · rw[List.drop_zero,List.getElem?_take]at hx
            split at hx
            · exact hx
            · cases hx
        obtain⟨u,a1,a2,_⟩:=h8 i x this
        exact⟨u,a1,a2 rfl⟩
      · obtain rfl:c=b:=by simpa using hc
        exact⟨id,_,by simp,akM hus,hg,rfl,h1⟩
theorem agz{H:Array Obj}{F:Nat→Prop}{h:Heap}{M:Id→Option Nat}(hk:aK H F h M){id:Id}{off n ext:Nat}{u:Value}{sz e:Nat}{cells:List AV}
    (hv:VR H F h M (.own id off n ext) u) (hg:h.get id=some (.sl true false sz e cells)) (he:e=ext):VC H F (.arr n (cut cells off n sz e)) u:=by
  refine Yb hk hv hg he (λ_ h=>h) λb hb=> ?_
  rcases(hk.row _ _ hg).2 with⟨_,h0⟩|⟨b',_,_,h1,_,_,h2,_⟩
  · rw[hb]at h0;cases h0
  · rw[hb]at h1;injection h1 with h1;subst h1;exact h2 rfl
theorem aju{H:Array Obj}{F:Nat→Prop}{h:Heap}{M:Id→Option Nat}(hk:aK H F h M){is:List Id}(hf:is.all (Bd h.get)=true): ∀ b,Of h M is b→F b:=by
  rintro b ⟨id,blk,hi,hg,hm⟩
  have h1:=List.all_eq_true.1 hf id hi
  simp only[Bd,hg]at h1
  have hr:=hk.row _ _ hg
  cases blk with
  | sl cl rw sz e cells=>
    simp[ax.rw]at h1
    subst h1
    rcases hr.2 with⟨_,h0⟩|⟨b',_,_,h1,_,_,h2,_⟩
    · rw[hm]at h0;cases h0
    · rw[hm]at h1;injection h1 with h1;subst h1;exact h2 rfl
  | bx rw cells=>
    simp[ax.rw]at h1
    subst h1
    obtain⟨b',_,_,h1,_,_,_,h2,_⟩:=hr
    rw[hm]at h1;injection h1 with h1;subst h1;exact h2 rfl
theorem aL3{H:Array Obj}{F:Nat→Prop}{h:Heap}{M:Id→Option Nat}(hk:aK H F h M): ∀ d,aiz H F h M (dY h.get d):=by
  have plain: ∀ {x y:AV} {us us':List Id} {u:Value},VC H F x u→some (x,us)=some (y,us')→ ∃ bs,TR H (VC H F) (VC H F) y u bs∧zL H F h M us us' bs:=fun hv e=>by
    simp only[Option.some.injEq,Prod.mk.injEq]at e
    obtain⟨rfl,rfl⟩:=e
    exact⟨[],.base hv,.nil⟩
  intro d
  induction d with
  | zero=>
    intro x us y us' u hv e
    cases x with
    |v x=>obtain rfl:=hv.dI;exact plain .v (by simpa only[dY]using e)
    |arr n xs=>exact plain hv.pg (by simpa only[dY]using e)
    |aF xs off=>exact plain hv.mJ (by simpa only[dY]using e)
    | fn f a b=>
      cases a with
      |cons=>cases b <;> simp[dY]at e
      | nil=>cases b with
        |cons=>simp[dY]at e
        | nil=>
          obtain⟨us1,vs1,rfl,l1,x1,l2,x2⟩:=hv.qy
          exact plain (.fn l1 (λi x u h=>by simp at h) l2 (λi x u h=>by simp at h)) (by simpa only[dY]using e)
    | own id off n ext=>
      simp only[dY,Option.bind_eq_some_iff]at e
      obtain⟨blk,hg,e⟩:=e
      split at e
      · split at e
        · rename_i hc
          simp only[Option.some.injEq,Prod.mk.injEq]at e
          obtain⟨rfl,rfl⟩:=e
          exact ahP hk hv hg hc
        · cases e
      · split at e
        · rename_i hc
          exact plain (agz hk hv hg hc) e
        · cases e
      · cases e
    |_=>simp[dY]at e
  | succ d ih =>
    intro x us y us' u hv e
    cases x with
    |v x=>obtain rfl:=hv.dI;exact plain .v (by simpa only[dY]using e)
    |arr n xs=>exact plain hv.pg (by simpa only[dY]using e)
    |aF xs off=>exact plain hv.mJ (by simpa only[dY]using e)
    | fn f a b=>
      have hcap:((if(aO h.get (d+1) (.fn f a b)).all (Bd h.get)=true then(aG h.get (d+1) (.fn f a b)).bind fun y=>some (y,us)else none)=some (y,us'))→ ∃ bs,TR H (VC H F) (VC H F) y u bs∧zL H F h M us us' bs:=by
        intro e
        split at e
        · rename_i hall
          simp only[Option.bind_eq_some_iff]at e
          obtain⟨cs,e1,e2⟩:=e
          have h1:=BM hk (d+1) (.fn f a b) u cs hv e1
          exact plain (h1.grow λb hb=>hb.elim (λh=>h) λhb=>aju hk hall b hb) e2
        · cases e
      cases a with
      |cons=>exact hcap (by simpa only[dY]using e)
      | nil=>cases b with
        |cons=>exact hcap (by simpa only[dY]using e)
        | nil=>
          obtain⟨us1,vs1,rfl,l1,x1,l2,x2⟩:=hv.qy
          exact plain (.fn l1 (λi x u h=>by simp at h) l2 (λi x u h=>by simp at h)) (by simpa only[dY]using e)
    | own id off n ext=>
      simp only[dY,Option.bind_eq_some_iff]at e
      obtain⟨blk,hg,e⟩:=e
      split at e
      · split at e
        · rename_i hc
          simp only[Option.some.injEq,Prod.mk.injEq]at e
          obtain⟨rfl,rfl⟩:=e
          exact ahP hk hv hg hc
        · cases e
      · split at e
        · rename_i hc
          exact plain (agz hk hv hg hc) e
        · cases e
      · rename_i sz ee cells
        split at e
        · rename_i hc
          obtain⟨hee,hall⟩:=hc
          simp only[Option.bind_eq_some_iff]at e
          obtain⟨cs,e1,e2⟩:=e
          have h1:=BM hk (d+1) (.own id off n ext) u (.arr n (cut cs off n sz ee)) hv (by simp[aG,hg,hee,e1])
          refine plain (h1.grow λb hb=>hb.elim (λh=>h) λhb=>aju hk (is:=aO h.get (d+1) (.own id off n ext)) ?_ b hb) e2
          simp only[aO,hg,List.all_cons,hall,Bool.and_true]
          simp[Bd,hg,ax.rw]
        · cases e
      · cases e
    | ptr id off ext=>
      simp only[dY]at e
      split at e
      · rename_i hc
        obtain⟨rfl,rfl,hus⟩:=hc
        simp only[Option.bind_eq_some_iff]at e
        obtain⟨blk,hg,e⟩:=e
        split at e
        · rename_i cells
          simp only[Option.bind_eq_some_iff,Prod.exists,Option.some.injEq,Prod.mk.injEq]at e
          obtain⟨xs,u1,e1,rfl,rfl⟩:=e
          obtain⟨blk,hg',_,ho⟩:=hv.zZ
          rw[hg]at hg';injection hg' with hg';subst hg'
          obtain⟨b,hM,rfl⟩:=ho rfl
          obtain⟨b',cur,t,h1,h2,hl,_,_,h5⟩:=hk.row _ _ hg
          rw[hM]at h1;injection h1 with h1;subst h1
          obtain⟨bs,t1,k1⟩:=Gl hk ih cells (id::us) xs u1 cur.toList (by simpa using hl) (fun i x u hx hu=>by
            obtain⟨u',a1,a2⟩:=h5 i x hx
            rw[Array.getElem?_toList,a1]at hu
            injection hu with hu;subst hu;exact a2) e1
          refine⟨b::bs,.newbx (e:=t) (by simpa using h2) t1,List.nodup_cons.2 ⟨λhb=> ?_,k1.nodup⟩,λc hc=> ?_,λi hi=>k1.sub i (List.mem_cons_of_mem _ hi)⟩
          · obtain⟨j,z,q1,q2,q3,_,q4⟩:=k1.own b hb
            obtain rfl:=hk.inj _ _ _ _ _ hg q3 hM q4
            exact q2 (by simp)
          · rcases List.mem_cons.1 hc with rfl|hc
            · exact⟨id,_,k1.sub id (by simp),akM hus,hg,rfl,hM⟩
            · obtain⟨j,z,q1,q2,q3⟩:=k1.own c hc
              exact⟨j,z,q1,λh=>q2 (List.mem_cons_of_mem _ h),q3⟩
        · cases e
      · cases e
    | agg xs=>
      simp only[dY,Option.bind_eq_some_iff,Prod.exists,Option.some.injEq,Prod.mk.injEq]at e
      obtain⟨ys,u1,e1,rfl,rfl⟩:=e
      obtain⟨us1,rfl,l1,x1⟩:=hv.mX
      obtain⟨bs,t1,k1⟩:=Gl hk ih xs us ys u1 us1 l1 x1 e1
      exact⟨bs,.agg t1,k1⟩
    | tuple xs=>
      simp only[dY,Option.bind_eq_some_iff,Prod.exists,Option.some.injEq,Prod.mk.injEq]at e
      obtain⟨ys,u1,e1,rfl,rfl⟩:=e
      obtain⟨us1,rfl,l1,x1⟩:=hv.yB
      obtain⟨bs,t1,k1⟩:=Gl hk ih xs us ys u1 us1 l1 x1 e1
      exact⟨bs,.tuple t1,k1⟩
    |fresh sz n xs=>simp[dY]at e
    |freshO sz n xs=>simp[dY]at e
    |newbx xs=>simp[dY]at e
theorem Rz{H:Array Obj}{C:AV→Value→Prop}(hC: ∀ x u,C (.v x) u→u=x): ∀ {xs:List AV} {us:List Value} {bs:List Nat} (ss:List Nat),dD H C C xs us bs→dD H C C (dM xs ss) us bs
  | [],us,bs,ss,h=>by
    have:dM [] ss=[]:=by cases ss <;> rfl
    rw[this];exact h
  | x::xs,us,bs,[],h=>by
    have:dM (x::xs) []=x::xs:=by unfold dM;split <;> simp_all
    rw[this];exact h
  | x ::xs,us,bs,s::ss,h=>by
    cases h with
    | @cons _ _ u us b1 b2 h1 h2=>
      have ih:=Rz hC ss h2
      by_cases hx:x= .v (.slice none 0 0)/\ ∃ k,s=k+1
      · obtain⟨rfl,k,rfl⟩:=hx
        have:dM (AV.v (.slice none 0 0)::xs) ((k+1)::ss)= .fresh k 0 []::dM xs ss:=by simp only[dM]
        rw[this]
        cases h1 with
        |base hr=>obtain rfl:=hC _ _ hr;exact .cons .nil ih
      · have:dM (x::xs) (s::ss)=x::dM xs ss:=by
          rw[dM]
          intro c e1 e2
          exact hx ⟨e1,c,e2⟩
        rw[this]
        exact .cons h1 ih
theorem dD.single{H:Array Obj}{C R:AV→Value→Prop}{x:AV}{u:Value}{bs:List Nat}(h:dD H C R [x] [u] bs):TR H C R x u bs:=by
  generalize hxs:[x]=xs at h
  generalize hus:[u]=us at h
  cases h with
  |nil=>cases hxs
  | cons h1 h2=>
    injection hxs with e1 e2
    injection hus with e3 e4
    subst e1;subst e2;subst e3;subst e4
    generalize hn:([]:List AV)=zs at h2
    cases h2 with
    |nil=>simpa using h1
theorem aoC{P:Program}{H:Array Obj}{F:Nat→Prop}{t:TypeId}{x:AV}{u:Value}{bs:List Nat}(h:TR H (VC H F) (VC H F) x u bs):TR H (VC H F) (VC H F) (typed P t x) u bs:=by
  have hC: ∀ x u,VC H F (.v x) u->u=x:=λx u h=>by cases h;rfl
  have single: ∀ {x:AV},TR H (VC H F) (VC H F) x u bs→TR H (VC H F) (VC H F) (match dM [x] (kU P 4 t)with|[y]=>y|_=>x) u bs:=fun {x} h=>by
    have h1:=Rz hC (kU P 4 t) (dD.cons h .nil)
    split
    · rename_i y hy
      rw[hy,List.append_nil]at h1
      exact h1.single
    · exact h
  unfold typed
  split
  · rename_i xs
    cases h with
    | base hr=>cases hr with
      |agg hl hx=>exact .agg (Rz hC _ (dD.EW hl hx))
    |agg hx=>exact .agg (Rz hC _ hx)
  · exact single h
theorem aib{P:Program}{H:Array Obj}{F:Nat→Prop}: ∀ {ts:List TypeId} {xs:List AV} {us:List Value} {bs:List Nat},dD H (VC H F) (VC H F) xs us bs→dD H (VC H F) (VC H F) (rE P ts xs) us bs
  |[],xs,us,bs,h=>by unfold rE;exact h
  |t::ts,[],us,bs,h=>by unfold rE;exact h
  | t::ts,x::xs,us,bs,h=>by
    cases h with
    |cons h1 h2=>exact .cons (aoC h1) (aib h2)
end Go.Av
