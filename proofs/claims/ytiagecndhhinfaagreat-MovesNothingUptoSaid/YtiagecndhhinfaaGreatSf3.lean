/- Slots; the operations of a region in their order; the sweep. Conditions: none. -/
import Derived.Test.YtiagecndhhinfaaGreatSf2
import Derived.OrdersIn
import Derived.TacticsIn
set_option linter.unusedVariables false
namespace Go.Av
section
variable {P:Program} {w:World} {F:Nat->Prop} {h:Heap} {M:Id->Option Nat}
theorem zJ{a:Act}{d:Nat}(hd:d<a.tmps.size)(v:Value)(k:Nat):(a.put (some d) v).tmps.getD k undef=if k=d then v else a.tmps.getD k undef:=by
  simp only[Act.put,Array.getD_eq_getD_getElem?]
  by_cases hk:k=d
  · subst hk
    rw[if_pos rfl,Array.getElem?_setIfInBounds_self_of_lt hd]
    rfl
  · rw[if_neg hk,Array.getElem?_setIfInBounds_ne (Ne.symm hk)]
theorem ZP{H:Array Obj}{e:Env}{a:Act}(he:fK H F h M e.get a){dst:Option Tmp}{n:Nat}(hn:a.tmps.size=n)(hd: ∀ d,dst=some d→d<n){y:AV}{u:Value}(hv:VR H F h M y u):
    fK H F h M (dX e dst y).get (a.put dst u):=by
  cases dst with
  |none=>exact he
  | some d=>
    intro k x hx
    simp only[dX]at hx
    rw[zJ (by rw[hn];exact hd d rfl)]
    by_cases hk:k=d
    · subst hk
      rw[wU]at hx
      injection hx with hx;subst hx
      rw[if_pos rfl];exact hv
    · rw[uY _ _ _ _ hk]at hx
      rw[if_neg hk];exact he k x hx
theorem axa{a:Act}{dst:Option Tmp}{u:Value}:(a.put dst u).tmps.size=a.tmps.size:=by
  cases dst <;> simp[Act.put]
theorem put_defers{a:Act}{dst:Option Tmp}{u:Value}:(a.put dst u).defers=a.defers:=by
  cases dst <;> rfl
theorem Rn(hk:aQ w.heap F h M){w':World}{F':Nat→Prop}{h':Heap}{M':Id→Option Nat}(ev:bn All w F h M w' F' h' M'){e:Nat→Option AV}{a:Act}(he:fK w.heap F h M e a):fK w'.heap F' h' M' e a:=
  λk x hx=>ev.vr hk (he k x hx)
theorem U1{H:Array Obj}{e:Nat→Option AV}{a:Act}(he:fK H F h M e a){all:List Oper}{o:Oper}{b:Bool}(hw:o7 all e o=some b):Region.wanted o (yielded all.toArray a.tmps)=b:=by
  unfold o7 at hw
  unfold Region.wanted
  cases hg:o.guard with
  |none=>rw[hg]at hw;injection hw
  | some g=>
    obtain⟨j,want⟩:=g
    rw[hg]at hw
    simp only at hw ⊢
    unfold yielded
    rw[List.getElem?_toArray]
    cases hd:(all[j]?).bind (·.dst)with
    | none=>
      rw[hd]at hw
      simp only[aH]at hw
      subst hw
      simp
    | some d=>
      rw[hd]at hw
      simp only[aA]at hw
      obtain⟨x,hx,hw⟩:=hw
      have hv:=he d x hx
      have hg2: ∀ v,a.tmps.getD d undef=v→v≠undef→a.tmps[d]? =some v:=fun v h1 h2=>by
        rw[Array.getD_eq_getD_getElem?]at h1
        cases hq:a.tmps[d]? with
        |none=>rw[hq]at h1;exact absurd h1.symm h2
        |some z=>rw[hq]at h1;exact congrArg some h1
      simp only[Option.bind_some]
      split at hw
      · rename_i b'
        have h1:=hv.fJ
        rw[hg2 _ h1 (by simp[undef])]
        injection hw with hw
      · rename_i v hnb
        have h1:=hv.fJ
        injection hw with hw
        subst hw
        have: ∀ c,a.tmps[d]? ≠some (.bool c):=fun c hc=>by
          rw[Array.getD_eq_getD_getElem?,hc]at h1
          simp at h1
          exact hnb c h1.symm
        cases hq:a.tmps[d]? with
        |none=>simp
        |some z=>cases z <;> first|(simp;done)|(exact absurd hq (this _))
      · cases hw
theorem aAK{H:Array Obj}{e:Env}{a:Act}(he:fK H F h M e.get a){all:List Oper}{o:Oper}{b:Bool}(hw:nI all e o=some b):Region.wanted o (yielded all.toArray a.tmps)=b:=U1 he hw
structure jq where
  n:Nat
  y:Option Nat
  ds:List Deferred
def yv(l:Nat):Value:= .func (.yield l) #[] #[]
def rX(N:jq)(a:Act):Prop:=a.tmps.size=N.n/\ ∀ l,N.y=some l->a.tmps.getD 0 undef=yv l
def Ac(N:jq)(d:Nat):Prop:=d<N.n/\(N.y.isSome=true->d≠0)
theorem rX.put{N:jq}{a:Act}(hs:rX N a){dst:Option Tmp}(hd: ∀ d,dst=some d→Ac N d){u:Value}:rX N (a.put dst u):=
  ⟨axa.trans hs.1,fun l hl=>by
    cases dst with
    |none=>exact hs.2 l hl
    | some d=>
      have h1:=hd d rfl
      rw[zJ (by rw[hs.1];exact h1.1),if_neg (λh=>h1.2 (by rw[hl];rfl) h.symm)]
      exact hs.2 l hl⟩
def ndO(o:Oper):Bool:=match o.op with| .defer _=>false|_=>true
structure St (N:jq) (w:World) (F:Nat→Prop) (h:Heap) (M:Id→Option Nat) (e:Env) (a:Act):Prop where
  ok:aQ w.heap F h M
  env:fK w.heap F h M e.get a
  size:rX N a
  defers:a.defers=N.ds
def jD(N:jq)(o:Oper):Bool:=(match o.dst with|some d=>decide (d<N.n)&&(N.y.isNone || d != 0)|none=>true)&&ndO o
theorem ZO{N:jq}{o:Oper}(h:jD N o=true): ∀ c,o.op≠ .defer c:=fun c hc=>by
  unfold jD ndO at h;rw[hc]at h;simp at h
theorem pM{N:jq}{o:Oper}(h:jD N o=true): ∀ d,o.dst=some d→Ac N d:=fun d hd=>by
  unfold jD at h
  rw[hd]at h
  simp only[Bool.and_eq_true,Bool.or_eq_true,decide_eq_true_eq,bne_iff_ne,ne_eq]at h
  refine⟨h.1.1,λhy=> ?_⟩
  rcases h.1.2 with h2|h2
  · rw[Option.isNone_iff_eq_none]at h2;rw[h2]at hy;cases hy
  · exact h2
theorem St.put{N:jq}{w':World}{F':Nat→Prop}{h':Heap}{M':Id→Option Nat}{e:Env}{a:Act}(st:St N w F h M e a)(hk:aQ w'.heap F' h' M')(ev:bn All w F h M w' F' h' M'){dst:Option Tmp}
    (hd: ∀ d,dst=some d->Ac N d) {y:AV} {u:Value} (hv:VR w'.heap F' h' M' y u):St N w' F' h' M' (dX e dst y) (a.put dst u):=
  ⟨hk,ZP (Rn st.ok ev st.env) st.size.1 (λd h=>(hd d h).1) hv,st.size.put hd,put_defers.trans st.defers⟩
theorem wG{C:bG}{cp:aC}{ci:bz}(hcp:aK P cp)(hci:eH P ci){lvl:Nat}{N:jq}{all:List Oper}{Q:Exit→Act→World→Prop}: ∀ (os:List Oper) {w:World} {F:Nat→Prop} {h:Heap} {M:Id→Option Nat} {e:Env} {a:Act}
    {e':Env} {h':Heap},St N w F h M e a->os.all (jD N)=true->ji P C cp ci lvl all os e h=some (e',h')->
    (∀ a' w' F' M',St N w' F' h' M' e' a'->bn All w F h M w' F' h' M'->Q .normal a' w')->wpList P all.toArray Q os a w
  | [],w,F,h,M,e,a,e',h',st,_,hq,hn=>by
    simp only[ji,aH,Prod.mk.injEq]at hq
    obtain⟨rfl,rfl⟩:=hq
    exact wpList_nil (hn a w F M st .refl)
  | o ::os,w,F,h,M,e,a,e',h',st,hd,hq,hn=>by
    simp only[ji,aA]at hq
    obtain⟨wd,hw,hq⟩:=hq
    simp only[List.all_cons,Bool.and_eq_true]at hd
    have hw':=aAK st.env hw
    unfold wpList
    cases wd with
    | true=>
      rw[if_pos hw']
      rw[if_pos rfl]at hq
      simp only[aA,Prod.exists]at hq
      obtain⟨y,h1,hop,hq⟩:=hq
      exact .inl (Pe hcp hci st.ok st.env hop fun w' F' M' u q1 q2 q3=>
        wG hcp hci os (st.put q1 q2 (pM hd.1) q3) hd.2 hq λa2 w2 F2 M2 s2 ev2=>hn a2 w2 F2 M2 s2 (q2.trans q1 ev2))
    | false=>
      rw[if_neg (by rw[hw'];simp)]
      rw[if_neg (by simp)]at hq
      exact wG hcp hci os (st.put st.ok .refl (pM hd.1) (.c .v)) hd.2 hq λa2 w2 F2 M2 s2 ev2=>hn a2 w2 F2 M2 s2 ev2
def Fw(r:Option Nat):Fence:={Fence.wide with round:=r}
theorem Xx{r:Option Nat}{n:Nat}{f:FuncId}{args:Array Value}{w:World}{R:Ending->World->Prop}(h:Calls P f args w R):CallsIn (Fw r) n P f args w R:=callsIn_wide.2 h
theorem Xy{n:Nat}{f:FuncId}{args:Array Value}{w:World}{R:Ending->World->Prop}(h:CallsIn (Fw none) n P f args w R):Calls P f args w R:=callsIn_wide.1 h
theorem axR{r:Option Nat}{n:Nat}{row:String}{args:Array Value}{w:World}{R:Value→World→Prop}(h:Rows P row args w R):RowsIn (Fw r) n P row args w R:=
  λc cs _=>let ⟨v,w',hr,hs⟩:=h c cs;⟨v,w',hr,stepsIn_wide.2 hs⟩
theorem abE{r:Option Nat}{n:Nat}{o:Oper}{a:Act}{w:World}{K:Act→World→Prop}{Q:Exit→Act→World→Prop}(hnd: ∀ c,o.op≠ .defer c)(h:o.wp P a w K Q):o.wpIn (Fw r) n P a w K Q:=by
  unfold Oper.wpIn
  unfold Oper.wp at h
  refine⟨λ_ _=>trivial,?_⟩
  rw[Oper.semAt_eq _ _ _ hnd]
  generalize (execOp a.eval o).run P w=x at*
  cases x with
  | ok x w'=>
    cases x <;> simp only[Oper.upon]at h <;> simp only[Oper.uponIn] <;>
      first
        |exact h
        |exact⟨λhd=>by simp[Fw,Fence.wide]at hd,Xx h⟩
        |exact⟨λhd=>by simp[Fw,Fence.wide]at hd,axR h⟩
  |halt x w'=>cases x <;> simp only[Oper.upon]at h <;> simp only[Oper.uponIn] <;> exact h
theorem TB{r:Option Nat}{n:Nat}{ops:Array Oper}{Q:Exit→Act→World→Prop}(hq: ¬ LetsOut Q): ∀ (l:List Oper),(∀ o ∈ l,∀ c,o.op≠ .defer c)→ ∀ {a:Act} {w:World},wpList P ops Q l a w→wpListIn (Fw r) n P ops Q l a w
  |[],_,a,w,h=>h
  | o ::l,hnd,a,w,h=>by
    unfold wpListIn
    unfold wpList at h
    split
    · rename_i hw
      rw[if_pos hw]at h
      rcases h with h|h
      · exact Oper.wpIn_mono (λa w h=>TB hq l (λo ho=>hnd o (.tail _ ho)) h) (abE (hnd o (.head _)) h)
      · exact absurd h.2 hq
    · rename_i hw
      rw[if_neg hw]at h
      exact⟨λ_ _=>trivial,TB hq l (λo ho=>hnd o (.tail _ ho)) h⟩
theorem Gv{r:Option Nat}{n:Nat}{md:Region.Mode}{ops:Array Oper}{Q:Exit→Act→World→Prop}(hq: ¬ LetsOut Q)(hnd: ∀ (i:Nat) (o:Oper),ops[i]? =some o→ ∀ c,o.op≠ .defer c):
    ∀ (k:Nat) (listed:Array Bool) {a:Act} {w:World},wpAny P md ops Q k listed a w->wpAnyIn (Fw r) n P md ops Q k listed a w
  |0,_,a,w,h=>h
  | k + 1,listed,a,w,h=>by
    refine⟨h.1,λi hi=> ?_⟩
    have h2:=h.2 i hi
    unfold wpOpIn
    unfold wpOp at h2
    cases ho:ops[i]? with
    |none=>rw[ho]at h2;exact Gv hq hnd k _ h2
    | some o=>
      rw[ho]at h2
      simp only at h2 ⊢
      split
      · rename_i hw
        rw[if_pos hw]at h2
        rcases h2 with h2|h2
        · exact Oper.wpIn_mono (λa w h=>Gv hq hnd k _ h) (abE (hnd i o ho) h2)
        · exact absurd h2.2 hq
      · rename_i hw
        rw[if_neg hw]at h2
        exact⟨λ_ _=>trivial,Gv hq hnd k _ h2⟩
def xZ(P:Program)(r:Option Nat)(id:Nat)(ops:Array Oper)(Q:Exit->Act->World->Prop)(a:Act)(w:World):Prop:=(Code.region id ops true).wpIn (Fw r) 0 P Q a w
theorem Us{r:Option Nat}{id:Nat}{all:List Oper}{Q:Exit→Act→World→Prop}{a:Act}{w:World}{N:jq}(hm:P.follows .mixedOrders=true)(hq: ¬ LetsOut Q)(hnd:all.all (jD N)=true)
    (h:wpAny P .any all.toArray Q all.toArray.size (Array.replicate all.toArray.size false) a {w with drawn:=w.drawn+1}):xZ P r id all.toArray Q a w:=
  wpIn_region_any hm (Gv hq (λi o ho=>ZO (List.all_eq_true.1 hnd o (List.mem_of_getElem? (by rw[← List.getElem?_toArray];exact ho)))) _ _ h)
theorem VR.dropped{H:Array Obj}{h':Heap}: ∀ d {x:AV} {u:Value},VR H F h M x u→(∀ id,names id d x=true→h'.get id=h.get id)→VR H F h' M x u:=by
  intro d
  have whole: ∀ {x:AV} {u:Value},VR H F h M x u->(∀ id,h'.get id=h.get id)->VR H F h' M x u:=λ {x u} hv hh=>hv.ext λid x hx=>⟨(hh id).trans hx,rfl⟩
  have base: ∀ d {id:Id} {off n ext:Nat} {u:Value},VR H F h M (.own id off n ext) u→(∀ i,names i d (.own id off n ext)=true→h'.get i=h.get i)→VR H F h' M (.own id off n ext) u:=fun d {id off n ext u} hv hh=>by
    obtain⟨a,c,cl,rw',sz',e',cells',rfl,hg',hn,hle,ho⟩:=hv.nZ
    exact .own ((hh _ (by cases d <;> simp[names])).trans hg') hn hle ho
  have basep: ∀ d {id:Id} {off ext:Nat} {u:Value},VR H F h M (.ptr id off ext) u→(∀ i,names i d (.ptr id off ext)=true→h'.get i=h.get i)→VR H F h' M (.ptr id off ext) u:=fun d {id off ext u} hv hh=>by
    cases hv with
    |c hc=>cases hc
    |ptr hg hle ho=>exact .ptr ((hh _ (by cases d <;> simp[names])).trans hg) hle ho
  induction d with
  | zero=>
    intro x u hv hh
    cases x with
    |v x=>obtain rfl:=hv.fJ;exact .c .v
    |arr n xs=>exact .c hv.pF
    |ay xs off=>exact .c hv.nC
    |own id off n ext=>exact base 0 hv hh
    |ptr id off ext=>exact basep 0 hv hh
    | fn f a b=>
      cases a with
      | nil=>cases b with
        |nil=>obtain⟨us,vs,rfl,l1,x1,l2,x2⟩:=hv.qA;exact .fn l1 (λi x u h=>by simp at h) l2 (λi x u h=>by simp at h)
        |cons=>exact whole hv λid=>hh id rfl
      |cons=>exact whole hv λid=>hh id rfl
    |_=>exact whole hv λid=>hh id rfl
  | succ d ih=>
    intro x u hv hh
    cases x with
    |v x=>obtain rfl:=hv.fJ;exact .c .v
    |arr n xs=>exact .c hv.pF
    |ay xs off=>exact .c hv.nC
    |own id off n ext=>exact base (d+1) hv hh
    |ptr id off ext=>exact basep (d+1) hv hh
    | fn f a b=>
      obtain⟨us,vs,rfl,l1,x1,l2,x2⟩:=hv.qA
      refine .fn l1 (λi x u hx hu=>ih (x1 i x u hx hu) λid hn=>hh id ?_) l2 λi x u hx hu=>ih (x2 i x u hx hu) λid hn=>hh id ?_
      · simp only[names,Bool.or_eq_true,List.any_eq_true];exact .inl ⟨x,List.mem_of_getElem? hx,hn⟩
      · simp only[names,Bool.or_eq_true,List.any_eq_true];exact .inr ⟨x,List.mem_of_getElem? hx,hn⟩
    | agg xs=>
      obtain⟨us,rfl,hl,hx⟩:=hv.nM
      exact .agg hl λi x u hxi hu=>ih (hx i x u hxi hu) λid hn=>hh id (by simp only[names,List.any_eq_true];exact⟨x,List.mem_of_getElem? hxi,hn⟩)
    | tuple xs=>
      obtain⟨us,rfl,hl,hx⟩:=hv.xM
      exact .tuple hl λi x u hxi hu=>ih (hx i x u hxi hu) λid hn=>hh id (by simp only[names,List.any_eq_true];exact⟨x,List.mem_of_getElem? hxi,hn⟩)
    |fresh=>exact whole hv λid=>hh id rfl
    |freshO=>exact whole hv λid=>hh id rfl
    |newbx=>exact whole hv λid=>hh id rfl
theorem adp(prot:List Id)(e:Env)(all:Heap)(id:Id): ∀ h:Heap,(sS prot e all h).get id=if(mP prot id || (ni id e || pY id all))=true then h.get id else none
  |[]=>by simp[sS,Heap.get]
  | (j,b)::h=>by
    have ih:=adp prot e all id h
    unfold sS
    split
    · rename_i hj
      simp only[Heap.get]
      by_cases e1:j=id
      · subst e1;rw[if_pos rfl,if_pos hj,if_pos rfl]
      · rw[if_neg e1,if_neg e1];exact ih
    · rename_i hj
      simp only[Heap.get]
      by_cases e1:j=id
      · subst e1;rw[ih,if_neg hj,if_neg hj]
      · rw[if_neg e1];exact ih
theorem EO{id:Id}: ∀ {e:Env} {k:Nat} {x:AV},e.get k=some x→names id 4 x=true→ni id e=true
  |[],k,x,hx,_=>by simp[Env.get]at hx
  | (j,y)::e,k,x,hx,hn=>by
    simp only[Env.get]at hx
    simp only[ni,Bool.or_eq_true]
    split at hx
    · injection hx with hx;subst hx;exact .inl hn
    · exact .inr (EO hx hn)
theorem TM{id:Id}: ∀ {h:Heap} {k:Id} {b:ak},h.get k=some b→qF id b=true→pY id h=true
  |[],k,x,hx,_=>by simp[Heap.get]at hx
  | (j,y)::e,k,x,hx,hn=>by
    simp only[Heap.get]at hx
    simp only[pY,Bool.or_eq_true]
    split at hx
    · injection hx with hx;subst hx;exact .inl hn
    · exact .inr (TM hx hn)
theorem ado(hk:aQ w.heap F h M)(prot:List Id)(e:Env):aQ w.heap F (qJ prot e h) M∧bn (fun id=>mP prot id=true) w F h M w F (qJ prot e h) M∧
    ∀ x u,(∀ id,names id 4 x=true->ni id e=true)->VR w.heap F h M x u->VR w.heap F (qJ prot e h) M x u:=by
  have hget: ∀ id,(qJ prot e h).get id=if(mP prot id || (ni id e || pY id h))=true then h.get id else none:=λid=>adp prot e h id h
  have hsub: ∀ id x,(qJ prot e h).get id=some x→h.get id=some x:=fun id x hx=>by
    rw[hget]at hx;split at hx
    · exact hx
    · cases hx
  have hin: ∀ id,pY id h=true->(qJ prot e h).get id=h.get id:=λid hn=>by rw[hget,if_pos (by simp[hn])]
  have hine: ∀ id,ni id e=true->(qJ prot e h).get id=h.get id:=λid hn=>by rw[hget,if_pos (by simp[hn])]
  refine⟨⟨λid x hx=> ?_,λid id' x x' b g1 g2=>hk.inj id id' x x' b (hsub _ _ g1) (hsub _ _ g2),hk.fb⟩,?_,λx u hn hv=>hv.dropped 4 λid h1=>hine id (hn id h1)⟩
  · have hr:=hk.row id x (hsub _ _ hx)
    have hnm: ∀ j,qF j x=true->(qJ prot e h).get j=h.get j:=λj hj=>hin j (TM (hsub _ _ hx) hj)
    cases x with
    | sl cl rw sz ext cells=>
      obtain⟨hl,hr⟩:=hr
      refine⟨hl,hr.imp_right λ⟨b,cur,t,h1,h2,h3,h4,h5⟩=>⟨b,cur,t,h1,h2,h3,h4,λi y hy=> ?_⟩⟩
      obtain⟨u,a1,a2,a3⟩:=h5 i y hy
      refine⟨u,a1,a2,λhcl=>(a3 hcl).dropped 4 λj hj=>hnm j ?_⟩
      subst hcl
      simp only[qF,List.any_eq_true]
      exact⟨y,List.mem_of_getElem? hy,hj⟩
    | bx rw cells=>
      obtain⟨b,cur,t,h1,h2,hl,h3,h4,h5⟩:=hr
      refine⟨b,cur,t,h1,h2,hl,h3,h4,λi y hy=> ?_⟩
      obtain⟨u,a1,a2⟩:=h5 i y hy
      refine⟨u,a1,a2.dropped 4 λj hj=>hnm j ?_⟩
      simp only[qF,List.any_eq_true]
      exact⟨y,List.mem_of_getElem? hy,hj⟩
  · refine⟨rfl,rfl,rfl,Nat.le_refl _,fun _ _ _=>rfl,fun _ h=>h,fun _ h _=> .inl h,fun id y hy hr=> .inl ⟨y,hsub _ _ hy,hr,rfl⟩,fun id x hx hp=>⟨x,?_,Held.refl rfl fun _ _=>rfl⟩⟩
    rw[hget,if_pos (by simp[hp])];exact hx
theorem Fv(hk:aQ w.heap F h M)(prot:List Id)(e:Env):aQ w.heap F (sweep prot e h) M∧bn (fun id=>mP prot id=true) w F h M w F (sweep prot e h) M∧
    ∀ x u,(∀ id,names id 4 x=true->ni id e=true)->VR w.heap F h M x u->VR w.heap F (sweep prot e h) M x u:=by
  obtain⟨k1,ev1,v1⟩:=ado hk prot e
  obtain⟨k2,ev2,v2⟩:=ado k1 prot e
  exact⟨k2,ev1.trans k1 ev2,λx u hn hv=>v2 x u hn (v1 x u hn hv)⟩
end
end Go.Av
