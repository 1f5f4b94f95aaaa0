/- A region whose order is open. Conditions: none. -/
import Derived.Test.YtiagecndhhinfaaGreatSg2
import Derived.StillTail
set_option linter.unusedVariables false
namespace Go.Av
def gY(n size:Nat):Array Bool:=((List.range size).map λi=>decide (i<n)).toArray
def Bg(n:Nat)(ops:Array Oper):Bool:=
  decide (n<=ops.size)&&
  (List.range n).all fun i=>match ops[i]? with
    | some o=>(o.after.all fun e=> !Region.binds .any e || decide (e.on<i))&&o.dst.isSome&&
      ((List.range n).all fun j=>match ops[j]? with
        | some o'=>(j==i || o'.dst != o.dst)&&
          ((o.looksAt ops).all λt=>o'.dst != some t || (j != i&&(Region.waitsFor .any ops i j || Region.waitsFor .any ops j i)))
        |none=>false)
    |none=>false
def JS(n:Nat)(ops:Array Oper):Bool:=
  Bg n ops&&
  (n==ops.size || (Region.sinkB .any ops n&&Region.chainB .any ops n))&&
  Region.seqB .any ops (ops.size - n) n (gY n ops.size)
def ayS(n:Nat)(ops:Array Oper):Bool:=(List.range n).all λi=>((List.range n).any λj=>decide (i<j)&&Region.waitsFor .any ops j i) || Region.waitsFor .any ops (n+1) i
def JU(n:Nat)(ops:Array Oper):Bool:=
  Bg n ops&&(n+2==ops.size)&&Region.sinkB .any ops n&&ayS n ops&&
  decide (Region.ready .any ops (gY n ops.size)=[n,n+1])&&decide (Region.ready .any ops ((gY n ops.size).setIfInBounds n true)=[n+1])&&
  decide (Region.ready .any ops ((gY n ops.size).setIfInBounds (n+1) true)=[n])&&
  (Region.ready .any ops (((gY n ops.size).setIfInBounds n true).setIfInBounds (n+1) true)).isEmpty&&(Region.ready .any ops (((gY n ops.size).setIfInBounds (n+1) true).setIfInBounds n true)).isEmpty
def J4(n f:Nat)(ops:Array Oper):Bool:=
  Bg n ops&&decide (f<n)&&decide (n<ops.size)&&
  (match ops[f]?,ops[n]? with
    | some o,some o2=>o.guard.isNone&&o2.guard.isNone&&(match o.op,o.dst with
      | .move (.tmp a),some d=>((List.range (n+1)).all λj=>((ops[j]?).bind (·.dst)) != some a)&&o2.dst != some d
      |_,_=>false)
    |_,_=>false)&&
  ((List.range n).all λi=>i==f || ((List.range n).any λj=>decide (i<j)&&j != f&&Region.waitsFor .any ops j i) || Region.waitsFor .any ops n i)&&
  ((List.range ops.size).all λt=>decide (t<=n) || Region.waitsFor .any ops t (t - 1))&&
  (n+1==ops.size || Region.waitsFor .any ops (n+1) f)&&Region.seqB .any ops (ops.size - n) n (gY n ops.size)
def Bf(ops:Array Oper):Nat→List Nat→List Nat
  |0,s=>s
  |k+1,s=>Bf ops k (if s.any (λq=>Region.waitsFor .any ops q k)=true then k::s else s)
def amc(n ps qs:Nat)(ops:Array Oper)(p:Nat):Bool:=
  let s:=Bf ops p [p]
  (List.range n).all λi=>if ps.testBit i=true then decide (p<=i) || jJ s i else qs.testBit i || jJ s i
def aaU(n ps qs:Nat)(ops:Array Oper):Bool:=
  decide (n<=ops.size)&&((List.range n).all λp=> !ps.testBit p || amc n ps qs ops p)&&
  (List.range n).all fun i=>match ops[i]? with
    | some o=>(o.after.all fun e=> !Region.binds .any e || decide (e.on<i))&&(ps.testBit i || o.dst.isSome)&&
      ((List.range n).all fun j=>match ops[j]? with
        | some o'=>(j==i || o'.dst != o.dst || o.dst.isNone)&&
          ((o.looksAt ops).all λt=>o'.dst != some t || (j != i&&(Region.waitsFor .any ops i j || (!ps.testBit i&&Region.waitsFor .any ops j i))))
        |none=>false)
    |none=>false
def LP(n ps qs:Nat)(ops:Array Oper):Bool:=
  aaU n ps qs ops&&(n==ops.size || (Region.sinkB .any ops n&&Region.chainB .any ops n))&&Region.seqB .any ops (ops.size - n) n (gY n ops.size)
def Ri(k:Nat)(ops:Array Oper):Bool:=if k<1000 then JS k ops else if k<1000000 then J4 (k%1000) (k / 1000 - 1) ops else if k<2000000 then JU (k - 1000000) ops else LP (rC k) (vF k) (vG k) ops
def FZ(ops:Array Oper)(L:Nat->Prop):Prop:= ∀ j oj,ops[j]? =some oj->L j-> ∀ e ∈ oj.after,Region.binds .any e=true->L e.on
theorem Rh{ops:Array Oper}{L:Nat→Prop}(hcl:FZ ops L){p:Nat}(hp:L p): ∀ (k:Nat) (s:List Nat),(∀ q ∈ s,L q)→ ∀ q ∈ Bf ops k s,L q
  |0,s,hs,q,hq=>hs q hq
  | k + 1,s,hs,q,hq=>by
    unfold Bf at hq
    refine Rh hcl hp k _ (λq' hq'=> ?_) q hq
    split at hq'
    · rename_i hany
      rcases List.mem_cons.1 hq' with rfl|h
      · obtain⟨r,hr,hw⟩:=List.any_eq_true.1 hany
        obtain⟨o2,ho2,e,hee,hb,hon⟩:=Region.waitsFor_spec hw
        exact hon ▸ hcl r o2 ho2 (hs r hr) e hee hb
      · exact hs q' h
    · exact hs q' hq'
theorem aa6{s:List Nat}{i:Nat}(h:jJ s i=true):i ∈ s:=by
  induction s with
  |nil=>cases h
  | cons j s ih=>
    unfold jJ at h
    split at h
    · rename_i hj;subst hj;simp
    · exact List.mem_cons_of_mem _ (ih h)
structure Vh (n ps qs:Nat) (ops:Array Oper):Prop where
  early: ∀ L,FZ ops L-> ∀ p,p<n->ps.testBit p=true->L p-> ∀ i,i<n->ps.testBit i=false->qs.testBit i=false->L i
  order: ∀ L,FZ ops L-> ∀ p,p<n->ps.testBit p=true->L p-> ∀ i,i<p->ps.testBit i=true->L i
  le:n<=ops.size
  back: ∀ i o,i<n->ops[i]? =some o-> ∀ e ∈ o.after,Region.binds .any e=true->e.on<i
  dst: ∀ i o,i<n->ps.testBit i=false->ops[i]? =some o-> ∃ d,o.dst=some d
  one: ∀ i j o o',i<n->j<n->o.dst.isNone=false->ops[i]? =some o->ops[j]? =some o'->o'.dst=o.dst->j=i
  data: ∀ i j o o' t,i<n->j<n->ops[i]? =some o->ops[j]? =some o'->t ∈ o.looksAt ops->o'.dst=some t->j≠i/\(Region.waitsFor .any ops i j=true∨(ps.testBit i=false/\Region.waitsFor .any ops j i=true))
  waits: ∀ listed,HeadInv .any ops n listed-> ∀ i,i<n->listed.getD i true=false-> ∀ t,n<=t->t ∉ Region.ready .any ops listed
structure Gh (n:Nat) (ops:Array Oper):Prop where
  le:n<=ops.size
  back: ∀ i o,i<n->ops[i]? =some o-> ∀ e ∈ o.after,Region.binds .any e=true->e.on<i
  dst: ∀ i o,i<n->ops[i]? =some o-> ∃ d,o.dst=some d
  one: ∀ i j o o',i<n->j<n->ops[i]? =some o->ops[j]? =some o'->o'.dst=o.dst->j=i
  data: ∀ i j o o' t,i<n->j<n->ops[i]? =some o->ops[j]? =some o'->t ∈ o.looksAt ops->o'.dst=some t->j≠i/\(Region.waitsFor .any ops i j=true∨Region.waitsFor .any ops j i=true)
structure Gi (n:Nat) (ops:Array Oper):Prop where
  base:Gh n ops
  waits: ∀ listed,HeadInv .any ops n listed-> ∀ i,i<n->listed.getD i true=false-> ∀ t,n<=t->t ∉ Region.ready .any ops listed
theorem ZK{n:Nat}{ops:Array Oper}(h:Bg n ops=true):Gh n ops:=by
  simp only[Bg,Bool.and_eq_true,decide_eq_true_eq,List.all_eq_true,List.mem_range]at h
  obtain⟨h1,h2⟩:=h
  have hi: ∀ i o,i<n→ops[i]? =some o→(∀ e ∈ o.after,Region.binds .any e=true→e.on<i)∧o.dst.isSome=true∧ ∀ j,j<n→ ∀ o',ops[j]? =some o'→(j=i∨o'.dst≠o.dst)∧
      ∀ t ∈ o.looksAt ops,o'.dst=some t->j≠i/\(Region.waitsFor .any ops i j=true∨Region.waitsFor .any ops j i=true):=λi o hin ho=>by
    have:=h2 i hin
    rw[ho]at this
    simp only[Bool.and_eq_true]at this
    obtain⟨⟨a1,a2⟩,a3⟩:=this
    refine⟨λe he hb=> ?_,a2,λj hj o' ho'=> ?_⟩
    · have:=Array.all_eq_true_iff_forall_mem.1 a1 e he
      simp only[Bool.or_eq_true,Bool.not_eq_true',decide_eq_true_eq]at this
      rcases this with h|h
      · rw[h]at hb;cases hb
      · exact h
    · have:=List.all_eq_true.1 a3 j (List.mem_range.2 hj)
      rw[ho']at this
      simp only[Bool.and_eq_true,Bool.or_eq_true,beq_iff_eq,bne_iff_ne,ne_eq,List.all_eq_true]at this
      refine⟨this.1,λt ht hd=> ?_⟩
      rcases this.2 t ht with h|h
      · exact absurd hd h
      · exact h
  refine⟨h1,λi o hin ho=>(hi i o hin ho).1,λi o hin ho=>Option.isSome_iff_exists.1 (hi i o hin ho).2.1,λi j o o' hin hjn ho ho' he=> ?_,λi j o o' t hin hjn ho ho' ht hd=>((hi i o hin ho).2.2 j hjn o' ho').2 t ht hd⟩
  · rcases((hi i o hin ho).2.2 j hjn o' ho').1 with h|h
    · exact h
    · exact absurd he h
theorem ZL{n:Nat}{ops:Array Oper}(h:Bg n ops=true)(hw: ∀ listed,HeadInv .any ops n listed-> ∀ i,i<n->listed.getD i true=false-> ∀ t,n<=t->t ∉ Region.ready .any ops listed):Gi n ops:=⟨ZK h,hw⟩
theorem al4{n:Nat}{ops:Array Oper}(h:JS n ops=true):Gi n ops∧Region.seqB .any ops (ops.size - n) n (gY n ops.size)=true:=by
  simp only[JS,Bool.and_eq_true]at h
  obtain⟨⟨h1,h2⟩,h3⟩:=h
  refine⟨ZL h1 λlisted inv i hi hu t ht hr=> ?_,h3⟩
  have htlt:t<ops.size:=by
    obtain⟨_,o,ho,_⟩:=mem_ready.1 hr
    exact(Array.getElem?_eq_some_iff.1 ho).1
  simp only[Bool.or_eq_true,beq_iff_eq,Bool.and_eq_true]at h2
  rcases h2 with h2|⟨h2,h4⟩
  · omega
  · exact tail_waits h2 h4 ae inv _ i rfl hi hu t ht hr
theorem ayT{n t:Nat}{ops:Array Oper}{listed:Array Bool}(hs: ∀ i,i<n→(∃ j,j<n∧i<j∧Region.waitsFor .any ops j i=true)∨Region.waitsFor .any ops t i=true)(hn:n≤ops.size)(inv:HeadInv .any ops n listed):
    ∀ (d i:Nat),n - i=d->i<n->listed.getD i true=false->t ∉ Region.ready .any ops listed:=by
  intro d
  induction d using Nat.strongRecOn with
  | _ d ih=>
    intro i hd hi hun hr
    obtain⟨_,ot,hot,hall⟩:=mem_ready.1 hr
    rcases hs i hi with⟨j,hj,hij,hw⟩|hw
    · obtain⟨oj,hoj,e,he,hb,hon⟩:=Region.waitsFor_spec hw
      cases hl:listed.getD j false with
      | true=>
        have h2:=inv.closed j oj hoj hl e he hb
        rw[hon,getD_both hun]at h2
        cases h2
      | false=>
        have hjs:j<listed.size:=by rw[inv.size];omega
        exact ih (n - j) ae j rfl hj (getD_in hjs hl) hr
    · obtain⟨o',ho',e,he,hb,hon⟩:=Region.waitsFor_spec hw
      have:o'=ot:=Option.some.inj (ho'.symm.trans hot)
      subst this
      have h2:=hall e he hb
      rw[hon,getD_both hun]at h2
      cases h2
theorem al2{n:Nat}{ops:Array Oper}(h:JU n ops=true):Gi n ops∧n+2=ops.size∧Region.ready .any ops (gY n ops.size)=[n,n+1]∧Region.ready .any ops ((gY n ops.size).setIfInBounds n true)=[n+1]∧
    Region.ready .any ops ((gY n ops.size).setIfInBounds (n+1) true)=[n]/\Region.ready .any ops (((gY n ops.size).setIfInBounds n true).setIfInBounds (n+1) true)=[]/\Region.ready .any ops (((gY n ops.size).setIfInBounds (n+1) true).setIfInBounds n true)=[]:=by
  simp only[JU,Bool.and_eq_true,decide_eq_true_eq,beq_iff_eq,List.isEmpty_iff]at h
  obtain⟨⟨⟨⟨⟨⟨⟨⟨h1,h2⟩,h3⟩,h4⟩,h5⟩,h6⟩,h7⟩,h8⟩,h9⟩:=h
  refine⟨ZL h1 λlisted inv i hi hu t ht hr=> ?_,h2,h5,h6,h7,h8,h9⟩
  have htlt:t<ops.size:=by
    obtain⟨_,o,ho,_⟩:=mem_ready.1 hr
    exact(Array.getElem?_eq_some_iff.1 ho).1
  refine ayT (t:=t) (λi hi=> ?_) ae inv _ i rfl hi hu hr
  rcases(by omega:t=n∨t=n+1)with rfl|rfl
  · obtain⟨j,hj,hj2⟩:=List.any_eq_true.1 (List.all_eq_true.1 h3 i (List.mem_range.2 hi))
    simp only[Bool.and_eq_true,decide_eq_true_eq]at hj2
    have hj3:=List.mem_range.1 hj
    by_cases hjt:j=t
    · subst hjt;exact .inr hj2.2
    · exact .inl ⟨j,by omega,hj2.1,hj2.2⟩
  · have:=List.all_eq_true.1 h4 i (List.mem_range.2 hi)
    simp only[Bool.or_eq_true]at this
    rcases this with h|h
    · obtain⟨j,hj,hj2⟩:=List.any_eq_true.1 h
      simp only[Bool.and_eq_true,decide_eq_true_eq]at hj2
      exact .inl ⟨j,List.mem_range.1 hj,hj2.1,hj2.2⟩
    · exact .inr h
theorem as5{n ps qs:Nat}{ops:Array Oper}(h:LP n ps qs ops=true):Vh n ps qs ops∧Region.seqB .any ops (ops.size - n) n (gY n ops.size)=true:=by
  simp only[LP,Bool.and_eq_true]at h
  obtain⟨⟨h,h2⟩,h3⟩:=h
  refine⟨?_,h3⟩
  simp only[aaU,Bool.and_eq_true,decide_eq_true_eq,List.all_eq_true,List.mem_range]at h
  obtain⟨⟨h1,he⟩,h4⟩:=h
  have hearly: ∀ p,p<n→ps.testBit p=true→ ∀ i,i<n→(ps.testBit i=true→i<p→i ∈ Bf ops p [p])∧(ps.testBit i=false→qs.testBit i=false→i ∈ Bf ops p [p]):=fun p hp hb i hi=>by
    have:=he p hp
    rw[hb]at this
    simp only[Bool.not_true,Bool.false_or]at this
    have:=List.all_eq_true.1 this i (List.mem_range.2 hi)
    refine⟨λhs hlt=> ?_,λhs hq=> ?_⟩
    · rw[if_pos hs]at this
      simp only[Bool.or_eq_true,decide_eq_true_eq]at this
      rcases this with h|h
      · omega
      · exact aa6 h
    · rw[if_neg (by rw[hs];decide)]at this
      rw[hq]at this
      exact aa6 (by simpa using this)
  have hi: ∀ i o,i<n→ops[i]? =some o→(∀ e ∈ o.after,Region.binds .any e=true→e.on<i)∧(ps.testBit i=true∨o.dst.isSome=true)∧ ∀ j,j<n→ ∀ o',ops[j]? =some o'→(j=i∨o'.dst≠o.dst∨o.dst.isNone=true)∧
      ∀ t ∈ o.looksAt ops,o'.dst=some t->j≠i/\(Region.waitsFor .any ops i j=true∨(ps.testBit i=false/\Region.waitsFor .any ops j i=true)):=λi o hin ho=>by
    have:=h4 i hin
    rw[ho]at this
    simp only[Bool.and_eq_true,Bool.or_eq_true]at this
    obtain⟨⟨a1,a2⟩,a3⟩:=this
    refine⟨λe he hb=> ?_,a2,λj hj o' ho'=> ?_⟩
    · have:=Array.all_eq_true_iff_forall_mem.1 a1 e he
      simp only[Bool.or_eq_true,Bool.not_eq_true',decide_eq_true_eq]at this
      rcases this with h|h
      · rw[h]at hb;cases hb
      · exact h
    · have:=List.all_eq_true.1 a3 j (List.mem_range.2 hj)
      rw[ho']at this
      simp only[Bool.and_eq_true,Bool.or_eq_true,beq_iff_eq,bne_iff_ne,ne_eq,List.all_eq_true,Bool.not_eq_true']at this
      refine⟨?_,λt ht hd=> ?_⟩
      · rcases this.1 with(h|h)|h
        · exact .inl h
        · exact .inr (.inl h)
        · exact .inr (.inr h)
      · rcases this.2 t ht with h|h
        · exact absurd hd h
        · exact h
  have hself: ∀ {L:Nat->Prop} {p:Nat},L p-> ∀ q ∈ [p],L q:=λhp q hq=>by rw[List.mem_singleton.1 hq];exact hp
  refine⟨fun L hcl p hp hb hL i hin hs hq=>Rh hcl hL p [p] (hself hL) i ((hearly p hp hb i hin).2 hs hq),fun L hcl p hp hb hL i hip hs=>Rh hcl hL p [p] (hself hL) i ((hearly p hp hb i ae).1 hs hip),
    h1,λi o hin ho=>(hi i o hin ho).1,λi o hin hne ho=> ?_,λi j o o' hin hjn hne ho ho' he=> ?_,λi j o o' t hin hjn ho ho' ht hd=>((hi i o hin ho).2.2 j hjn o' ho').2 t ht hd,λlisted inv i hi hu t ht hr=> ?_⟩
  · rcases(hi i o hin ho).2.1 with h|h
    · rw[hne]at h;cases h
    · exact Option.isSome_iff_exists.1 h
  · rcases((hi i o hin ho).2.2 j hjn o' ho').1 with h|h|h
    · exact h
    · exact absurd he h
    · rw[hne]at h;cases h
  · have htlt:t<ops.size:=by
      obtain⟨_,o,ho,_⟩:=mem_ready.1 hr
      exact(Array.getElem?_eq_some_iff.1 ho).1
    simp only[Bool.or_eq_true,beq_iff_eq,Bool.and_eq_true]at h2
    rcases h2 with h2|⟨h2,h4⟩
    · omega
    · exact tail_waits h2 h4 ae inv _ i rfl hi hu t ht hr
section
variable {P:Program}
theorem ayz{H:Array Obj}{F F':Nat→Prop}{h:Heap}{M:Id→Option Nat}(hF: ∀ b,F b→F' b){x y:AV}{u:Value}{bs:List Nat}(ht:TR H (VC H F) (VR H F h M) x u bs)(hb: ∀ b ∈ bs,F' b)(e:zN x=some y):VC H F' y u:=by
  unfold zN at e
  split at e
  · rename_i sz n xs
    cases ht with
    |base hr=>cases hr with|c hc=>cases hc
    |nil=>rw[if_pos ⟨rfl,rfl⟩]at e;injection e with e;subst e;exact .gB
    | @fresh _ _ _ b cur e' c hc1 hc hs hl hx=>
      by_cases h0:n=0/\xs.isEmpty=true
      · rw[if_pos h0]at e;injection e with e;subst e
        obtain⟨rfl,_⟩:=h0
        exact .gB
      · rw [if_neg h0]at e;injection e with e;subst e
        have hn:n*sz<=c*sz:=Nat.mul_le_mul_right _ hc
        refine .arr (us:=cur.toList.take (n*sz)) hc (hb b (by simp)) ⟨cur,e',(0,0),hc1,λi u hi=> ?_⟩ (by rw[List.length_take];simp;omega) λi x u hxi hui=> ?_
        · rw[List.getElem?_take]at hi
          split at hi
          · simpa using hi
          · cases hi
        · obtain⟨v,h1,h2⟩:=hx i x hxi
          rw[List.getElem?_take]at hui
          split at hui
          · have:cur[i]? =some u:=by simpa using hui
            rw[this]at h1
            injection h1 with h1
            subst h1
            exact h2.grow hF
          · cases hui
  · cases e
theorem O8{w:World}{F:Nat→Prop}{h:Heap}{M:Id→Option Nat}{C:bG}{cp:aC}(hcp:aK P cp)(hk:aQ w.heap F h M){e:Nat→Option AV}{a:Act}(he:fK w.heap F h M e a){lvl slot k:Nat}{o:Oper}{t y:AV}{h':Heap}
    (hq:bZ P C cp e h.get o.op=some t) (him:bC lvl slot 4 t (0,h)=some (y,k,h')) {next:Act->World->Prop} {Q:Exit->Act->World->Prop}
    (hn: ∀ w' F' M' u,aQ w'.heap F' h' M'->bn All w F h M w' F' h' M'->VR w'.heap F' h' M' y u->next (a.put o.dst u) w'):o.wp P a w next Q:=by
  unfold bZ at hq
  split at hq
  · rename_i f args ts hop
    simp only[aA,Prod.exists]at hq
    obtain⟨x,hf,k,fs,cap,hfn,as,has,hq⟩:=hq
    obtain⟨us,vs,hu,hl,hx⟩:=VJ he hf hfn has
    split at hq
    · cases hq
    · simp only[aA,Prod.exists]at hq
      obtain⟨r,fl,hr,hq⟩:=hq
      split at hq
      · rename_i hfl
        injection hq with hq;subst hq
        have hfl':fl=[]:=by simpa using hfl
        subst hfl'
        obtain⟨⟨fn,n1,n2,n3⟩,hc⟩:=O3 hcp hk hl hx hr
        have hrun:=MW (P:=P) (w:=w) (ty:=o.type) (c:={callee:= .value f,args:=⟨args⟩,argTypes:=ts}) hu n1 n2 n3 (args:=args) (ts:=ts)
        unfold Oper.wp execOp
        simp only[hop,hrun,Oper.upon_enter]
        refine hc.mono ?_
        rintro e w' ⟨u,F',bs,rfl,hg,f1,f2,f3,ht,hnd,hb⟩
        have hno: ∀ b,¬ Of h M [] b:=λb ⟨_,_,h,_⟩=>by cases h
        obtain⟨M',q1,q2,q3⟩:=MS hk hg (λb hb=>f1 b (.inl hb)) f2 (λb hb hlt=>(f3 b hb hlt).elim (λh=>h) λh=>(hno b h).elim) ht hnd hb him
        exact hn w' F' M' u q1 q2 q3
      · split at hq
        · rename_i hal
          injection hq with hq;subst hq
          obtain⟨⟨fn,n1,n2,n3⟩,hc⟩:=O3 hcp hk hl hx hr
          have hrun:=MW (P:=P) (w:=w) (ty:=o.type) (c:={callee:= .value f,args:=⟨args⟩,argTypes:=ts}) hu n1 n2 n3 (args:=args) (ts:=ts)
          unfold Oper.wp execOp
          simp only[hop,hrun,Oper.upon_enter]
          refine hc.mono ?_
          rintro e w' ⟨u,F',bs,rfl,hg,f1,f2,f3,ht,hnd,hb⟩
          obtain⟨M',q1,q2,q3⟩:=MS (F':=F) hk hg (fun b hb=>hb) (fun b hF=>by have:=hk.fb b hF;have:=hg.size;omega) (fun b hF _=>hF) (TR.uy 4 ht hal) hnd
            (λb hbm=>⟨(hb b hbm).1,(hb b hbm).2.1,λhF=>by have:=hk.fb b hF;have:=(hb b hbm).1;omega⟩) him
          exact hn w' F M' u q1 q2 q3
        · cases hq
  · by_cases hbs:DW o.op=true∧(C.drops 0).isEmpty=false
    · rw[if_pos hbs]at hq
      obtain⟨t0,h0,h1⟩:=aA.1 hq
      obtain⟨u,w',bs,hr,hg,htr,hnd,hb⟩:=Pj hk he h0
      have hv:=ayz (F':=λb=>F b∨b ∈ bs) (λb h=> .inl h) htr (λb h=> .inr h) h1
      obtain⟨M',q1,q2,q3⟩:=MS (F':=fun b=>F b∨b ∈ bs) hk hg (fun b hb=> .inl hb) (fun b hF=>hF.elim (fun h=>by have:=hk.fb b h;have:=hg.size;omega) fun h=>(hb b h).2)
        (λb hF hlt=>hF.elim id λh=>by have:=(hb b h).1;omega) (.base hv) .nil (λb h=>by cases h) him
      unfold Oper.wp
      rw[hr,Oper.upon_value]
      exact hn w' _ M' u q1 q2 q3
    · rw[if_neg hbs]at hq
      obtain⟨u,w',bs,hr,hg,htr,hnd,hb⟩:=Pj hk he hq
      obtain⟨M',q1,q2,q3⟩:=C9 hk hg htr hnd hb him
      unfold Oper.wp
      rw[hr,Oper.upon_value]
      exact hn w' F M' u q1 q2 q3
theorem aaw(lvl slot:Nat): ∀ d t k h y k' h',bC lvl slot d t (k,h)=some (y,k',h')→ ∀ id b,h.get id=some b→h'.get id=some b:=by
  have hnew: ∀ {h h':Heap} {k:Id} {x:ak},h.new k x=some h'→ ∀ id b,h.get id=some b→h'.get id=some b:=fun e id b hb=>by
    obtain⟨h0,rfl⟩:=vK e
    rw[jU _ _ _ _ λhe=>by subst he;rw[h0]at hb;cases hb];exact hb
  have hlist: ∀ {f:AV→Nat×Heap→Option (AV×Nat×Heap)},(∀ t k h y k' h',f t (k,h)=some (y,k',h')→ ∀ id b,h.get id=some b→h'.get id=some b)→ ∀ xs k h ys k' h',fE f xs (k,h)=some (ys,k',h')→
      ∀ id b,h.get id=some b->h'.get id=some b:=λhf xs=>by
    induction xs with
    |nil=>intro k h ys k' h' e id b hb;simp only[fE,aH,Prod.mk.injEq]at e;obtain⟨_,_,rfl⟩:=e;exact hb
    | cons x xs ih=>
      intro k h ys k' h' e id b hb
      simp only[fE,aA,Prod.exists]at e
      obtain⟨y,k1,g1,e1,ys',k2,g2,e2,e3⟩:=e
      simp only[aH,Prod.mk.injEq]at e3
      obtain⟨_,_,rfl⟩:=e3
      exact ih _ _ _ _ _ e2 id b (hf _ _ _ _ _ _ e1 id b hb)
  intro d
  induction d with
  | zero=>
    intro t k h y k' h' e id b hb
    cases t with
    |fresh sz n xs=>simp only[bC,aA,aH,Prod.mk.injEq]at e;obtain⟨g,e1,_,_,rfl⟩:=e;exact hnew e1 id b hb
    |freshO sz n xs=>simp only[bC,aA,aH,Prod.mk.injEq]at e;obtain⟨g,e1,_,_,rfl⟩:=e;exact hnew e1 id b hb
    |newbx xs=>simp[bC]at e
    |agg xs=>simp[bC]at e
    |tuple xs=>simp[bC]at e
    |_=>simp only[bC,aH,Prod.mk.injEq]at e;obtain⟨_,_,rfl⟩:=e;exact hb
  | succ d ih=>
    intro t k h y k' h' e id b hb
    cases t with
    |fresh sz n xs=>simp only[bC,aA,aH,Prod.mk.injEq]at e;obtain⟨g,e1,_,_,rfl⟩:=e;exact hnew e1 id b hb
    |freshO sz n xs=>simp only[bC,aA,aH,Prod.mk.injEq]at e;obtain⟨g,e1,_,_,rfl⟩:=e;exact hnew e1 id b hb
    | newbx xs=>
      simp only[bC,aA,Prod.exists,aH,Prod.mk.injEq]at e
      obtain⟨ys,k1,g1,e1,g2,e2,_,_,rfl⟩:=e
      exact hnew e2 id b (hlist ih _ _ _ _ _ _ e1 id b hb)
    | agg xs=>
      simp only[bC,aA,Prod.exists,aH,Prod.mk.injEq]at e
      obtain⟨ys,k1,g1,e1,_,_,rfl⟩:=e
      exact hlist ih _ _ _ _ _ _ e1 id b hb
    | tuple xs=>
      simp only[bC,aA,Prod.exists,aH,Prod.mk.injEq]at e
      obtain⟨ys,k1,g1,e1,_,_,rfl⟩:=e
      exact hlist ih _ _ _ _ _ _ e1 id b hb
    |_=>simp only[bC,aH,Prod.mk.injEq]at e;obtain⟨_,_,rfl⟩:=e;exact hb
def Ae(P:Program)(C:bG)(cp:aC)(lvl:Nat)(all:List Oper)(o:Oper)(e:Env)(h:Heap)(e1:Env)(h1:Heap):Prop:=
  (nI all e o=some true/\ ∃ t y k,bZ P C cp e.get h.get o.op=some t/\bC lvl (o.dst.getD 0) 4 t (0,h)=some (y,k,h1)/\e1=dX e o.dst y)∨
  (nI all e o=some false/\h1=h/\e1=dX e o.dst (.v undef))
theorem Gx{C:bG}{cp:aC}{ci:bz}{lvl:Nat}{all:List Oper}: ∀ (k:Nat) (os:List Oper) (e:Env) (h:Heap) (e':Env) (h':Heap),k≤os.length→kK P C cp ci lvl all k os e h=some (e',h')→
    ∃ (es:Nat->Env) (hs:Nat->Heap),es 0=e/\hs 0=h/\(∀ i,i<k-> ∃ o,os[i]? =some o/\Ae P C cp lvl all o (es i) (hs i) (es (i+1)) (hs (i+1)))/\ji P C cp ci lvl all (os.drop k) (es k) (hs k)=some (e',h')
  |0,os,e,h,e',h',_,hq=>⟨λ_=>e,λ_=>h,rfl,rfl,λi hi=>by omega,by simpa only[kK,List.drop_zero]using hq⟩
  |k+1,[],e,h,e',h',hk,hq=>by simp at hk
  | k + 1,o::os,e,h,e',h',hk,hq=>by
    simp only[kK,aA]at hq
    obtain⟨wd,hw,hq⟩:=hq
    have go: ∀ e1 h1,Ae P C cp lvl all o e h e1 h1→kK P C cp ci lvl all k os e1 h1=some (e',h')→ ∃ (es:Nat→Env) (hs:Nat→Heap),es 0=e∧hs 0=h∧
        (∀ i,i<k+1-> ∃ o',(o::os)[i]? =some o'/\Ae P C cp lvl all o' (es i) (hs i) (es (i+1)) (hs (i+1)))/\ji P C cp ci lvl all ((o::os).drop (k+1)) (es (k+1)) (hs (k+1))=some (e',h'):=λe1 h1 hst hr=>by
      obtain⟨es,hs,q1,q2,q3,q4⟩:=Gx k os e1 h1 e' h' (by simpa using hk) hr
      refine⟨λi=>match i with|0=>e|i+1=>es i,λi=>match i with|0=>h|i+1=>hs i,rfl,rfl,λi hi=> ?_,by simpa using q4⟩
      cases i with
      |zero=>exact⟨o,rfl,by simpa only[q1,q2]using hst⟩
      |succ i=>obtain⟨o',h1,h2⟩:=q3 i ae;exact⟨o',by simpa using h1,h2⟩
    split at hq
    · rename_i hwd
      subst hwd
      simp only[aA,Prod.exists]at hq
      obtain⟨t,ht,y,k',h1,him,hq⟩:=hq
      exact go _ _ (.inl ⟨hw,t,y,k',ht,him,rfl⟩) hq
    · rename_i hwd
      have:wd=false:=by simpa using hwd
      subst this
      exact go _ _ (.inr ⟨hw,rfl,rfl⟩) hq
end
end Go.Av
