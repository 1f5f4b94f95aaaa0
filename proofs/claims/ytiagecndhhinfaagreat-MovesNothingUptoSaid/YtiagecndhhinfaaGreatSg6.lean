/- A region whose order is open, with a store among the quiet operations of its head. Conditions: none. -/
import Derived.Test.YtiagecndhhinfaaGreatSg7
set_option linter.unusedVariables false
namespace Go.Av
open Classical
section
variable {P:Program} {C:bG} {cp:aC} {ci:bz} {lvl n ps qs:Nat} {N:jq} {g0:Id->Option ak} {all:List Oper}
def Gs(P:Program)(C:bG)(cp:aC)(lvl:Nat)(g0:Id→Option ak)(q:Bool)(all:List Oper)(o:Oper)(e:Env)(h:Heap)(e1:Env)(h1:Heap):Prop:=
  (nI all e o=some true/\ ∃ t y k,nN P C cp q g0 e.get h o.op=some t/\bC lvl (o.dst.getD 0) 4 t (0,h)=some (y,k,h1)/\e1=dX e o.dst y)∨
  (nI all e o=some false/\h1=h/\e1=dX e o.dst (.v undef))
structure nJ (P:Program) (C:bG) (cp:aC) (lvl:Nat) (g0:Id→Option ak) (n ps qs:Nat) (all:List Oper) (es:Nat→Env) (hs:Nat→Heap):Prop where
  ok:Vh n ps qs all.toArray
  gn: ∀ p o,p<n->ps.testBit p=true->all[p]? =some o->o.guard=none
  step: ∀ i,i<n->ps.testBit i=false-> ∃ o,all[i]? =some o/\Gs P C cp lvl g0 (qs.testBit i) all o (es i) (hs i) (es (i+1)) (hs (i+1))
  skip: ∀ p,p<n->ps.testBit p=true->hs (p+1)=hs p/\ ∃ o y,all[p]? =some o/\es (p+1)=dX (es p) o.dst y
theorem GY{i:Nat}(h: ¬ ps.testBit i=true):ps.testBit i=false:=by simpa using h
theorem VB: ∀ (k i:Nat) (os:List Oper) (e:Env) (h:Heap) (e':Env) (h':Heap),mY P C cp lvl g0 all ps qs k i os e h=some (e',h')→
    ∃ (es:Nat→Env) (hs:Nat→Heap),es 0=e∧hs 0=h∧es k=e'∧hs k=h'∧(∀ j,j<k→ps.testBit (i+j)=false→ ∃ o,os[j]? =some o∧Gs P C cp lvl g0 (qs.testBit (i+j)) all o (es j) (hs j) (es (j+1)) (hs (j+1)))∧
      (∀ j,j<k->ps.testBit (i+j)=true->hs (j+1)=hs j/\ ∃ o y,os[j]? =some o/\es (j+1)=dX (es j) o.dst y)
  | 0,i,os,e,h,e',h',hq=>by
    simp only[mY,aH,Prod.mk.injEq]at hq
    obtain⟨rfl,rfl⟩:=hq
    exact⟨λ_=>e,λ_=>h,rfl,rfl,rfl,rfl,λj hj=>by omega,λj hj=>by omega⟩
  |k+1,i,[],e,h,e',h',hq=>by simp[mY]at hq
  | k + 1,i,o::os,e,h,e',h',hq=>by
    have go: ∀ e1 h1,(ps.testBit i=false→Gs P C cp lvl g0 (qs.testBit i) all o e h e1 h1)→(ps.testBit i=true→h1=h∧ ∃ y,e1=dX e o.dst y)→mY P C cp lvl g0 all ps qs k (i+1) os e1 h1=some (e',h')→
        ∃ (es:Nat->Env) (hs:Nat->Heap),es 0=e/\hs 0=h/\es (k+1)=e'/\hs (k+1)=h'/\
        (∀ j,j<k+1->ps.testBit (i+j)=false-> ∃ o',(o::os)[j]? =some o'/\Gs P C cp lvl g0 (qs.testBit (i+j)) all o' (es j) (hs j) (es (j+1)) (hs (j+1)))/\(∀ j,j<k+1->ps.testBit (i+j)=true->hs (j+1)=hs j/\ ∃ o' y,(o::os)[j]? =some o'/\es (j+1)=dX (es j) o'.dst y):=λe1 h1 hst hsk hr=>by
      obtain⟨es,hs,q1,q2,q3,q4,q5,q6⟩:=VB k (i+1) os e1 h1 e' h' hr
      refine⟨λj=>match j with|0=>e|j+1=>es j,λj=>match j with|0=>h|j+1=>hs j,rfl,rfl,q3,q4,λj hj hne=> ?_,λj hj he=> ?_⟩
      · cases j with
        |zero=>exact⟨o,rfl,by simpa only[q1,q2,Nat.add_zero]using hst (by simpa using hne)⟩
        | succ j=>
          obtain⟨o',h1,h2⟩:=q5 j ae (by rw[show i+1+j=i+(j+1)by omega];exact hne)
          refine⟨o',by simpa using h1,?_⟩
          rw[show i+(j+1)=i+1+j by omega]
          exact h2
      · cases j with
        | zero=>
          obtain⟨z1,y,z2⟩:=hsk (by simpa using he)
          exact⟨by simpa only[q1,q2]using z1,o,y,rfl,by simpa only[q1,q2]using z2⟩
        | succ j=>
          obtain⟨z1,o',y,z2,z3⟩:=q6 j ae (by rw[show i+1+j=i+(j+1)by omega];exact he)
          exact⟨z1,o',y,by simpa using z2,z3⟩
    simp only[mY]at hq
    split at hq
    · rename_i hip
      exact go _ h (λhne=>absurd hip (by rw[hne];decide)) (λ_=>⟨rfl,_,rfl⟩) hq
    · rename_i hip
      simp only[aA]at hq
      obtain⟨wd,hw,hq⟩:=hq
      split at hq
      · rename_i hwd
        subst hwd
        simp only[aA,Prod.exists]at hq
        obtain⟨t,ht,y,k',h1,him,hq⟩:=hq
        exact go _ _ (λ_=> .inl ⟨hw,t,y,k',ht,him,rfl⟩) (λh=>absurd h hip) hq
      · rename_i hwd
        have:wd=false:=by simpa using hwd
        subst this
        exact go _ _ (λ_=> .inr ⟨hw,rfl,rfl⟩) (λh=>absurd h hip) hq
variable {es:Nat->Env} {hs:Nat->Heap}
theorem nJ.at_(c:nJ P C cp lvl g0 n ps qs all es hs){i:Nat}(hi:i<n)(hne:ps.testBit i=false): ∃ o d,all[i]? =some o∧all.toArray[i]? =some o∧o.dst=some d∧ ∃ y,(es (i+1))=(es i).set d y∧
    (∀ id b,(hs i).get id=some b->(hs (i+1)).get id=some b)/\Others lvl d (hs i) (hs (i+1))/\
    ((nI all (es i) o=some true/\ ∃ t k,nN P C cp (qs.testBit i) g0 (es i).get (hs i) o.op=some t/\bC lvl d 4 t (0,hs i)=some (y,k,hs (i+1)))∨(nI all (es i) o=some false/\hs (i+1)=hs i/\y= .v undef)):=by
  obtain⟨o,ho,hst⟩:=c.step i hi hne
  have ho':all.toArray[i]? =some o:=by simpa using ho
  obtain⟨d,hd⟩:=c.ok.dst i o hi hne ho'
  refine⟨o,d,ho,ho',hd,?_⟩
  rcases hst with⟨hw,t,y,k,ht,him,he⟩|⟨hw,hh,he⟩
  · rw[hd]at him he
    obtain⟨_,_,_,h3,_⟩:=Lj lvl d 4 t 0 (hs i) y k (hs (i+1)) (hs i) (λ_=>rfl) him
    exact⟨y,he,aaw lvl d 4 t 0 (hs i) y k (hs (i+1)) him,h3,.inl ⟨hw,t,k,ht,him⟩⟩
  · rw[hd]at he
    exact⟨_,he,λid b hb=>by rw[hh];exact hb,by rw[hh];exact .refl _ _ _,.inr ⟨hw,hh,rfl⟩⟩
theorem nJ.at2(c:nJ P C cp lvl g0 n ps qs all es hs){i d:Nat}(hi:i<n)(h:(all.toArray[i]?).bind (·.dst)=some d): ∃ o,all.toArray[i]? =some o∧o.dst=some d∧o.dst.isNone=false∧ ∃ y,es (i+1)=(es i).set d y∧
    (∀ id b,(hs i).get id=some b->(hs (i+1)).get id=some b)/\Others lvl d (hs i) (hs (i+1)):=by
  cases hb:ps.testBit i with
  | true=>
    obtain⟨hh,o,y,ho,he⟩:=c.skip i hi hb
    have ho':all.toArray[i]? =some o:=by simpa using ho
    have hd:o.dst=some d:=by rw[ho']at h;exact h
    refine⟨o,ho',hd,by rw[hd];rfl,y,by rw[he,hd];rfl,λid b hb=>by rw[hh];exact hb,by rw[hh];exact .refl _ _ _⟩
  | false=>
    obtain⟨o,d',_,ho,hd,y,he,hk,hoth,_⟩:=c.at_ hi hb
    have hdd:o.dst=some d:=by rw[ho]at h;exact h
    have:d'=d:=by rw[hd]at hdd;injection hdd
    subst this
    exact⟨o,ho,hd,by rw[hd];rfl,y,he,hk,hoth⟩
theorem nJ.keeps(c:nJ P C cp lvl g0 n ps qs all es hs): ∀ i j,i≤j→j≤n→ ∀ id b,(hs i).get id=some b→(hs j).get id=some b:=by
  intro i j hij hj id b hb
  induction j with
  | zero => have:i=0:=ae
            subst this;exact hb
  | succ j ih=>
    by_cases h:i=j+1
    · subst h;exact hb
    · by_cases hjp:ps.testBit j=true
      · rw[(c.skip j ae hjp).1];exact ih ae ae
      · obtain⟨o,d,_,_,_,y,_,hk,_⟩:=c.at_ (i:=j) ae (GY hjp)
        exact hk id b (ih ae ae)
theorem nJ.env(c:nJ P C cp lvl g0 n ps qs all es hs): ∀ i,i≤n→ ∀ k,(es i).get k=iq all.toArray n (es 0).get (es n).get (· <i) k:=by
  have fwd : ∀ i m k,i≤m→m≤n→(∀ j,i≤j→j<m→(all.toArray[j]?).bind (·.dst)≠some k)→(es m).get k=(es i).get k:=by
    intro i m k him hm hno
    induction m with
    | zero => have:i=0:=ae
              subst this;rfl
    | succ m ih=>
      by_cases h:i=m+1
      · subst h;rfl
      · by_cases hmp:ps.testBit m=true
        · obtain⟨_,o,y,ho,he⟩:=c.skip m ae hmp
          have ho':all.toArray[m]? =some o:=by simpa using ho
          have e1:(es (m+1)).get k=(es m).get k:=by
            rw[he]
            cases hd:o.dst with
            |none=>rfl
            |some d=>exact uY _ _ _ _ λhk=>hno m ae ae (by rw[dst_at ho',hd,hk])
          rw[e1]
          exact ih ae ae λj h1 h2=>hno j h1 ae
        · obtain⟨o,d,_,ho,hd,y,he,_⟩:=c.at_ (i:=m) ae (GY hmp)
          rw[he,uY _ _ _ _ λhk=>hno m ae ae (by rw[dst_at ho,hd,hk])]
          exact ih ae ae λj h1 h2=>hno j h1 ae
  intro i hi k
  unfold iq
  split
  · rename_i hex
    obtain⟨j,hjn,hji,hjd⟩:=hex
    symm
    refine fwd i n k hi (Nat.le_refl _) λm h1 h2 hm=> ?_
    obtain⟨oj,hoj,hdj,hjp,_⟩:=c.at2 hjn hjd
    obtain⟨om,hom,hdm,hmp,_⟩:=c.at2 h2 hm
    rw[dst_at hoj]at hjd
    rw[dst_at hom]at hm
    have:=c.ok.one m j om oj h2 hjn hmp hom hoj (hjd.trans hm.symm)
    omega
  · rename_i hex
    exact fwd 0 i k (Nat.zero_le _) hi λj _ h2 hj=>hex ⟨j,by omega,h2,hj⟩
theorem nJ.heap(c:nJ P C cp lvl g0 n ps qs all es hs): ∀ i,i≤n→ ∀ id,(hs i).get id=jw all.toArray n lvl (hs 0) (hs n) (· <i) id:=by
  have fwd : ∀ i m (id:Id),i≤m→m≤n→(∀ j,i≤j→j<m→ ¬ (id.1=lvl∧(all.toArray[j]?).bind (·.dst)=some id.2.1))→(hs m).get id=(hs i).get id:=by
    intro i m id him hm hno
    induction m with
    | zero => have:i=0:=ae
              subst this;rfl
    | succ m ih=>
      by_cases h:i=m+1
      · subst h;rfl
      · by_cases hmp:ps.testBit m=true
        · rw[(c.skip m ae hmp).1];exact ih ae ae λj h1 h2=>hno j h1 ae
        · obtain⟨o,d,_,ho,hd,y,_,_,hoth,_⟩:=c.at_ (i:=m) ae (GY hmp)
          rw[hoth id λhk=>hno m ae ae ⟨hk.1,by rw[dst_at ho,hd,hk.2]⟩]
          exact ih ae ae λj h1 h2=>hno j h1 ae
  intro i hi id
  unfold jw
  split
  · rename_i hex
    obtain⟨hl,j,hjn,hji,hjd⟩:=hex
    symm
    refine fwd i n id hi (Nat.le_refl _) λm h1 h2 hm=> ?_
    obtain⟨oj,hoj,hdj,hjp,_⟩:=c.at2 hjn hjd
    obtain⟨om,hom,hdm,hmp,_⟩:=c.at2 h2 hm.2
    rw[dst_at hoj]at hjd
    have hm2:=hm.2
    rw[dst_at hom]at hm2
    have:=c.ok.one m j om oj h2 hjn hmp hom hoj (hjd.trans hm2.symm)
    omega
  · rename_i hex
    exact fwd 0 i id (Nat.zero_le _) hi λj _ h2 hj=>hex ⟨hj.1,j,by omega,h2,hj.2⟩
structure sZ (P:Program) (lvl:Nat) (g0:Id→Option ak) (n ps:Nat) (all:List Oper) (e:Env) (h:Heap) (hst:Nat→Heap) (sid:Nat→Id) (sb:Nat→ak):Prop where
  zero:hst 0=h
  step: ∀ i,i<n->ps.testBit i=true->(∃ o,all[i]? =some o/\nT P lvl g0 n i all (e,hst i) o=some (sid i,sb i))/\hst (i+1)=(hst i).set (sid i) (sb i)
  skip: ∀ i,i<n->ps.testBit i=false->hst (i+1)=hst i
theorem adk{n:Nat}{e:Env}: ∀ (k i:Nat) (h h':Heap),o5 P lvl g0 n all ps k i (e,h)=some h'→ ∃ (hst:Nat→Heap) (sid:Nat→Id) (sb:Nat→ak),hst i=h∧hst (i+k)=h'∧
    ∀ j,i<=j->j<i+k->(ps.testBit j=true->(∃ o,all[j]? =some o/\nT P lvl g0 n j all (e,hst j) o=some (sid j,sb j))/\hst (j+1)=(hst j).set (sid j) (sb j))/\(ps.testBit j=false->hst (j+1)=hst j)
  | 0,i,h,h',hq=>by
    simp only[o5,aH]at hq
    subst hq
    exact⟨λ_=>h,λ_=>(0,0,0),λ_=> .bx true [],rfl,rfl,λj h1 h2=>by omega⟩
  | k + 1,i,h,h',hq=>by
    simp only[o5]at hq
    have go: ∀ (h1:Heap) (s:Id×ak),(ps.testBit i=true→(∃ o,all[i]? =some o∧nT P lvl g0 n i all (e,h) o=some s)∧h1=h.set s.1 s.2)→(ps.testBit i=false→h1=h)→o5 P lvl g0 n all ps k (i+1) (e,h1)=some h'→
        ∃ (hst:Nat->Heap) (sid:Nat->Id) (sb:Nat->ak),hst i=h/\hst (i+(k+1))=h'/\
    ∀ j, i≤j→j<i+(k+1)→(ps.testBit j=true→(∃ o,all[j]? =some o∧nT P lvl g0 n j all (e,hst j) o=some (sid j,sb j))∧hst (j+1)=(hst j).set (sid j) (sb j))∧(ps.testBit j=false→hst (j+1)=hst j):=fun h1 s ht hf hr=>by
      obtain⟨hst,sid,sb,q1,q2,q3⟩:=adk k (i+1) h1 h' hr
      refine⟨λj=>if j<=i then h else hst j,λj=>if j=i then s.1 else sid j,λj=>if j=i then s.2 else sb j,by simp,?_,λj hj1 hj2=> ?_⟩
      · simp only
        rw[if_neg ae,show i+(k+1)=i+1+k by omega];exact q2
      · simp only
        rw[if_neg (show ¬ j+1<=i by omega)]
        by_cases hji:j=i
        · subst hji
          rw[if_pos (Nat.le_refl _),if_pos rfl,if_pos rfl,q1]
          exact⟨ht,hf⟩
        · rw[if_neg (show ¬ j≤i by omega),if_neg hji,if_neg hji]
          exact q3 j ae ae
    split at hq
    · rename_i hb
      simp only[aA]at hq
      obtain⟨o,ho,s,hs,hq⟩:=hq
      exact go _ s (λ_=>⟨⟨o,ho,hs⟩,rfl⟩) (λhf=>absurd hb (by rw[hf];decide)) hq
    · rename_i hb
      exact go h ((0,0,0),.bx true []) (λht=>absurd ht hb) (λ_=>rfl) hq
def o9(ps:Nat)(sid:Nat->Id)(c:Nat)(id:Id):Prop:= ∃ q,q<c/\ps.testBit q=true/\sid q=id
theorem sZ.un{e:Env}{h:Heap}{hst:Nat→Heap}{sid:Nat→Id}{sb:Nat→ak}(cs:sZ P lvl g0 n ps all e h hst sid sb){id:Id}: ∀ c,c≤n→ ¬ o9 ps sid c id→(hst c).get id=h.get id
  |0,_,_=>by rw[cs.zero]
  | c +1,hc,hn=>by
    have hn': ¬ o9 ps sid c id:=λ⟨q,h1,h2,h3⟩=>hn ⟨q,by omega,h2,h3⟩
    have ih:=cs.un c ae hn'
    cases hb:ps.testBit c with
    | true=>
      rw[(cs.step c ae hb).2,jU _ _ _ _ (λhh=>hn ⟨c,by omega,hb,hh.symm⟩)];exact ih
    |false=>rw[cs.skip c ae hb];exact ih
theorem sZ.same{e:Env}{h:Heap}{hst:Nat→Heap}{sid:Nat→Id}{sb:Nat→ak}(cs:sZ P lvl g0 n ps all e h hst sid sb){c:Nat}: ∀ d,c≤d→d≤n→(∀ q,c≤q→q<d→ps.testBit q=false)→hst d=hst c
  |0,h1,_,_=>by rw[show c=0 by omega]
  | d +1,h1,h2,h3=>by
    by_cases hcd:c=d+1
    · rw[hcd]
    · rw[cs.skip d ae (h3 d ae ae)]
      exact cs.same d ae ae λq a b=>h3 q a ae
noncomputable def heap2(ops:Array Oper)(n lvl ps:Nat)(sid:Nat→Id)(hst:Nat→Heap)(c:Nat)(h Hf:Heap)(L:Nat→Prop)(id:Id):Option ak:=
  if o9 ps sid c id then(hst c).get id else jw ops n lvl h Hf L id
structure tu (w0:World) (F0:Nat→Prop) (h0:Heap) (M0:Id→Option Nat) (N:jq) (lvl n ps:Nat) (sid:Nat→Id) (hst:Nat→Heap) (all:List Oper) (es:Nat→Env) (hs:Nat→Heap) (L:Nat→Prop) (a:Act) (w:World):Prop where
  st: ∃ c F M hS,c<=n/\(∀ q,q<n->ps.testBit q=true->(L q ↔ q<c))/\aQ w.heap F hS M/\fK w.heap F hS M (iq all.toArray n (es 0).get (es n).get L) a/\bn All w0 F0 h0 M0 w F hS M/\ ∀ id,hS.get id=heap2 all.toArray n lvl ps sid hst c (hs 0) (hs n) L id
  size:rX N a
  defers:a.defers=N.ds
theorem nJ.slot(c:nJ P C cp lvl g0 n ps qs all es hs){L:Nat→Prop}(hcl: ∀ j oj,all.toArray[j]? =some oj→L j→ ∀ e ∈ oj.after,Region.binds .any e=true→L e.on){i:Nat}(hi:i<n)(hnL: ¬ L i){o:Oper}(ho:all.toArray[i]? =some o)
    (hpre: ∀ e ∈ o.after,Region.binds .any e=true->L e.on) {t:Tmp} (ht:t ∈ o.looksAt all.toArray):iq all.toArray n (es 0).get (es n).get L t=(es i).get t:=by
  rw[c.env i ae t]
  unfold iq
  by_cases hex: ∃ j,j<n/\(all.toArray[j]?).bind (·.dst)=some t
  · obtain⟨j,hjn,hjd⟩:=hex
    obtain⟨oj,hoj,hdj,hjp,_⟩:=c.at2 hjn hjd
    rw[dst_at hoj]at hjd
    have huniq: ∀ m,m<n→(all.toArray[m]?).bind (·.dst)=some t→m=j:=fun m hm hmd=>by
      obtain⟨om,hom,hdm,hmp,_⟩:=c.at2 hm hmd
      rw[dst_at hom]at hmd
      exact c.ok.one j m oj om hjn hm hjp hoj hom (hmd.trans hjd.symm)
    obtain⟨hji,hor⟩:=c.ok.data i j o oj t hi hjn ho hoj ht hjd
    rcases hor with hw|⟨_,hw⟩
    · obtain⟨o2,ho2,e,hee,hb,hon⟩:=Region.waitsFor_spec hw
      rw[ho]at ho2;injection ho2 with ho2;subst ho2
      have hLj:L j:=hon ▸ hpre e hee hb
      have hlt:j<i:=hon ▸ c.ok.back i o hi ho e hee hb
      rw[if_pos ⟨j,hjn,hLj,by rw[dst_at hoj,hjd]⟩,if_pos ⟨j,hjn,hlt,by rw[dst_at hoj,hjd]⟩]
    · obtain⟨o2,ho2,e,hee,hb,hon⟩:=Region.waitsFor_spec hw
      rw[hoj]at ho2;injection ho2 with ho2;subst ho2
      have hlt:i<j:=hon ▸ c.ok.back j oj hjn hoj e hee hb
      rw[if_neg,if_neg]
      · rintro⟨m,hm,hml,hmd⟩
        have:=huniq m hm hmd
        omega
      · rintro⟨m,hm,hml,hmd⟩
        have:=huniq m hm hmd
        subst this
        exact hnL (hon ▸ hcl m oj hoj hml e hee hb)
  · rw[if_neg,if_neg]
    · rintro⟨m,hm,_,hmd⟩;exact hex ⟨m,hm,hmd⟩
    · rintro⟨m,hm,_,hmd⟩;exact hex ⟨m,hm,hmd⟩
theorem aa2{o:Oper}{ops:Array Oper}{t:Tmp}(ht:t ∈ reads o.op):t ∈ o.looksAt ops:=by
  obtain⟨x,hx,hxt⟩:=List.mem_filterMap.1 ht
  have hxe:x= .tmp t:=by
    cases x <;> simp at hxt
    rw[hxt]
  subst hxe
  exact List.mem_append_left _ (List.mem_filterMap.2 ⟨.tmp t,hx,rfl⟩)
def xg:ak→Bool
  | .bx _ _=>true
  |_=>false
theorem atc{p:Nat}{c:Bool}{t:TypeId}{id id0:Id}{off xt:Nat}{y:AV}{b b0:ak}(hq:BI P lvl g0 n p all c t id off xt y b=some (id0,b0)):c=true∧id0=id∧g0 id0=none∧y.cells.length=bD P t∧0<bD P t∧
    (id0.1=lvl-> ∀ j,j<n->(all.toArray[j]?).bind (·.dst)=some id0.2.1->Region.waitsFor .any all.toArray p j=true)/\b0.ext=b.ext/\xg b0=xg b/\ ∀ hS:Heap,hS.get id=some b->lh hS (.ptr id off (xt+1)) y=some (hS.set id b0):=by
  unfold BI at hq
  split at hq
  · rename_i sz ext cells
    split at hq
    · rename_i k z
      split at hq
      · rename_i hc
        obtain⟨c1,c0,c3,c4,c5,c6⟩:=hc
        simp only[aH,Prod.mk.injEq]at hq
        obtain⟨rfl,rfl⟩:=hq
        refine⟨c1,rfl,by simpa using c0,by rw[c4];rfl,by omega,λhlv j hj hh=> ?_,rfl,rfl,λhS hg=> ?_⟩
        · have:=List.all_eq_true.1 ((Bool.or_eq_true_iff.1 c6).resolve_left (by simp[hlv])) j (List.mem_range.2 hj)
          simp only[Bool.or_eq_true,bne_iff_ne,ne_eq]at this
          rcases this with h|h
          · exact absurd (by simpa using hh) h
          · exact h
        · unfold lh
          simp only[hg,Option.bind_some]
          rw[if_pos ⟨c3,c5,rfl⟩]
          have e1:(AV.v (.int k z)).cells.mapM (aG hS.get 4)=some [.v (.int k z)]:=rfl
          have e2:(dV hS (((AV.v (.int k z)).cells.map (aW hS.get 4)).flatten))=hS:=rfl
          rw[e1,e2]
          simp only[Option.bind_some,hg]
      · cases hq
    · cases hq
  · cases hq
theorem atg{p:Nat}{r:Env×Heap}{o:Oper}{id0:Id}{b0:ak}(hst: ∃ t a x,o.op= .store t a x)(hq:nT P lvl g0 n p all r o=some (id0,b0)):o.dst=none∧o.guard=none∧g0 id0=none∧ ∃ t a x off xt y b,o.op= .store t a x∧aB r.1.get a=some (.ptr id0 off xt)∧aB r.1.get x=some y∧
    r.2.get id0=some b/\y.cells.length=bD P t/\0<bD P t/\(id0.1=lvl-> ∀ j,j<n->(all.toArray[j]?).bind (·.dst)=some id0.2.1->Region.waitsFor .any all.toArray p j=true)/\b0.ext=b.ext/\xg b0=xg b/\ ∀ hS:Heap,hS.get id0=some b->lh hS (.ptr id0 off xt) y=some (hS.set id0 b0):=by
  unfold nT at hq
  split at hq
  · rename_i t a x hop
    simp only[aA]at hq
    obtain⟨q,hqa,y,hy,hq⟩:=hq
    split at hq
    · rename_i id off
      simp only[aA]at hq
      obtain⟨b,hb,hq⟩:=hq
      split at hq
      · rename_i cells
        split at hq
        · rename_i hc
          obtain⟨c1,c2,c0,c3,c4,c5,c6,c7⟩:=hc
          simp only[aH,Prod.mk.injEq]at hq
          obtain⟨rfl,rfl⟩:=hq
          refine⟨by simpa using c1,by simpa using c2,by simpa using c0,t,a,x,off,0,y,.bx true cells,hop,hqa,hy,hb,c3,c4,λhlv j hj hh=> ?_,rfl,rfl,λhS hg=> ?_⟩
          · have:=List.all_eq_true.1 ((Bool.or_eq_true_iff.1 c7).resolve_left (by simp[hlv])) j (List.mem_range.2 hj)
            simp only[Bool.or_eq_true,bne_iff_ne,ne_eq]at this
            rcases this with h|h
            · exact absurd (by simpa using hh) h
            · exact h
          · simp only[lh,hg,Option.bind_some]
            rw[if_pos ⟨rfl,c5,c6⟩]
        · cases hq
      · cases hq
    · rename_i id off xt
      simp only[aA]at hq
      obtain⟨b,hb,hq⟩:=hq
      obtain⟨c1,rfl,c0,c3,c4,c5,c6,cB,c7⟩:=atc hq
      simp only[Bool.and_eq_true]at c1
      exact⟨by simpa using c1.1,by simpa using c1.2,c0,t,a,x,off,xt+1,y,b,hop,hqa,hy,hb,c3,c4,c5,c6,cB,c7⟩
    · cases hq
  · rename_i hop
    obtain⟨t,a,x,h⟩:=hst
    rw[hop]at h;cases h
  · cases hq
def Wt(all:List Oper)(lvl n p:Nat)(id:Id):Prop:=id.1=lvl-> ∀ j,j<n->(all.toArray[j]?).bind (·.dst)=some id.2.1->Region.waitsFor .any all.toArray p j=true
theorem Tu{p:Nat}{id:Id}(h:vH lvl n p all id=true):Wt all lvl n p id:=fun hlv j hj hh=>by
  have:=List.all_eq_true.1 ((Bool.or_eq_true_iff.1 h).resolve_left (by simp[hlv])) j (List.mem_range.2 hj)
  simp only[Bool.or_eq_true,bne_iff_ne,ne_eq]at this
  rcases this with h|h
  · exact absurd (by simpa using hh) h
  · exact h
theorem asq{id:Id}{k:Nat}{y:Option AV}(h:Ey id k y=true):y=some (.own id 0 k k):=by
  unfold Ey at h
  split at h
  · simp only[Bool.and_eq_true,beq_iff_eq,decide_eq_true_eq]at h
    obtain⟨⟨rfl,rfl⟩,rfl⟩:=h
    rfl
  · cases h
theorem EE{p:Nat}{r:Env×Heap}{o:Oper}{id0:Id}{b0:ak}(hq:nT P lvl g0 n p all r o=some (id0,b0)):o.guard=none∧g0 id0=none∧Wt all lvl n p id0∧(∃ b,r.2.get id0=some b∧xg b0=xg b)∧
    ∃ y,(∀ d,o.dst=some d→r.1.get d=some y)∧ ∀ (e':Nat→Option AV) (hS:Heap),(∀ z:Operand,z ∈ o.op.operands→aB e' z=aB r.1.get z)→(∀ id b,Wt all lvl n p id→r.2.get id=some b→hS.get id=some b)→
      aS P lvl e' hS (o.dst.getD 0) o.op=some (y,hS.set id0 b0):=by
  by_cases hst: ∃ t a x,o.op= .store t a x
  · obtain⟨t0,a0,x0,hop0⟩:=hst
    obtain⟨hdn,hgn,c0,t,ad,x,off,xt,y,bo,hop,had,hxy,hg0,c3,c4,hid,hex0,hbB,hsb⟩:=atg ⟨t0,a0,x0,hop0⟩ hq
    refine⟨hgn,c0,hid,⟨bo,hg0,hbB⟩,.v undef,(λd hd=>by rw[hdn]at hd;cases hd),λe' hS hops hacc=> ?_⟩
    have e1:=hops ad (by rw[hop];simp[Op.operands])
    have e2:=hops x (by rw[hop];simp[Op.operands])
    rw[hop]
    simp only[aS]
    rw[e1,e2,had,hxy]
    simp only[Option.bind_some]
    rw[if_pos ⟨c3,c4⟩,hsb _ (hacc id0 bo hid hg0)]
    rfl
  · unfold nT at hq
    split at hq
    · rename_i t a x hop
      exact absurd ⟨t,a,x,hop⟩ hst
    · rename_i a b ts hop
      simp only[aA]at hq
      obtain⟨t,ht,t',ht',tv,htv,hq⟩:=hq
      unfold LG at hq
      split at hq
      · rename_i el esz by_
        simp only[aA]at hq
        obtain⟨z,hz,x,hx,y,hy,hq⟩:=hq
        unfold BG at hq
        split at hq
        · rename_i id k ext id2 off2 m ext2
          simp only[aA]at hq
          obtain⟨b1,hb1,b2,hb2,hq⟩:=hq
          unfold EC at hq
          split at hq
          · rename_i sz ext' cells rw2 sz2 e2 cells2
            split at hq
            · rename_i hc
              obtain⟨c1,c2,rfl,rfl,rfl,rfl,c3,c4,c5,c6⟩:=hc
              simp only[aH,Prod.mk.injEq]at hq
              obtain⟨rfl,rfl⟩:=hq
              simp only[Bool.and_eq_true,decide_eq_true_eq]at c1
              obtain⟨⟨⟨⟨⟨⟨⟨d1,d2⟩,d3⟩,d4⟩,d5⟩,d6⟩,d7⟩,d8⟩:=c1
              have hown:=asq c2
              refine⟨by simpa using d4,by simpa using d6,Tu d7,⟨_,hb1,rfl⟩,_,(λd hd=>by rw[hd]at hown;exact hown),λe' hS hops hacc=> ?_⟩
              have e1:=hops a (by rw[hop];simp[Op.operands,Call.operands])
              have e2':=hops b (by rw[hop];simp[Op.operands,Call.operands])
              have g1:=hacc id _ (Tu d7) hb1
              have g2:=hacc id2 _ (Tu d8) hb2
              rw[hop]
              subst d1
              simp only[aS,aZ,e1,e2',hx,hy,Option.bind_some,ht,ht',htv,hz,if_true]
              rw[if_pos ⟨d2,d3⟩]
              have hn:l7 hS.get (.own id2 off2 m e2)=some (m,cut cells2 off2 m sz2 e2):=by
                unfold l7
                simp only[aG,g2,Option.bind_some,if_true]
              have hi:inner hS.get (.own id2 off2 m e2)=[]:=by
                unfold inner
                simp only[g2]
              rw[hn]
              simp only[Option.bind_some,hi,dV,g1,c3,c4,c5,c6,and_self,if_true]
            · cases hq
          · cases hq
        · cases hq
      · cases hq
    · cases hq
theorem sZ.bx{e:Env}{h:Heap}{hst:Nat→Heap}{sid:Nat→Id}{sb:Nat→ak}(cs:sZ P lvl g0 n ps all e h hst sid sb): ∀ {c:Nat} (hc:c≤n) {id:Id} {blk:ak} (hb:(hst c).get id=some blk),∃ b0,h.get id=some b0∧xg blk=xg b0
  |0,_,id,blk,hb=>⟨blk,by rw[← cs.zero];exact hb,rfl⟩
  | c + 1,hc,id,blk,hb=>by
    cases hbc:ps.testBit c with
    | false=>
      rw[cs.skip c ae hbc]at hb
      exact cs.bx ae hb
    | true=>
      obtain⟨⟨o,ho,hls⟩,hst1⟩:=cs.step c ae hbc
      rw[hst1]at hb
      by_cases hi:id=sid c
      · subst hi
        rw[get_set_same]at hb
        injection hb with hb
        obtain⟨_,_,_,⟨b,hg,he⟩,_⟩:=EE hls
        obtain⟨b0,h1,h2⟩:=cs.bx ae hg
        exact⟨b0,h1,by rw[← hb,he,h2]⟩
      · rw[jU _ _ _ _ hi]at hb
        exact cs.bx ae hb
theorem aw3{H:Array Obj}{F:Nat→Prop}{hS:Heap}{M:Id→Option Nat}{e:Nat→Option AV}{a:Act}(he:fK H F hS M e a){x:Operand}{id:Id}{off:Nat}(hx:aB e x=some (.ptr id off 0)): ∃ blk,hS.get id=some blk:=by
  cases x with
  | tmp t=>
    have:=he t _ hx
    generalize a.tmps.getD t undef=u at this
    cases this with
    |c hc=>cases hc
    |ptr hg _ _=>exact⟨_,hg⟩
  | const v=>
    simp only[aB,aH]at hx
    unfold lift at hx
    split at hx <;> cases hx
  |global=>cases hx
  |func=>simp[aB]at hx
theorem ath{H:Array Obj}{F:Nat→Prop}{h hS:Heap}{M:Id→Option Nat}{e e':Nat→Option AV}{a:Act}(he:fK H F hS M e' a){o:Op}(hs: ∀ t ∈ reads o,e' t=e t)
    (hbx: ∀ id rw cells blk,h.get id=some (.bx rw cells)->hS.get id=some blk->blk.ext=0) {t:AV} (hq:xh P e h o=some t):bZ P C cp e' hS.get o=some t:=by
  have hop: ∀ x ∈ o.operands,aB e' x=aB e x:=λx hx=>MC (e:=e) (e':=e') (o:=o) hs hx
  have hlive: ∀ {x:Operand} {id:Id} {off:Nat} {rw:Bool} {cells:List AV},aB e' x=some (.ptr id off 0)→h.get id=some (.bx rw cells)→live hS.get id 0=true:=fun hx hh=>by
    obtain⟨blk,hb⟩:=aw3 he hx
    unfold live
    rw[hb]
    simp[hbx _ _ _ _ hh hb]
  unfold xh at hq
  split at hq
  · rename_i x
    simp only[aA]at hq
    obtain⟨y,hy,hq⟩:=hq
    rw[← hop x (by simp[Op.operands])]at hy
    unfold LK at hq
    split at hq
    · rename_i id off
      simp only[aA]at hq
      obtain⟨b,hb,hq⟩:=hq
      unfold LM at hq
      split at hq
      · injection hq with hq;subst hq
        show(aB e' x).bind _=_
        rw[hy]
        show(if live hS.get id 0=true then _ else _)=_
        rw[if_pos (hlive hy hb)]
      · cases hq
    · cases hq
  · rename_i s x i
    simp only[aA]at hq
    obtain⟨y,hy,hq⟩:=hq
    rw[← hop x (by simp[Op.operands])]at hy
    unfold LH at hq
    split at hq
    · rename_i id off
      simp only[aA]at hq
      obtain⟨b,hb,hq⟩:=hq
      unfold ED at hq
      split at hq
      · simp only[aA]at hq
        obtain⟨r,hr,hq⟩:=hq
        show(aB e' x).bind _=_
        rw[hy]
        show nK P s hS.get (.ptr id off 0) i=_
        unfold nK
        rw[hr]
        obtain⟨o1,t1⟩:=r
        show(if bD P t1=0 then none else if live hS.get id 0=true then _ else _)=_
        rw[if_pos (hlive hy hb)]
        exact hq
      · cases hq
    · cases hq
  · cases hq
theorem tu.next(hg00: ∀ id b,g0 id=some b→(hs 0).get id=some b)(c:nJ P C cp lvl g0 n ps qs all es hs)(hcp:aK P cp){sid:Nat→Id}{hst:Nat→Heap}{sb:Nat→ak}(cs:sZ P lvl g0 n ps all (es n) (hs n) hst sid sb)(hid: ∀ p,p<n→ps.testBit p=true→(sid p).1=lvl→ ∀ j,j<n→(all.toArray[j]?).bind (·.dst)=some (sid p).2.1→Region.waitsFor .any all.toArray p j=true)(hg0n: ∀ p,p<n→ps.testBit p=true→g0 (sid p)=none){w0:World}{F0:Nat→Prop}{h0:Heap}{M0:Id→Option Nat}{L:Nat→Prop}{a:Act}{w:World}
    (m:tu w0 F0 h0 M0 N lvl n ps sid hst all es hs L a w)
    (hcl: ∀ j oj,all.toArray[j]? =some oj->L j-> ∀ e ∈ oj.after,Region.binds .any e=true->L e.on) {i:Nat} (hi:i<n) (hip:ps.testBit i=false) (hnL: ¬ L i) {o:Oper} (ho:all.toArray[i]? =some o)
    (hpre: ∀ e ∈ o.after,Region.binds .any e=true->L e.on) (hdst:jD N o=true) {K:Act->World->Prop} {Q:Exit->Act->World->Prop}
    (hK: ∀ a' w',tu w0 F0 h0 M0 N lvl n ps sid hst all es hs (λj=>j=i∨L j) a' w'->K a' w'):
    if Region.wanted o (yielded all.toArray a.tmps)=true then o.wp P a w K Q else K (a.put o.dst undef) w:=by
  obtain⟨o',d,ho1,ho2,hd,y,hey,hkeep,hoth,hcase⟩:=c.at_ hi hip
  rw[ho]at ho2;injection ho2 with ho2;subst ho2
  obtain⟨ct,F,M,hS,hcn,hcut,hk,he,ev,hget⟩:=m.st
  have hdN:=pM hdst d hd
  have hslot: ∀ t ∈ o.looksAt all.toArray,iq all.toArray n (es 0).get (es n).get L t=(es i).get t:=λt ht=>c.slot hcl hi hnL ho hpre ht
  have hread: ∀ t ∈ reads o.op,iq all.toArray n (es 0).get (es n).get L t=(es i).get t:=λt ht=>hslot t (aa2 ht)
  have hwant: ∀ b,nI all (es i) o=some b→Region.wanted o (yielded all.toArray a.tmps)=b:=fun b hb=>by
    refine U1 he ?_
    unfold nI at hb
    unfold o7 at hb ⊢
    cases hg:o.guard with
    |none=>rw[hg]at hb;exact hb
    | some p=>
      obtain⟨j,want⟩:=p
      rw[hg]at hb
      simp only at hb ⊢
      cases hdj:(all[j]?).bind (·.dst)with
      |none=>rw[hdj]at hb;exact hb
      | some dj=>
        rw[hdj]at hb
        simp only at hb ⊢
        rw[hslot dj]
        · exact hb
        · refine List.mem_append_right _ ?_
          have hdj':(all.toArray[j]?).bind (·.dst)=some dj:=by simpa using hdj
          rw[hg]
          show dj ∈ ((all.toArray[j]?).bind (·.dst)).toList
          rw[hdj']
          simp
  have hwp: ∀ p,Region.waitsFor .any all.toArray p i=true→ ¬ L p:=fun p hw hLp=>by
    obtain⟨o2,ho2,e,hee,hb,hon⟩:=Region.waitsFor_spec hw
    exact hnL (hon ▸ hcl p o2 ho2 hLp e hee hb)
  have hut: ∀ id:Id,id.1=lvl→id.2.1=d→ ¬ o9 ps sid ct id:=fun id e1 e2 ⟨q,h1,h2,h3⟩=>
    hwp q (hid q ae h2 (by rw[h3];exact e1) i hi (by rw[dst_at ho,hd,← e2,← h3])) ((hcut q ae h2).2 h1)
  have hcompat:qs.testBit i=false→ql (hs i).get hS.get:=fun hl id b b' h1 h2=>by
      have hnt: ¬ o9 ps sid ct id:=λ⟨q,h1,h2,h3⟩=>hnL (c.ok.early L hcl q ae h2 ((hcut q ae h2).2 h1) i hi hip hl)
      rw[c.heap i ae]at h1
      rw[hget]at h2
      unfold heap2 at h2
      rw[if_neg hnt]at h2
      have hk0:=c.keeps 0 n (Nat.zero_le _) (Nat.le_refl _) id
      unfold jw at h1 h2
      split at h1 <;> split at h2
      · rw[h1]at h2;injection h2
      · rw[hk0 b' h2]at h1;injection h1 with h1;exact h1.symm
      · rw[hk0 b h1]at h2;injection h2
      · rw[h1]at h2;injection h2
  have hfin : ∀ {w':World} {F':Nat→Prop} {hS':Heap} {M':Id→Option Nat} {u:Value},aQ w'.heap F' hS' M'→bn All w F hS M w' F' hS' M'→VR w'.heap F' hS' M' y u→
      (∀ k,hS'.get (lvl,d,k)=(hs (i+1)).get (lvl,d,k))->Others lvl d hS hS'->tu w0 F0 h0 M0 N lvl n ps sid hst all es hs (λj=>j=i∨L j) (a.put o.dst u) w':=λ {w' F' hS' M' u} q1 q2 q3 q4 q5=>by
    have hcut': ∀ q,q<n->ps.testBit q=true->((q=i∨L q) ↔ q<ct):=λq h1 h2=>⟨λh=>h.elim (λh=>by subst h;rw[hip]at h2;cases h2) (hcut q h1 h2).1,λh=> .inr ((hcut q h1 h2).2 h)⟩
    refine⟨⟨ct,F',M',hS',hcn,hcut',q1,λk x hx=> ?_,ev.trans hk q2,λid=> ?_⟩,m.size.put (pM hdst),put_defers.trans m.defers⟩
    · rw [hd,zJ (by rw[m.size.1];exact hdN.1)]
      by_cases hkd:k=d
      · subst hkd
        rw[if_pos rfl]
        unfold iq at hx
        rw[if_pos ⟨i,hi,.inl rfl,by rw[dst_at ho,hd]⟩]at hx
        have h1:=c.env (i+1) ae k
        unfold iq at h1
        rw[if_pos ⟨i,hi,by omega,by rw[dst_at ho,hd]⟩,hey,wU]at h1
        rw[← h1]at hx
        injection hx with hx;subst hx;exact q3
      · rw[if_neg hkd]
        refine q2.vr hk (he k x ?_)
        rw[← hx]
        unfold iq
        by_cases hex: ∃ j,j<n/\L j/\(all.toArray[j]?).bind (·.dst)=some k
        · obtain⟨j,h1,h2,h3⟩:=hex
          rw[if_pos ⟨j,h1,h2,h3⟩,if_pos ⟨j,h1,.inr h2,h3⟩]
        · rw[if_neg hex,if_neg]
          rintro⟨j,h1,h2,h3⟩
          rcases h2 with rfl|h2
          · rw[dst_at ho,hd]at h3;injection h3 with h3;exact hkd h3.symm
          · exact hex ⟨j,h1,h2,h3⟩
    · by_cases hidd:id.1=lvl∧id.2.1=d
      · have hne:=hut id hidd.1 hidd.2
        obtain⟨l0,s0,k0⟩:=id
        obtain⟨rfl,rfl⟩:=hidd
        rw[q4,c.heap (i+1) ae]
        unfold heap2
        rw[if_neg hne]
        unfold jw
        rw[if_pos ⟨rfl,i,hi,by omega,by rw[dst_at ho,hd]⟩,if_pos ⟨rfl,i,hi,.inl rfl,by rw[dst_at ho,hd]⟩]
      · rw [q5 id hidd,hget]
        unfold heap2
        by_cases h0':o9 ps sid ct id
        · rw[if_pos h0',if_pos h0']
        · rw[if_neg h0',if_neg h0']
          unfold jw
          by_cases hex:id.1=lvl/\ ∃ j,j<n/\L j/\(all.toArray[j]?).bind (·.dst)=some id.2.1
          · obtain⟨e1,j,h1,h2,h3⟩:=hex
            rw[if_pos ⟨e1,j,h1,h2,h3⟩,if_pos ⟨e1,j,h1,.inr h2,h3⟩]
          · rw[if_neg hex,if_neg]
            rintro⟨e1,j,h1,h2,h3⟩
            rcases h2 with rfl|h2
            · rw[dst_at ho,hd]at h3;injection h3 with h3;exact hidd ⟨e1,h3.symm⟩
            · exact hex ⟨e1,j,h1,h2,h3⟩
  have halike:Alike lvl d (hs i) hS:=fun k=>by
    have hne:=hut (lvl,d,k) rfl rfl
    rw[c.heap i ae,hget]
    unfold heap2
    rw[if_neg hne]
    unfold jw
    have huniq: ∀ m,m<n→(all.toArray[m]?).bind (·.dst)=some d→m=i:=fun m hm hmd=>by
      obtain⟨om,hom,hdm,hmp,_⟩:=c.at2 hm hmd
      rw[dst_at hom]at hmd
      exact c.ok.one i m o om hi hm (by rw[hd];rfl) ho hom (hmd.trans hd.symm)
    rw[if_neg,if_neg]
    · rintro⟨_,m,hm,hml,hmd⟩
      exact hnL (huniq m hm hmd ▸ hml)
    · rintro⟨_,m,hm,hml,hmd⟩
      have:=huniq m hm hmd
      omega
  rcases hcase with⟨hw,t,k,ht,him⟩|⟨hw,hh,rfl⟩
  · rw [if_pos (hwant true hw)]
    have hbx: ∀ id rw cells blk,(hs i).get id=some (.bx rw cells)→hS.get id=some blk→blk.ext=0:=fun id rw cells blk h1 h2=>by
      rw[hget]at h2
      unfold heap2 at h2
      split at h2
      · rename_i htc
        obtain⟨b0,k1,k2⟩:=cs.bx hcn h2
        rw[c.keeps i n ae (Nat.le_refl _) id _ h1]at k1
        injection k1 with k1
        rw[← k1]at k2
        cases blk with
        |bx=>rfl
        |sl=>cases k2
      · have k0:=c.keeps 0 i (Nat.zero_le _) ae id
        have kn:=c.keeps i n ae (Nat.le_refl _) id _ h1
        unfold jw at h2
        split at h2
        · rw[kn]at h2;injection h2 with h2;subst h2;rfl
        · have:=k0 blk h2
          rw[h1]at this;injection this with this;subst this;rfl
    have ht':bZ P C cp (iq all.toArray n (es 0).get (es n).get L) hS.get o.op=some t:=by
      unfold nN at ht
      split at ht
      · cases hx:bZ P C cp (es i).get g0 o.op with
        | some t'=>
          rw[hx]at ht
          injection ht with ht;subst ht
          refine O7 hk (λid b b' h1 h2=> ?_) he hread hx
          have hnt: ¬ o9 ps sid ct id:=fun⟨q,k1,k2,k3⟩=>by
            have:=hg0n q ae k2
            rw[k3,h1]at this;cases this
          rw[hget]at h2
          unfold heap2 at h2
          rw[if_neg hnt]at h2
          have h0:=hg00 id b h1
          unfold jw at h2
          split at h2
          · rw[c.keeps 0 n (Nat.zero_le _) (Nat.le_refl _) id b h0]at h2;injection h2
          · rw[h0]at h2;injection h2
        | none=>
          rw[hx]at ht
          exact ath he hread hbx ht
      · rename_i hq
        exact O7 hk (hcompat (by simpa using hq)) he hread ht
    obtain⟨hS',q1,q2,_,q4⟩:=Lj lvl d 4 t 0 (hs i) y k (hs (i+1)) hS halike him
    exact O8 hcp hk he ht' q1 λw' F' M' u r1 r2 r3=>hK _ _ (hfin r1 r2 r3 (λk=>(q2 k).symm) q4)
  · rw[if_neg (by rw[hwant false hw];simp)]
    exact hK _ _ (hfin hk .refl (.c .v) (λk=>by rw[hh];exact(halike k).symm) (.refl _ _ _))
theorem tu.store(c:nJ P C cp lvl g0 n ps qs all es hs){hst:Nat→Heap}{sid:Nat→Id}{sb:Nat→ak}(cs:sZ P lvl g0 n ps all (es n) (hs n) hst sid sb){w0:World}{F0:Nat→Prop}{h0:Heap}{M0:Id→Option Nat}{L:Nat→Prop}{a:Act}{w:World}
    (m:tu w0 F0 h0 M0 N lvl n ps sid hst all es hs L a w)
    (hcl: ∀ j oj,all.toArray[j]? =some oj->L j-> ∀ e ∈ oj.after,Region.binds .any e=true->L e.on) {p:Nat} (hpn:p<n) (hps:ps.testBit p=true) (hnL: ¬ L p) {o:Oper} (ho:all.toArray[p]? =some o)
    (hpre: ∀ e ∈ o.after,Region.binds .any e=true->L e.on) (hdst:jD N o=true) {K:Act->World->Prop} {Q:Exit->Act->World->Prop}
    (hK: ∀ a' w',tu w0 F0 h0 M0 N lvl n ps sid hst all es hs (λj=>j=p∨L j) a' w'->K a' w'):
    if Region.wanted o (yielded all.toArray a.tmps)=true then o.wp P a w K Q else K (a.put o.dst undef) w:=by
  obtain⟨⟨o2,ho2,hls⟩,hst1⟩:=cs.step p hpn hps
  have ho3:all[p]? =some o:=by simpa using ho
  rw[ho3]at ho2;injection ho2 with ho2;subst ho2
  obtain⟨hgn,_,hid,⟨bo,hg0,hbB⟩,y,hyd,hkey⟩:=EE hls
  have hcl':FZ all.toArray (fun j=>j=p∨L j):=fun j oj hj hLj e he hb=>by
    rcases hLj with rfl|hLj
    · rw[ho]at hj;injection hj with hj;subst hj
      exact .inr (hpre e he hb)
    · exact .inr (hcl j oj hj hLj e he hb)
  obtain⟨ct,F,M,hS,hcn,hcut,hk,he,ev,hget⟩:=m.st
  have hbefore: ∀ q,q<p->ps.testBit q=true->L q:=λq hq hb=>(c.ok.order _ hcl' p hpn hps (.inl rfl) q hq hb).resolve_left ae
  have hafter: ∀ q,p<q->q<n->ps.testBit q=true-> ¬ L q:=λq hq hqn hb hL=>hnL (c.ok.order L hcl q hqn hb hL p hq hps)
  have hctp:ct≤p:=by
    rcases Nat.lt_or_ge p ct with h|h
    · exact absurd ((hcut p hpn hps).2 h) hnL
    · exact h
  have hnone: ∀ q,ct≤q→q<p→ps.testBit q=false:=fun q h1 h2=>by
    cases hb:ps.testBit q with
    |false=>rfl
    |true=>have:=(hcut q ae hb).1 (hbefore q h2 hb);omega
  have hsame:hst p=hst ct:=cs.same p hctp ae hnone
  have htch: ∀ id,o9 ps sid p id ↔ o9 ps sid ct id:=fun id=>⟨fun⟨q,h1,h2,h3⟩=>by
    rcases Nat.lt_or_ge q ct with h|h
    · exact⟨q,h,h2,h3⟩
    · exact absurd h2 (by rw[hnone q h h1];decide),λ⟨q,h1,h2,h3⟩=>⟨q,by omega,h2,h3⟩⟩
  have hwt:Region.wanted o (yielded all.toArray a.tmps)=true:=by unfold Region.wanted;rw[hgn]
  rw[if_pos hwt]
  -- the slots that it reads are the last ones
  have hread: ∀ t ∈ reads o.op,iq all.toArray n (es 0).get (es n).get L t=(es n).get t:=fun t ht=>by
    have ht':=aa2 (ops:=all.toArray) ht
    by_cases hex: ∃ j,j<n/\L j/\(all.toArray[j]?).bind (·.dst)=some t
    · unfold iq;rw[if_pos hex]
    · unfold iq
      rw[if_neg hex]
      by_cases hex2: ∃ j,j<n/\(all.toArray[j]?).bind (·.dst)=some t
      · exfalso
        obtain⟨j,hjn,hjd⟩:=hex2
        obtain⟨oj,hoj,hdj,hjp,_⟩:=c.at2 hjn hjd
        have hjd':=hjd
        rw[dst_at hoj]at hjd'
        obtain⟨_,hor⟩:=c.ok.data p j o oj t hpn hjn ho hoj ht' hjd'
        rcases hor with hw|⟨hw,_⟩
        · obtain⟨o2,ho2,e,hee,hb,hon⟩:=Region.waitsFor_spec hw
          rw[ho]at ho2;injection ho2 with ho2;subst ho2
          exact hex ⟨j,hjn,hon ▸ hpre e hee hb,hjd⟩
        · rw[hps]at hw;cases hw
      · have:=c.env n (Nat.le_refl _) t
        unfold iq at this
        rw[if_neg (λ⟨j,h1,_,h3⟩=>hex2 ⟨j,h1,h3⟩)]at this
        exact this.symm
  have hops: ∀ z:Operand,z ∈ o.op.operands->aB (iq all.toArray n (es 0).get (es n).get L) z=aB (es n).get z:=λz hz=>MC hread hz
  have hacc: ∀ id bb,Wt all lvl n p id→(hst p).get id=some bb→hS.get id=some bb:=fun id bb hw hg0'=>by
    rw[hget]
    unfold heap2
    by_cases ht:o9 ps sid ct id
    · rw[if_pos ht,← hsame];exact hg0'
    · rw[if_neg ht]
      rw[hsame,cs.un ct hcn ht]at hg0'
      rw[← hg0',c.heap n (Nat.le_refl _)]
      unfold jw
      by_cases hex:id.1=lvl/\ ∃ j,j<n/\L j/\(all.toArray[j]?).bind (·.dst)=some id.2.1
      · obtain⟨e1,j,h1,h2,h3⟩:=hex
        rw[if_pos ⟨e1,j,h1,h2,h3⟩,if_pos ⟨e1,j,h1,h1,h3⟩]
      · rw[if_neg hex,if_neg]
        rintro⟨e1,j,h1,_,h3⟩
        obtain⟨o2,ho2,e,hee,hb,hon⟩:=Region.waitsFor_spec (hw e1 j h1 h3)
        rw[ho]at ho2;injection ho2 with ho2;subst ho2
        exact hex ⟨e1,j,h1,hon ▸ hpre e hee hb,h3⟩
  have haS:aS P lvl (iq all.toArray n (es 0).get (es n).get L) hS (o.dst.getD 0) o.op=some (y,hS.set (sid p) (sb p)):=hkey _ hS hops hacc
  obtain⟨nx,w',F',M',hr,q1,q2,q3⟩:=Vr hk he (lvl:=lvl) (dst:=o.dst.getD 0) haS
  have hcut': ∀ q,q<n→ps.testBit q=true→((q=p∨L q) ↔ q<p+1):=fun q h1 h2=>⟨fun h=>h.elim (fun h=>by omega) fun h=>by
      rcases Nat.lt_or_ge p q with h3|h3
      · exact absurd h (hafter q h3 h1 h2)
      · omega,λh=>by
      by_cases hqp:q=p
      · exact .inl hqp
      · exact .inr (hbefore q ae h2)⟩
  have hmid : ∀ u,(∀ d,o.dst=some d→VR w'.heap F' (hS.set (sid p) (sb p)) M' y u)→tu w0 F0 h0 M0 N lvl n ps sid hst all es hs (fun j=>j=p∨L j) (a.put o.dst u) w':=fun u hu=>by
    refine⟨⟨p+1,F',M',hS.set (sid p) (sb p),hpn,hcut',q1,λk z hz=> ?_,ev.trans hk q2,λid=> ?_⟩,m.size.put (pM hdst),put_defers.trans m.defers⟩
    · by_cases hkd:o.dst=some k
      · rw[hkd,zJ (by rw[m.size.1];exact(pM hdst k hkd).1),if_pos rfl]
        have hz2:(es n).get k=some z:=by
          unfold iq at hz
          rw[if_pos ⟨p,hpn,.inl rfl,by rw[dst_at ho,hkd]⟩]at hz
          exact hz
        rw[hyd k hkd]at hz2
        injection hz2 with hz2
        subst hz2
        exact hu k hkd
      · have hold:(a.put o.dst u).tmps.getD k undef=a.tmps.getD k undef:=by
          cases hd:o.dst with
          |none=>rfl
          | some d=>
            rw[zJ (by rw[m.size.1];exact(pM hdst d hd).1),if_neg (λhh=>hkd (by rw[hd,hh]))]
        rw[hold]
        refine q2.vr hk (he k z ?_)
        rw[← hz]
        unfold iq
        by_cases hex: ∃ j,j<n/\L j/\(all.toArray[j]?).bind (·.dst)=some k
        · obtain⟨j,h1,h2,h3⟩:=hex
          rw[if_pos ⟨j,h1,h2,h3⟩,if_pos ⟨j,h1,.inr h2,h3⟩]
        · rw[if_neg hex,if_neg]
          rintro⟨j,h1,h2,h3⟩
          rcases h2 with h2|h2
          · rw[h2]at h3;rw[dst_at ho]at h3;exact hkd h3
          · exact hex ⟨j,h1,h2,h3⟩
    · unfold heap2
      by_cases hidd:id=sid p
      · subst hidd
        rw[if_pos ⟨p,by omega,hps,rfl⟩,get_set_same,hst1,get_set_same]
      · have htp:o9 ps sid (p+1) id ↔ o9 ps sid ct id:=⟨fun⟨q,h1,h2,h3⟩=>(htch id).1 ⟨q,by
            rcases Nat.lt_or_ge q p with h|h
            · exact h
            · exact absurd h3.symm (by rw[show q=p by omega];exact hidd),h2,h3⟩,λh=>by
            obtain⟨q,h1,h2,h3⟩:=(htch id).2 h
            exact⟨q,by omega,h2,h3⟩⟩
        rw[jU _ _ _ _ hidd,hget]
        unfold heap2
        by_cases htc:o9 ps sid ct id
        · rw[if_pos htc,if_pos (htp.2 htc),hst1,jU _ _ _ _ hidd,hsame]
        rw[if_neg htc,if_neg (λhh=>htc (htp.1 hh))]
        unfold jw
        by_cases hex:id.1=lvl/\ ∃ j,j<n/\L j/\(all.toArray[j]?).bind (·.dst)=some id.2.1
        · obtain⟨e1,j,h1,h2,h3⟩:=hex
          rw[if_pos ⟨e1,j,h1,h2,h3⟩,if_pos ⟨e1,j,h1,.inr h2,h3⟩]
        · by_cases hpd:id.1=lvl∧o.dst=some id.2.1
          · obtain⟨e1,e2⟩:=hpd
            have hpt:(all.toArray[p]?).bind (·.dst)=some id.2.1:=by rw[dst_at ho,e2]
            have k1:=c.heap (p+1) ae id
            have k0:=c.heap p ae id
            rw[(c.skip p hpn hps).1,k0]at k1
            unfold jw at k1
            rw[if_neg,if_pos ⟨e1,p,hpn,Nat.lt_succ_self p,hpt⟩]at k1
            · rw[if_neg hex,if_pos ⟨e1,p,hpn,.inl rfl,hpt⟩]
              exact k1
            · rintro⟨_,j,hj,hjp,hjd⟩
              have hjp:j<p:=hjp
              obtain⟨oj,hoj,hdj,_⟩:=c.at2 hj hjd
              have:=c.ok.one p j o oj hpn hj (by rw[e2];rfl) ho hoj (hdj.trans e2.symm)
              omega
          · rw[if_neg hex,if_neg]
            rintro⟨e1,j,h1,h2,h3⟩
            rcases h2 with h2|h2
            · rw[h2]at h3;rw[dst_at ho]at h3;exact hpd ⟨e1,h3⟩
            · exact hex ⟨e1,j,h1,h2,h3⟩
  unfold Oper.wp
  rw[hr]
  rcases q3 with⟨rfl,hyu⟩|⟨u,rfl,hyu⟩
  · rw[Oper.upon_skip]
    exact hK _ _ (hmid undef λd hd=>by rw[hyu];exact .c .v)
  · rw[Oper.upon_value]
    exact hK _ _ (hmid u λd hd=>hyu)
theorem aum(hg00: ∀ id b,g0 id=some b→(hs 0).get id=some b)(c:nJ P C cp lvl g0 n ps qs all es hs)(hcp:aK P cp){hst:Nat→Heap}{sid:Nat→Id}{sb:Nat→ak}(cs:sZ P lvl g0 n ps all (es n) (hs n) hst sid sb){w0:World}{F0:Nat→Prop}{h0:Heap}{M0:Id→Option Nat}{Q:Exit→Act→World→Prop}(hdst:all.all (jD N)=true)
    (hfin: ∀ a w F M,St N w F (hst n) M (es n) a->bn All w0 F0 h0 M0 w F (hst n) M->wpAny P .any all.toArray Q (all.length - n) (gY n all.toArray.size) a w):
    ∀ (m:Nat) (listed:Array Bool) (a:Act) (w:World),HeadInv .any all.toArray n listed→jR n listed=m→tu w0 F0 h0 M0 N lvl n ps sid hst all es hs (fun j=>listed.getD j false=true) a w→
      wpAny P .any all.toArray Q (m+(all.length - n)) listed a w:=by
  have hle:n<=all.length:=by simpa using c.ok.le
  have hid: ∀ p,p<n→ps.testBit p=true→(sid p).1=lvl→ ∀ j,j<n→(all.toArray[j]?).bind (·.dst)=some (sid p).2.1→Region.waitsFor .any all.toArray p j=true:=fun p hp hb=>by
    obtain⟨⟨o,ho,hls⟩,_⟩:=cs.step p hp hb
    exact(EE hls).2.2.1
  have hg0n: ∀ p,p<n→ps.testBit p=true→g0 (sid p)=none:=fun p hp hb=>by
    obtain⟨⟨o,ho,hls⟩,_⟩:=cs.step p hp hb
    exact(EE hls).2.1
  intro m
  induction m with
  | zero=>
    intro listed a w inv hcnt mid
    have hl: ∀ i,i<n->listed.getD i true=true:=Ib hcnt
    have hlf: ∀ i,i<n→listed.getD i false=true:=fun i hi=>by
      have:=hl i hi
      have hs':i<listed.size:=by rw[inv.size];simp;omega
      simp[hs']at this ⊢;exact this
    have heq:listed=gY n all.toArray.size:=by
      apply Array.ext
      · simp[gY,inv.size]
      · intro i h1 h2
        by_cases hi:i<n
        · have:=hl i hi
          simp[h1]at this
          simp[gY,this,hi]
        · have:=inv.tail i ae (by rw[← inv.size];exact h1)
          simp[h1]at this
          simp[gY,this,hi]
    obtain⟨ct,F,M,hS,hcn,hcut,hk,he,ev,hget⟩:=mid.st
    have hfar: ∀ q,ct≤q→q<n→ps.testBit q=false:=fun q h1 h2=>by
      cases hb:ps.testBit q with
      |false=>rfl
      |true=>have:=(hcut q h2 hb).1 (hlf q h2);omega
    have hsame:hst n=hst ct:=cs.same n hcn (Nat.le_refl _) hfar
    have hget': ∀ id,(hst n).get id=hS.get id:=fun id=>by
      rw[hget]
      unfold heap2
      by_cases htc:o9 ps sid ct id
      · rw[if_pos htc,hsame]
      · rw[if_neg htc,hsame,cs.un ct hcn htc,c.heap n (Nat.le_refl _)]
        unfold jw
        by_cases hex:id.1=lvl/\ ∃ j,j<n/\j<n/\(all.toArray[j]?).bind (·.dst)=some id.2.1
        · obtain⟨e1,j,h1,h2,h3⟩:=hex
          rw[if_pos ⟨e1,j,h1,h2,h3⟩,if_pos ⟨e1,j,h1,hlf j h1,h3⟩]
        · rw[if_neg hex,if_neg]
          rintro⟨e1,j,h1,h2,h3⟩
          exact hex ⟨e1,j,h1,h1,h3⟩
    have st:St N w F (hst n) M (es n) a:=by
      refine⟨hk.same hget',λk x hx=>(he k x ?_).ext λid y e=>⟨(hget' id).trans e,rfl⟩,mid.size,mid.defers⟩
      rw[c.env n (Nat.le_refl _)]at hx
      rw[← hx]
      unfold iq
      by_cases hex: ∃ j,j<n/\j<n/\(all.toArray[j]?).bind (·.dst)=some k
      · obtain⟨j,h1,h2,h3⟩:=hex
        rw[if_pos ⟨j,h1,hlf j h1,h3⟩,if_pos ⟨j,h1,h2,h3⟩]
      · rw[if_neg,if_neg hex]
        rintro⟨j,h1,h2,h3⟩
        exact hex ⟨j,h1,h1,h3⟩
    rw[heq]
    have hw:=hfin a w F M st (ev.same hget')
    simpa using hw
  | succ m ih =>
    intro listed a w inv hcnt mid
    obtain⟨i0,hi0,hu0,hleast⟩:=A7 (k:=n) (l:=listed) ae
    rw[show m+1+(all.length - n)=(m+(all.length - n))+1 by omega]
    have hsz:listed.size=all.length:=by rw[inv.size];simp
    refine⟨λhr=> ?_,λi hi=> ?_⟩
    · exfalso
      have:i0 ∈ Region.ready .any all.toArray listed:=by
        rw[mem_ready]
        obtain⟨oz,ho⟩: ∃ oz,all.toArray[i0]? =some oz:=by
          have hlt:i0<all.length:=ae
          exact⟨all[i0],by simp[hlt]⟩
        refine⟨hu0,oz,ho,λe he hb=> ?_⟩
        have hlt:=c.ok.back i0 _ hi0 ho e he hb
        have:=hleast e.on hlt
        have hlt2:e.on<listed.size:=ae
        simp[hlt2]at this ⊢;exact this
      rw[hr]at this;cases this
    · have hin:i<n:=by
        rcases Nat.lt_or_ge i n with h|h
        · exact h
        · exfalso
          exact c.ok.waits listed inv i0 hi0 hu0 i h hi
      obtain⟨hui,o,ho,hpre⟩:=mem_ready.1 hi
      have ho1:all[i]? =some o:=by simpa using ho
      have hnL: ¬ listed.getD i false=true:=fun hh=>by
        have:i<listed.size:=ae
        simp[this]at hui hh
        rw[hui]at hh;cases hh
      have hdo:jD N o=true:=List.all_eq_true.1 hdst o (List.mem_of_getElem? ho1)
      have inv':=inv.set hi hin
      have hcnt':jR n (listed.setIfInBounds i true)=m:=by
        have:=HY (k:=n) (l:=listed) hin ae hui
        omega
      have hgo: ∀ a' w',tu w0 F0 h0 M0 N lvl n ps sid hst all es hs (fun j=>j=i∨listed.getD j false=true) a' w'→wpAny P .any all.toArray Q (m+(all.length - n)) (listed.setIfInBounds i true) a' w':=fun a' w' mid'=>ih _ a' w' inv' hcnt' (by
          have hL:(fun j=>j=i∨listed.getD j false=true)=fun j=>(listed.setIfInBounds i true).getD j false=true:=funext fun j=>propext ⟨fun h=>by
            rcases h with rfl|h
            · have:j<listed.size:=ae
              simp[this]
            · exact getD_set_true h,λh=>by
            by_cases hji:i=j
            · exact .inl hji.symm
            · rw[getD_set_ne false hji]at h;exact .inr h⟩
          rw[← hL];exact mid')
      have hcl: ∀ j oj,all.toArray[j]? =some oj->listed.getD j false=true-> ∀ e ∈ oj.after,Region.binds .any e=true->listed.getD e.on false=true:=λj oj hj hLj e he hb=>inv.closed j oj hj hLj e he hb
      have hnext:if Region.wanted o (yielded all.toArray a.tmps)=true then o.wp P a w (wpAny P .any all.toArray Q (m+(all.length - n)) (listed.setIfInBounds i true)) Q else wpAny P .any all.toArray Q (m+(all.length - n)) (listed.setIfInBounds i true) (a.put o.dst undef) w:=by
        by_cases hip:ps.testBit i=true
        · exact mid.store c cs hcl hin hip hnL ho hpre hdo hgo
        · exact mid.next hg00 c hcp cs hid hg0n hcl hin (GY hip) hnL ho hpre hdo hgo
      unfold wpOp
      rw[ho]
      simp only
      split
      · rename_i hw
        rw[if_pos hw]at hnext
        exact .inl hnext
      · rename_i hw
        rw[if_neg hw]at hnext
        exact hnext
theorem atn(hm:P.follows .mixedOrders=true)(hcp:aK P cp)(hci:eH P ci){w:World}{F:Nat→Prop}{h:Heap}{M:Id→Option Nat}{e:Env}{a:Act}(st:St N w F h M e a){e':Env}{h':Heap}{id:Nat}
    (hd:LP n ps qs all.toArray=true) (hdst:all.all (jD N)=true) (hg00: ∀ id b,g0 id=some b->h.get id=some b) (hq:tN P C cp ci lvl g0 all n ps qs e h=some (e',h')) {Q:Exit->Act->World->Prop} {r:Option Nat} (hLQ: ¬ LetsOut Q)
    (hn: ∀ a' w' F' M',St N w' F' h' M' e' a'->bn All w F h M w' F' h' M'->Q .normal a' w'):xZ P r id all.toArray Q a w:=by
  obtain⟨hdk,hseq⟩:=as5 hd
  have hle:n<=all.length:=by simpa using hdk.le
  unfold tN at hq
  simp only[aA,Prod.exists]at hq
  obtain⟨e1,h1,hq1,h2,hsm,htail⟩:=hq
  obtain⟨es,hs,g1,g2,g3,g4,hst,hsk⟩:=VB n 0 all e h e1 h1 hq1
  subst g1;subst g2;subst g3;subst g4
  obtain⟨hst',sid,sb,k1,k2,k3⟩:=adk n 0 _ _ hsm
  rw[Nat.zero_add]at k2
  subst k2
  have cs:sZ P lvl g0 n ps all (es n) (hs n) hst' sid sb:=⟨k1,λi hi hb=>(k3 i ae ae).1 hb,λi hi hb=>(k3 i ae ae).2 hb⟩
  have c:nJ P C cp lvl g0 n ps qs all es hs:=⟨hdk,fun p o hp hb ho=>by
      obtain⟨⟨o2,ho2,hls⟩,_⟩:=cs.step p hp hb
      rw[ho]at ho2;injection ho2 with ho2;subst ho2
      exact(EE hls).1,λi hi hne=>by simpa using hst i hi (by simpa using hne),λp hp hb=>hsk p hp (by simpa using hb)⟩
  refine Us hm hLQ hdst ?_
  have hno: ∀ j,¬ (Array.replicate all.toArray.size false).getD j false=true:=fun j hh=>by
    rw[getD_replicate_false]at hh;cases hh
  have:=aum (P:=P) (Q:=Q) hg00 c hcp cs (w0:=w) (F0:=F) (h0:=hs 0) (M0:=M) hdst (fun a' w' F' M' st' ev'=>by
      have hw:=wpAny_of_seq (P:=P) (md:= .any) (Q':=Q) (all.drop n) n (gY n all.toArray.size) a' w' (fun j=>by rw[List.getElem?_drop];simp) (by rw[List.length_drop];simpa using hseq)
        (wG hcp hci (all.drop n) st' (List.all_eq_true.2 λo ho=>List.all_eq_true.1 hdst o (List.mem_of_mem_drop ho)) htail λa2 w2 F2 M2 s2 ev2=>hn a2 w2 F2 M2 s2 (ev'.trans st'.ok ev2))
      rw[List.length_drop]at hw
      exact hw)
    n (Array.replicate all.toArray.size false) a {w with drawn:=w.drawn+1}
    ⟨by simp,λj oj hj hl=>absurd hl (hno j),λt h1 h2=>MR h2⟩ (Ia n _ (by simpa using hle))
    ⟨⟨0,F,M,hs 0,Nat.zero_le _,fun q _ _=>⟨fun hh=>absurd hh (hno q),fun hh=>by omega⟩,st.ok,fun k x hx=>st.env k x (by
        rw[← hx];unfold iq;rw[if_neg];rintro⟨j,_,h2,_⟩;exact hno j h2),⟨rfl,rfl,rfl,Nat.le_refl _,λ_ _ _=>rfl,λ_ h=>h,λ_ h _=> .inl h,λid y hy hr=> .inl ⟨y,hy,hr,rfl⟩,λid x hx _=>⟨x,hx,Held.refl rfl λ_ _=>rfl⟩⟩,
      fun id=>by
        unfold heap2
        rw[if_neg (λ⟨q,h1,_⟩=>by omega)]
        unfold jw;rw[if_neg];rintro⟨_,j,_,h2,_⟩;exact hno j h2⟩,st.size,st.defers⟩
  rw[show n+(all.length - n)=all.toArray.size by simp;omega]at this
  exact this
theorem al5(hm:P.follows .mixedOrders=true)(hcp:aK P cp)(hci:eH P ci){w:World}{F:Nat→Prop}{h:Heap}{M:Id→Option Nat}{e:Env}{a:Act}(st:St N w F h M e a){e':Env}{h':Heap}{id k:Nat}
    (hd:Ri k all.toArray=true) (hdst:all.all (jD N)=true) (hq:qm P C cp ci lvl all k e h=some (e',h')) {Q:Exit->Act->World->Prop} {r:Option Nat} (hLQ: ¬ LetsOut Q)
    (hn: ∀ a' w' F' M',St N w' F' h' M' e' a'->bn All w F h M w' F' h' M'->Q .normal a' w'):xZ P r id all.toArray Q a w:=by
  unfold Ri at hd
  unfold qm at hq
  by_cases hk0:k<1000
  · rw[if_pos hk0]at hd hq
    exact al6 hm hcp hci st hd hdst hq hLQ hn
  rw[if_neg hk0]at hd hq
  by_cases hk:k<1000000
  · rw[if_pos hk]at hd hq
    exact anB hm hcp hci st hd hdst hq hLQ hn
  · rw [if_neg hk]at hd hq
    by_cases hk2:k<2000000
    · rw[if_pos hk2]at hd hq
      simp only[aA,Prod.exists]at hq
      obtain⟨e1,h1,q0,e2,h2,q1,e3,h3,q2,q3⟩:=hq
      split at q3
      · rename_i hs
        have hs:=ayd hs
        injection q3 with q3
        rw[← hs]at q2
        injection q3 with q3 q4
        subst q3;subst q4
        exact al1 hm hcp hci st hd hdst q0 q1 q2 hLQ hn
      · cases q3
    · rw [if_neg hk2]at hd hq
      exact atn hm hcp hci st hd hdst (fun id b hg=>by
        unfold zn at hg
        split at hg
        · cases hg
        · split at hg
          · exact hg
          · unfold uS at hg
            simp only[aA]at hg
            obtain⟨c,h1,h2⟩:=hg
            cases c with
            |bx=>injection h2 with h2;rw[h1,h2]
            |sl=>cases h2) hq hLQ hn
end
end Go.Av
