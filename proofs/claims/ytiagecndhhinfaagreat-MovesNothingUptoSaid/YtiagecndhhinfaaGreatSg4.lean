/- A region whose order is open: whatever order, one outcome. Conditions: none. -/
import Derived.Test.YtiagecndhhinfaaGreatSg3
set_option linter.unusedVariables false
namespace Go.Av
open Classical
noncomputable def iq(ops:Array Oper)(n:Nat)(e E:Nat→Option AV)(L:Nat→Prop)(k:Nat):Option AV:=
  if ∃ j,j<n/\L j/\(ops[j]?).bind (·.dst)=some k then E k else e k
noncomputable def jw(ops:Array Oper)(n lvl:Nat)(h Hf:Heap)(L:Nat→Prop)(id:Id):Option ak:=
  if id.1=lvl/\ ∃ j,j<n/\L j/\(ops[j]?).bind (·.dst)=some id.2.1 then Hf.get id else h.get id
section
variable {P:Program} {C:bG} {cp:aC} {ci:bz} {lvl n:Nat} {N:jq} {all:List Oper}
theorem dst_at{ops:Array Oper}{j:Nat}{o:Oper}(h:ops[j]? =some o):(ops[j]?).bind (·.dst)=o.dst:=by rw[h];rfl
structure Canon (P:Program) (C:bG) (cp:aC) (lvl n:Nat) (all:List Oper) (es:Nat→Env) (hs:Nat→Heap):Prop where
  ok:Gh n all.toArray
  step: ∀ i,i<n-> ∃ o,all[i]? =some o/\Ae P C cp lvl all o (es i) (hs i) (es (i+1)) (hs (i+1))
variable {es:Nat->Env} {hs:Nat->Heap}
theorem Canon.at_(c:Canon P C cp lvl n all es hs){i:Nat}(hi:i<n): ∃ o d,all[i]? =some o∧all.toArray[i]? =some o∧o.dst=some d∧ ∃ y,(es (i+1))=(es i).set d y∧
    (∀ id b,(hs i).get id=some b->(hs (i+1)).get id=some b)/\Others lvl d (hs i) (hs (i+1))/\
    ((nI all (es i) o=some true/\ ∃ t k,bZ P C cp (es i).get (hs i).get o.op=some t/\bC lvl d 4 t (0,hs i)=some (y,k,hs (i+1)))∨(nI all (es i) o=some false/\hs (i+1)=hs i/\y= .v undef)):=by
  obtain⟨o,ho,hst⟩:=c.step i hi
  have ho':all.toArray[i]? =some o:=by simpa using ho
  obtain⟨d,hd⟩:=c.ok.dst i o hi ho'
  refine⟨o,d,ho,ho',hd,?_⟩
  rcases hst with⟨hw,t,y,k,ht,him,he⟩|⟨hw,hh,he⟩
  · rw[hd]at him he
    obtain⟨_,_,_,h3,_⟩:=Lj lvl d 4 t 0 (hs i) y k (hs (i+1)) (hs i) (λ_=>rfl) him
    exact⟨y,he,aaw lvl d 4 t 0 (hs i) y k (hs (i+1)) him,h3,.inl ⟨hw,t,k,ht,him⟩⟩
  · rw[hd]at he
    exact⟨_,he,λid b hb=>by rw[hh];exact hb,by rw[hh];exact .refl _ _ _,.inr ⟨hw,hh,rfl⟩⟩
theorem Canon.keeps(c:Canon P C cp lvl n all es hs): ∀ i j,i≤j→j≤n→ ∀ id b,(hs i).get id=some b→(hs j).get id=some b:=by
  intro i j hij hj id b hb
  induction j with
  | zero => have:i=0:=ae
            subst this;exact hb
  | succ j ih=>
    by_cases h:i=j+1
    · subst h;exact hb
    · obtain⟨o,d,_,_,_,y,_,hk,_⟩:=c.at_ (i:=j) ae
      exact hk id b (ih ae ae)
theorem Canon.env(c:Canon P C cp lvl n all es hs): ∀ i,i≤n→ ∀ k,(es i).get k=iq all.toArray n (es 0).get (es n).get (· <i) k:=by
  -- from i on: a slot that none of i .. m-1 writes stands
  have fwd : ∀ i m k,i≤m→m≤n→(∀ j,i≤j→j<m→(all.toArray[j]?).bind (·.dst)≠some k)→(es m).get k=(es i).get k:=by
    intro i m k him hm hno
    induction m with
    | zero => have:i=0:=ae
              subst this;rfl
    | succ m ih=>
      by_cases h:i=m+1
      · subst h;rfl
      · obtain⟨o,d,_,ho,hd,y,he,_⟩:=c.at_ (i:=m) ae
        rw[he,uY _ _ _ _ λhk=>hno m ae ae (by rw[dst_at ho,hd,hk])]
        exact ih ae ae λj h1 h2=>hno j h1 ae
  intro i hi k
  unfold iq
  split
  · rename_i hex
    obtain⟨j,hjn,hji,hjd⟩:=hex
    symm
    refine fwd i n k hi (Nat.le_refl _) λm h1 h2 hm=> ?_
    obtain⟨oj,dj,_,hoj,hdj,_⟩:=c.at_ hjn
    obtain⟨om,dm,_,hom,hdm,_⟩:=c.at_ h2
    rw[dst_at hoj]at hjd
    rw[dst_at hom]at hm
    have:=c.ok.one m j om oj h2 hjn hom hoj (hjd.trans hm.symm)
    omega
  · rename_i hex
    exact fwd 0 i k (Nat.zero_le _) hi λj _ h2 hj=>hex ⟨j,by omega,h2,hj⟩
theorem Canon.heap(c:Canon P C cp lvl n all es hs): ∀ i,i≤n→ ∀ id,(hs i).get id=jw all.toArray n lvl (hs 0) (hs n) (· <i) id:=by
  have fwd : ∀ i m (id:Id),i≤m→m≤n→(∀ j,i≤j→j<m→ ¬ (id.1=lvl∧(all.toArray[j]?).bind (·.dst)=some id.2.1))→(hs m).get id=(hs i).get id:=by
    intro i m id him hm hno
    induction m with
    | zero => have:i=0:=ae
              subst this;rfl
    | succ m ih=>
      by_cases h:i=m+1
      · subst h;rfl
      · obtain⟨o,d,_,ho,hd,y,_,_,hoth,_⟩:=c.at_ (i:=m) ae
        rw[hoth id λhk=>hno m ae ae ⟨hk.1,by rw[dst_at ho,hd,hk.2]⟩]
        exact ih ae ae λj h1 h2=>hno j h1 ae
  intro i hi id
  unfold jw
  split
  · rename_i hex
    obtain⟨hl,j,hjn,hji,hjd⟩:=hex
    symm
    refine fwd i n id hi (Nat.le_refl _) λm h1 h2 hm=> ?_
    obtain⟨oj,dj,_,hoj,hdj,_⟩:=c.at_ hjn
    obtain⟨om,dm,_,hom,hdm,_⟩:=c.at_ h2
    rw[dst_at hoj]at hjd
    have hm2:=hm.2
    rw[dst_at hom]at hm2
    have:=c.ok.one m j om oj h2 hjn hom hoj (hjd.trans hm2.symm)
    omega
  · rename_i hex
    exact fwd 0 i id (Nat.zero_le _) hi λj _ h2 hj=>hex ⟨hj.1,j,by omega,h2,hj.2⟩
structure Mid (w0:World) (F0:Nat→Prop) (h0:Heap) (M0:Id→Option Nat) (N:jq) (lvl n:Nat) (all:List Oper) (es:Nat→Env) (hs:Nat→Heap) (L:Nat→Prop) (a:Act) (w:World):Prop where
  st: ∃ F M hS,aQ w.heap F hS M/\fK w.heap F hS M (iq all.toArray n (es 0).get (es n).get L) a/\bn All w0 F0 h0 M0 w F hS M/\ ∀ id,hS.get id=jw all.toArray n lvl (hs 0) (hs n) L id
  size:rX N a
  defers:a.defers=N.ds
theorem Mid.next(c:Canon P C cp lvl n all es hs)(hcp:aK P cp){w0:World}{F0:Nat→Prop}{h0:Heap}{M0:Id→Option Nat}{L:Nat→Prop}{a:Act}{w:World}(m:Mid w0 F0 h0 M0 N lvl n all es hs L a w)
    (hcl: ∀ j oj,all.toArray[j]? =some oj->L j-> ∀ e ∈ oj.after,Region.binds .any e=true->L e.on) {i:Nat} (hi:i<n) (hnL: ¬ L i) {o:Oper} (ho:all.toArray[i]? =some o)
    (hpre: ∀ e ∈ o.after,Region.binds .any e=true->L e.on) (hdst:jD N o=true) {K:Act->World->Prop} {Q:Exit->Act->World->Prop}
    (hK: ∀ a' w',Mid w0 F0 h0 M0 N lvl n all es hs (λj=>j=i∨L j) a' w'->K a' w'):
    if Region.wanted o (yielded all.toArray a.tmps)=true then o.wp P a w K Q else K (a.put o.dst undef) w:=by
  obtain⟨o',d,ho1,ho2,hd,y,hey,hkeep,hoth,hcase⟩:=c.at_ hi
  rw[ho]at ho2;injection ho2 with ho2;subst ho2
  obtain⟨F,M,hS,hk,he,ev,hget⟩:=m.st
  have hdN:=pM hdst d hd
  -- the slots that the operation looks at are as in the text's order
  have hslot: ∀ t ∈ o.looksAt all.toArray,iq all.toArray n (es 0).get (es n).get L t=(es i).get t:=fun t ht=>by
    rw[c.env i ae t]
    unfold iq
    by_cases hex: ∃ j,j<n/\(all.toArray[j]?).bind (·.dst)=some t
    · obtain⟨j,hjn,hjd⟩:=hex
      obtain⟨oj,dj,_,hoj,hdj,_⟩:=c.at_ hjn
      rw[dst_at hoj]at hjd
      have huniq: ∀ m,m<n→(all.toArray[m]?).bind (·.dst)=some t→m=j:=fun m hm hmd=>by
        obtain⟨om,dm,_,hom,hdm,_⟩:=c.at_ hm
        rw[dst_at hom]at hmd
        exact c.ok.one j m oj om hjn hm hoj hom (hmd.trans hjd.symm)
      obtain⟨hji,hor⟩:=c.ok.data i j o oj t hi hjn ho hoj ht hjd
      rcases hor with hw|hw
      · obtain⟨o2,ho2,e,hee,hb,hon⟩:=Region.waitsFor_spec hw
        rw[ho]at ho2;injection ho2 with ho2;subst ho2
        have hLj:L j:=hon ▸ hpre e hee hb
        have hlt:j<i:=hon ▸ c.ok.back i o hi ho e hee hb
        rw[if_pos ⟨j,hjn,hLj,by rw[dst_at hoj,hjd]⟩,if_pos ⟨j,hjn,hlt,by rw[dst_at hoj,hjd]⟩]
      · obtain⟨o2,ho2,e,hee,hb,hon⟩:=Region.waitsFor_spec hw
        rw[hoj]at ho2;injection ho2 with ho2;subst ho2
        have hlt:i<j:=hon ▸ c.ok.back j oj hjn hoj e hee hb
        rw[if_neg,if_neg]
        · rintro⟨m,hm,hml,hmd⟩
          have:=huniq m hm hmd
          omega
        · rintro⟨m,hm,hml,hmd⟩
          have:=huniq m hm hmd
          subst this
          exact hnL (hon ▸ hcl m oj hoj hml e hee hb)
    · rw[if_neg,if_neg]
      · rintro⟨m,hm,_,hmd⟩;exact hex ⟨m,hm,hmd⟩
      · rintro⟨m,hm,_,hmd⟩;exact hex ⟨m,hm,hmd⟩
  have hread: ∀ t ∈ reads o.op,iq all.toArray n (es 0).get (es n).get L t=(es i).get t:=fun t ht=>by
    obtain⟨x,hx,hxt⟩:=List.mem_filterMap.1 ht
    have hxe:x= .tmp t:=by
      cases x <;> simp at hxt
      rw[hxt]
    subst hxe
    exact hslot t (List.mem_append_left _ (List.mem_filterMap.2 ⟨.tmp t,hx,rfl⟩))
  have hwant: ∀ b,nI all (es i) o=some b→Region.wanted o (yielded all.toArray a.tmps)=b:=fun b hb=>by
    refine U1 he ?_
    unfold nI at hb
    unfold o7 at hb ⊢
    cases hg:o.guard with
    |none=>rw[hg]at hb;exact hb
    | some p=>
      obtain⟨j,want⟩:=p
      rw[hg]at hb
      simp only at hb ⊢
      cases hdj:(all[j]?).bind (·.dst)with
      |none=>rw[hdj]at hb;exact hb
      | some dj=>
        rw[hdj]at hb
        simp only at hb ⊢
        rw[hslot dj]
        · exact hb
        · refine List.mem_append_right _ ?_
          have hdj':(all.toArray[j]?).bind (·.dst)=some dj:=by simpa using hdj
          rw[hg]
          show dj ∈ ((all.toArray[j]?).bind (·.dst)).toList
          rw[hdj']
          simp
  have hcompat:ql (hs i).get hS.get:=fun id b b' h1 h2=>by
    rw[c.heap i ae]at h1
    rw[hget]at h2
    have hk0:=c.keeps 0 n (Nat.zero_le _) (Nat.le_refl _) id
    unfold jw at h1 h2
    split at h1 <;> split at h2
    · rw[h1]at h2;injection h2
    · rw[hk0 b' h2]at h1;injection h1 with h1;exact h1.symm
    · rw[hk0 b h1]at h2;injection h2
    · rw[h1]at h2;injection h2
  have hfin: ∀ {w':World} {F':Nat→Prop} {hS':Heap} {M':Id→Option Nat} {u:Value},aQ w'.heap F' hS' M'→bn All w F hS M w' F' hS' M'→VR w'.heap F' hS' M' y u→
      (∀ k,hS'.get (lvl,d,k)=(hs (i+1)).get (lvl,d,k))->Others lvl d hS hS'->Mid w0 F0 h0 M0 N lvl n all es hs (λj=>j=i∨L j) (a.put o.dst u) w':=λ {w' F' hS' M' u} q1 q2 q3 q4 q5=>by
    refine⟨⟨F',M',hS',q1,λk x hx=> ?_,ev.trans hk q2,λid=> ?_⟩,m.size.put (pM hdst),put_defers.trans m.defers⟩
    · rw [hd,zJ (by rw[m.size.1];exact hdN.1)]
      by_cases hkd:k=d
      · subst hkd
        rw[if_pos rfl]
        unfold iq at hx
        rw[if_pos ⟨i,hi,.inl rfl,by rw[dst_at ho,hd]⟩]at hx
        have h1:=c.env (i+1) ae k
        unfold iq at h1
        rw[if_pos ⟨i,hi,by omega,by rw[dst_at ho,hd]⟩,hey,wU]at h1
        rw[← h1]at hx
        injection hx with hx;subst hx;exact q3
      · rw[if_neg hkd]
        refine q2.vr hk (he k x ?_)
        rw[← hx]
        unfold iq
        by_cases hex: ∃ j,j<n/\L j/\(all.toArray[j]?).bind (·.dst)=some k
        · obtain⟨j,h1,h2,h3⟩:=hex
          rw[if_pos ⟨j,h1,h2,h3⟩,if_pos ⟨j,h1,.inr h2,h3⟩]
        · rw[if_neg hex,if_neg]
          rintro⟨j,h1,h2,h3⟩
          rcases h2 with rfl|h2
          · rw[dst_at ho,hd]at h3;injection h3 with h3;exact hkd h3.symm
          · exact hex ⟨j,h1,h2,h3⟩
    · by_cases hid:id.1=lvl∧id.2.1=d
      · obtain⟨l0,s0,k0⟩:=id
        obtain⟨rfl,rfl⟩:=hid
        rw[q4,c.heap (i+1) ae]
        unfold jw
        rw[if_pos ⟨rfl,i,hi,by omega,by rw[dst_at ho,hd]⟩,if_pos ⟨rfl,i,hi,.inl rfl,by rw[dst_at ho,hd]⟩]
      · rw[q5 id hid,hget]
        unfold jw
        by_cases hex:id.1=lvl/\ ∃ j,j<n/\L j/\(all.toArray[j]?).bind (·.dst)=some id.2.1
        · obtain⟨e1,j,h1,h2,h3⟩:=hex
          rw[if_pos ⟨e1,j,h1,h2,h3⟩,if_pos ⟨e1,j,h1,.inr h2,h3⟩]
        · rw[if_neg hex,if_neg]
          rintro⟨e1,j,h1,h2,h3⟩
          rcases h2 with rfl|h2
          · rw[dst_at ho,hd]at h3;injection h3 with h3;exact hid ⟨e1,h3.symm⟩
          · exact hex ⟨e1,j,h1,h2,h3⟩
  have halike:Alike lvl d (hs i) hS:=fun k=>by
    rw[c.heap i ae,hget]
    unfold jw
    have huniq: ∀ m,m<n→(all.toArray[m]?).bind (·.dst)=some d→m=i:=fun m hm hmd=>by
      obtain⟨om,dm,_,hom,hdm,_⟩:=c.at_ hm
      rw[dst_at hom]at hmd
      exact c.ok.one i m o om hi hm ho hom (hmd.trans hd.symm)
    rw[if_neg,if_neg]
    · rintro⟨_,m,hm,hml,hmd⟩
      exact hnL (huniq m hm hmd ▸ hml)
    · rintro⟨_,m,hm,hml,hmd⟩
      have:=huniq m hm hmd
      omega
  rcases hcase with⟨hw,t,k,ht,him⟩|⟨hw,hh,rfl⟩
  · rw[if_pos (hwant true hw)]
    have ht':=O7 hk hcompat he hread ht
    obtain⟨hS',q1,q2,_,q4⟩:=Lj lvl d 4 t 0 (hs i) y k (hs (i+1)) hS halike him
    exact O8 hcp hk he ht' q1 λw' F' M' u r1 r2 r3=>hK _ _ (hfin r1 r2 r3 (λk=>(q2 k).symm) q4)
  · rw[if_neg (by rw[hwant false hw];simp)]
    exact hK _ _ (hfin hk .refl (.c .v) (λk=>by rw[hh];exact(halike k).symm) (.refl _ _ _))
end
end Go.Av
