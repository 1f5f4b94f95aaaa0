/- How memory and rows go on together. Conditions: none. -/
import Derived.Test.YtiagecndhhinfaaGreatLL
set_option linter.unusedVariables false
namespace Go.Av
structure bn (K:Id→Prop) (w:World) (F:Nat→Prop) (h:Heap) (M:Id→Option Nat) (w':World) (F':Nat→Prop) (h':Heap) (M':Id→Option Nat):Prop where
  os:w'.os=w.os
  tape:w'.tape=w.tape
  output:w'.output=w.output
  size:w.heap.size<=w'.heap.size
  keep: ∀ b,b<w.heap.size->(∀ id x,h.get id=some x->x.rw=true->M id≠some b)->w'.heap[b]? =w.heap[b]?
  fsub: ∀ b,F b->F' b
  fold: ∀ b,F' b->b<w.heap.size->F b∨ ∃ id x,h.get id=some x/\x.rw=true/\M id=some b
  orig: ∀ id y,h'.get id=some y->y.rw=true->(∃ x,h.get id=some x/\x.rw=true/\M' id=M id)∨ ∀ b,M' id=some b->w.heap.size<=b
  held: ∀ id x,h.get id=some x->K id-> ∃ y,h'.get id=some y/\Held w.heap w'.heap M M' id x y
def All(_:Id):Prop:=True
section
variable {K:Id->Prop} {w w' w1 w2:World} {F F' F1 F2:Nat->Prop} {h h' h1 h2:Heap} {M M' M1 M2:Id->Option Nat}
theorem aQ.BP(hk:aQ w.heap F h M){id:Id}{x:ak}(hg:h.get id=some x)(hr:x.rw=true){b:Nat}(hb:M id=some b): ¬ F b:=by
  have hr':=hk.row id x hg
  cases x with
  | sl cl rw sz e cells=>
    rcases hr'.2 with⟨_,h0⟩|⟨b',_,_,h1,_,h2,_⟩
    · rw[hb]at h0;cases h0
    · rw[hb]at h1;injection h1 with h1;subst h1;exact h2 hr
  | bx rw cells=>
    obtain⟨b',_,_,h1,_,_,h2,_⟩:=hr'
    rw[hb]at h1;injection h1 with h1;subst h1;exact h2 hr
theorem aQ.isF(hk:aQ w.heap F h M){id:Id}{x:ak}(hg:h.get id=some x)(hr:x.rw=false){b:Nat}(hb:M id=some b):F b:=by
  have hr':=hk.row id x hg
  cases x with
  | sl cl rw sz e cells=>
    rcases hr'.2 with⟨_,h0⟩|⟨b',_,_,h1,_,_,h2,_⟩
    · rw[hb]at h0;cases h0
    · rw[hb]at h1;injection h1 with h1;subst h1;exact h2 hr
  | bx rw cells=>
    obtain⟨b',_,_,h1,_,_,_,h2,_⟩:=hr'
    rw[hb]at h1;injection h1 with h1;subst h1;exact h2 hr
theorem aQ.lt(hk:aQ w.heap F h M){id:Id}{x:ak}(hg:h.get id=some x){b:Nat}(hb:M id=some b):b<w.heap.size:=by
  obtain⟨cur,e,h1,_⟩:=hk.along hg hb
  exact(Array.getElem?_eq_some_iff.1 h1).1
theorem bn.Td(hk:aQ w.heap F h M)(ev:bn K w F h M w' F' h' M'): ∀ b,F b→w'.heap[b]? =w.heap[b]? :=fun b hb=>
  ev.keep b (hk.fb b hb) λid x hg hr hm=>hk.BP hg hr hm hb
theorem bn.vc(hk:aQ w.heap F h M)(ev:bn K w F h M w' F' h' M'){x:AV}{u:Value}(hv:VC w.heap F x u):VC w'.heap F' x u:=hv.keep ev.fsub (ev.Td hk)
theorem bn.vr(hk:aQ w.heap F h M)(ev:bn All w F h M w' F' h' M'){x:AV}{u:Value}(hv:VR w.heap F h M x u):VR w'.heap F' h' M' x u:=
  hv.keep ev.fsub (ev.Td hk) λid x hx=>ev.held id x hx trivial
theorem Held.trans{H H1 H2:Array Obj}{M M1 M2:Id→Option Nat}{id:Id}{x y z:ak}(a:Held H H1 M M1 id x y)(b:Held H1 H2 M1 M2 id y z):Held H H2 M M2 id x z:=by
  refine⟨λcl rw sz e cs hx=> ?_,Nat.le_trans a.ext b.ext,λhe=> ?_⟩
  · obtain⟨cl',rw',e',cs',hy,h1⟩:=a.sl _ _ _ _ _ hx
    obtain⟨cl2,rw2,e2,cs2,hz,h2⟩:=b.sl _ _ _ _ _ hy
    exact⟨cl2,rw2,e2,cs2,hz,Nat.le_trans h1 h2⟩
  · have h1:=a.ext
    have h2:=b.ext
    obtain⟨m1,s1⟩:=a.same ae
    obtain⟨m2,s2⟩:=b.same ae
    exact⟨m2.trans m1,λc hc=>(s2 c (m1.trans hc)).trans (s1 c hc)⟩
theorem bn.trans(hk1:aQ w1.heap F1 h1 M1)(a:bn K w F h M w1 F1 h1 M1)(b:bn K w1 F1 h1 M1 w2 F2 h2 M2):bn K w F h M w2 F2 h2 M2 where
  os:=b.os.trans a.os
  tape:=b.tape.trans a.tape
  output:=b.output.trans a.output
  size:=Nat.le_trans a.size b.size
  keep c hc hn:=(b.keep c (Nat.lt_of_lt_of_le hc a.size) fun id y hy hr hm=>by
    rcases a.orig id y hy hr with⟨x,hx,hxr,hxm⟩|h0
    · exact hn id x hx hxr (hxm ▸ hm)
    · have:=h0 c hm;omega).trans (a.keep c hc hn)
  fsub c hc:=b.fsub c (a.fsub c hc)
  fold c hc hlt:=by
    rcases b.fold c hc (Nat.lt_of_lt_of_le hlt a.size)with h0|⟨id,y,hy,hr,hm⟩
    · exact a.fold c h0 hlt
    · rcases a.orig id y hy hr with⟨x,hx,hxr,hxm⟩|h0
      · exact .inr ⟨id,x,hx,hxr,hxm ▸ hm⟩
      · have:=h0 c hm;omega
  orig id z hz hr:=by
    rcases b.orig id z hz hr with⟨y,hy,hyr,hym⟩|h0
    · rcases a.orig id y hy hyr with⟨x,hx,hxr,hxm⟩|h0
      · exact .inl ⟨x,hx,hxr,hym.trans hxm⟩
      · exact .inr λc hc=>h0 c (hym ▸ hc)
    · exact .inr λc hc=>Nat.le_trans a.size (h0 c hc)
  held id x hx hK:=by
    obtain⟨y,hy,d1⟩:=a.held id x hx hK
    obtain⟨z,hz,d2⟩:=b.held id y hy hK
    exact⟨z,hz,d1.trans d2⟩
theorem bn.weaken{K':Id→Prop}(a:bn K w F h M w' F' h' M')(hK: ∀ id,K' id→K id):bn K' w F h M w' F' h' M':=
  {a with held:=λid x hx hk=>a.held id x hx (hK id hk)}
theorem bn.refl:bn K w F h M w F h M:=
  ⟨rfl,rfl,rfl,Nat.le_refl _,λ_ _ _=>rfl,λ_ h=>h,λ_ h _=> .inl h,λid y hy hr=> .inl ⟨y,hy,hr,rfl⟩,λid x hx _=>⟨x,hx,Held.refl rfl λ_ _=>rfl⟩⟩
theorem aak(hk:aQ w.heap F h M)(hg:w.grownBy w' none):aQ w'.heap F h M∧bn All w F h M w' F h M:=by
  have hb: ∀ b,b<w.heap.size->w'.heap[b]? =w.heap[b]? :=λb hb=>hg.block b hb (by simp)
  have hd: ∀ id x,h.get id=some x-> ∃ y,h.get id=some y/\Held w.heap w'.heap M M id x y:=λid x hx=>⟨x,hx,Held.refl rfl λb hm=>xH (hb b (hk.lt hx hm))⟩
  refine⟨⟨λid x hx=>(hk.row id x hx).keep (λ_ h=>h) (λb hF=>hb b (hk.fb b hF)) hd rfl λb hm=>⟨hb b (hk.lt hx hm),λ_ h=>h⟩,hk.inj,λb hF=>Nat.lt_of_lt_of_le (hk.fb b hF) hg.size⟩,?_⟩
  exact⟨hg.os,hg.tape,hg.output,hg.size,λb h1 _=>hb b h1,λ_ h=>h,λ_ h _=> .inl h,λid y hy hr=> .inl ⟨y,hy,hr,rfl⟩,λid x hx _=>hd id x hx⟩
theorem rW.jS{bs:List Nat}(im:rW w.heap F bs h M h' M')(hn:w1.heap.size≤w.heap.size)(hbs: ∀ b ∈ bs,w1.heap.size≤b)(a:bn All w1 F1 h M w F h M)(hk:aQ w.heap F h M):
    bn All w1 F1 h M w F h' M' where
  os:=a.os
  tape:=a.tape
  output:=a.output
  size:=a.size
  keep:=a.keep
  fsub:=a.fsub
  fold:=a.fold
  orig id y hy hr:=by
    cases hg:h.get id with
    |none=>exact .inr λb hb=>hbs b ((im.new id y hy hg).2 b hb)
    | some x=>
      obtain⟨h1,h2⟩:=im.ext id x hg
      rw[hy]at h1;injection h1 with h1;subst h1
      exact .inl ⟨y,rfl,hr,h2⟩
  held id x hx hK:=by
    obtain⟨y,hy,d⟩:=a.held id x hx hK
    obtain⟨h1,h2⟩:=im.ext id y hy
    exact⟨y,h1,⟨d.sl,d.ext,λhe=>⟨h2.trans (d.same he).1,(d.same he).2⟩⟩⟩
theorem o8.jS{is:List Id}(hk:aQ w.heap F h M)(hf:o8 h h'):bn All w F h M w (fun c=>F c∨Of h M is c) h' M where
  os:=rfl
  tape:=rfl
  output:=rfl
  size:=Nat.le_refl _
  keep _ _ _:=rfl
  fsub _ hc:= .inl hc
  fold c hc _:=by
    rcases hc with hc|⟨id,x,_,hg,hm⟩
    · exact .inl hc
    · cases hr:x.rw with
      |true=>exact .inr ⟨id,x,hg,hr,hm⟩
      |false=>exact .inl (hk.isF hg hr hm)
  orig id y hy hr:=by
    obtain⟨x,hx,h1⟩:=hf.bwd id y hy
    rcases h1 with rfl|rfl
    · exact .inl ⟨y,hx,hr,rfl⟩
    · cases x <;> simp[ak.freeze,ak.rw]at hr
  held id x hx _:=hf.held id x hx
theorem Du(hk:aQ w.heap F h M){id:Id}{x y:ak}(hg:h.get id=some x)(hr:x.rw=true)(hyr:y.rw=true){o:Option Nat}
    (hos:w'.os=w.os) (htp:w'.tape=w.tape) (hout:w'.output=w.output) (hsz:w.heap.size<=w'.heap.size) (hb: ∀ b,b<w.heap.size->M id≠some b->w'.heap[b]? =w.heap[b]?)
    (ho:o=M id∨ ∃ b,o=some b/\w.heap.size<=b) (hd:Held w.heap w'.heap M (kJ M id o) id x y)
    (hrow:(∀ i z,h.get i=some z-> ∃ y',(h.set id y).get i=some y'/\Held w.heap w'.heap M (kJ M id o) i z y')->(∀ b,F b->w'.heap[b]? =w.heap[b]?)->tH w'.heap F (h.set id y) (kJ M id o) id y):
    aQ w'.heap F (h.set id y) (kJ M id o)/\bn All w F h M w' F (h.set id y) (kJ M id o):=by
  have hFb: ∀ b,F b->w'.heap[b]? =w.heap[b]? :=λb hF=>hb b (hk.fb b hF) λhm=>hk.BP hg hr hm hF
  have hh: ∀ i z,h.get i=some z→ ∃ y',(h.set id y).get i=some y'∧Held w.heap w'.heap M (kJ M id o) i z y':=fun i z hz=>by
    by_cases he:i=id
    · subst he
      rw[hg]at hz;injection hz with hz;subst hz
      exact⟨y,get_set_same _ _ _,hd⟩
    · exact⟨z,by rw[jU _ _ _ _ he];exact hz,Held.refl (vX he) λb hm=>xH (hb b (hk.lt hz hm) λhm'=>he (hk.inj _ _ _ _ _ hz hg hm hm'))⟩
  refine⟨⟨λi z hz=> ?_,λi j z z' b g1 g2 m1 m2=> ?_,λb hF=>Nat.lt_of_lt_of_le (hk.fb b hF) hsz⟩,?_⟩
  · by_cases he:i=id
    · subst he
      rw[get_set_same]at hz;injection hz with hz;subst hz
      exact hrow hh hFb
    · rw[jU _ _ _ _ he]at hz
      exact(hk.row i z hz).keep (λ_ h=>h) hFb hh (vX he) λb hm=>⟨hb b (hk.lt hz hm) λhm'=>he (hk.inj _ _ _ _ _ hz hg hm hm'),λ_ h=>h⟩
  · have old: ∀ i z b,i≠id→(h.set id y).get i=some z→kJ M id o i=some b→h.get i=some z∧M i=some b∧b<w.heap.size:=fun i z b he hz hm=>by
      rw[jU _ _ _ _ he]at hz
      rw[vX he]at hm
      exact⟨hz,hm,hk.lt hz hm⟩
    have new: ∀ b,kJ M id o id=some b→M id=some b∨w.heap.size≤b:=fun b hm=>by
      rw[o6]at hm
      rcases ho with h0|⟨c,h0,h1⟩
      · exact .inl (h0 ▸ hm)
      · rw[h0]at hm;injection hm with hm;subst hm;exact .inr h1
    by_cases hi:i=id <;> by_cases hj:j=id
    · rw[hi,hj]
    · subst hi
      obtain⟨q1,q2,q3⟩:=old j z' b hj g2 m2
      rcases new b m1 with h0|h0
      · exact hk.inj _ _ _ _ _ hg q1 h0 q2
      · omega
    · subst hj
      obtain⟨q1,q2,q3⟩:=old i z b hi g1 m1
      rcases new b m2 with h0|h0
      · exact hk.inj _ _ _ _ _ q1 hg q2 h0
      · omega
    · obtain⟨q1,q2,_⟩:=old i z b hi g1 m1
      obtain⟨q3,q4,_⟩:=old j z' b hj g2 m2
      exact hk.inj _ _ _ _ _ q1 q3 q2 q4
  · refine⟨hos,htp,hout,hsz,fun b hlt hn=>hb b hlt (hn id x hg hr),fun _ h=>h,fun _ h _=> .inl h,fun i z hz hzr=> ?_,fun i z hz _=>hh i z hz⟩
    by_cases he:i=id
    · subst he
      rw[o6]
      rcases ho with h0|⟨c,h0,h1⟩
      · exact .inl ⟨x,hg,hr,h0⟩
      · exact .inr λb hb=>by rw[h0]at hb;injection hb with hb;subst hb;exact h1
    · rw[jU _ _ _ _ he]at hz
      exact .inl ⟨z,hz,hzr,vX he⟩
end
end Go.Av
