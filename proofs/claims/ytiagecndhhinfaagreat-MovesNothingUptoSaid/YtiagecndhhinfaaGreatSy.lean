/- Memory under another hand; what a loop over a function holds. Conditions: none. -/
import Derived.Test.YtiagecndhhinfaaGreatSg6
import Derived.LoopN
import Derived.LoopNIn
import Derived.Scope
set_option linter.unusedVariables false
namespace Go.Av
section
variable {K:Id->Prop} {w w' w0 w1 w2:World} {F F' F0 F1 F2:Nat->Prop} {h h' h0:Heap} {M M' M0:Id->Option Nat} {keep:Nat->Prop}
theorem aQ.blocks(hk:aQ w1.heap F1 h M)(fg:uJ keep w1 F1 w2 F2)(kF: ∀ b,F1 b→keep b)(kO: ∀ id x b,h.get id=some x→x.rw=true→M id=some b→keep b):
    ∀ id x b,h.get id=some x->M id=some b->w2.heap[b]? =w1.heap[b]? :=λid x b hg hm=>by
  cases hr:x.rw with
  |true=>exact fg.same b (hk.lt hg hm) (kO id x b hg hr hm)
  |false=>exact fg.same b (hk.lt hg hm) (kF b (hk.isF hg hr hm))
theorem aac(hk:aQ w1.heap F1 h M)(fg:uJ keep w1 F1 w2 F2)(kF: ∀ b,F1 b→keep b)(kO: ∀ id x b,h.get id=some x→x.rw=true→M id=some b→keep b):
    aQ w2.heap F2 h M/\(∀ x u,VR w1.heap F1 h M x u->VR w2.heap F2 h M x u)/\ ∀ x u,VC w1.heap F1 x u->VC w2.heap F2 x u:=by
  have hb:=hk.blocks fg kF kO
  have hF: ∀ b,F1 b->w2.heap[b]? =w1.heap[b]? :=λb h=>fg.same b (hk.fb b h) (kF b h)
  have hd: ∀ id x,h.get id=some x-> ∃ y,h.get id=some y/\Held w1.heap w2.heap M M id x y:=λid x hx=>⟨x,hx,Held.refl rfl λb hm=>xH (hb id x b hx hm)⟩
  exact⟨⟨fun id x hx=>(hk.row id x hx).keep fg.fsub hF hd rfl fun b hm=>⟨hb id x b hx hm,fun hr hf=>fg.fold b hf (hk.lt hx hm) (kO id x b hx hr hm)⟩,hk.inj,fg.fb⟩,
    λx u hv=>hv.keep fg.fsub hF hd,λx u hv=>hv.keep fg.fsub hF⟩
theorem ZQ(ev:bn K w0 F0 h0 M0 w1 F1 h M)(hk:aQ w1.heap F1 h M)(fg:uJ keep w1 F1 w2 F2)(kF: ∀ b,F1 b→keep b)(kO: ∀ id x b,h.get id=some x→x.rw=true→M id=some b→keep b)
    (k0: ∀ b,b<w0.heap.size->keep b):bn K w0 F0 h0 M0 w2 F2 h M where
  os:=fg.os.trans ev.os
  tape:=fg.tape.trans ev.tape
  output:=fg.output.trans ev.output
  size:=Nat.le_trans ev.size fg.size
  keep b hb hn:=(fg.same b (Nat.lt_of_lt_of_le hb ev.size) (k0 b hb)).trans (ev.keep b hb hn)
  fsub b hb:=fg.fsub b (ev.fsub b hb)
  fold b hb hlt:=ev.fold b (fg.fold b hb (Nat.lt_of_lt_of_le hlt ev.size) (k0 b hlt)) hlt
  orig:=ev.orig
  held id x hx hK:=by
    obtain⟨y,hy,hd⟩:=ev.held id x hx hK
    exact⟨y,hy,hd.trans (Held.refl rfl λb hm=>xH (hk.blocks fg kF kO id y b hy hm))⟩
theorem bn.aab(hk':aQ w'.heap F' h' M')(ev:bn K w F h M w' F' h' M')(kO: ∀ id x b,h.get id=some x→x.rw=true→M id=some b→ ¬ keep b):uJ keep w F w' F' where
  os:=ev.os
  tape:=ev.tape
  output:=ev.output
  size:=ev.size
  same b hb hk:=ev.keep b hb λid x hg hr hm=>kO id x b hg hr hm hk
  fsub:=ev.fsub
  fold b hF hlt hk:=(ev.fold b hF hlt).elim id λ⟨id,x,hg,hr,hm⟩=>(kO id x b hg hr hm hk).elim
  fb:=hk'.fb
def BO:Obj→Bool
  | .cells .. =>false
  |_=>true
theorem aQ.no(hk:aQ w.heap F h M){l:Nat}{o:Obj}(hl:w.heap[l]? =some o)(ho:BO o=true): ∀ id x,h.get id=some x→M id≠some l:=fun id x hg hm=>by
  obtain⟨cur,e,h1,_⟩:=hk.along hg hm
  rw[hl]at h1;injection h1 with h1;subst h1;cases ho
theorem bn.obj(hk:aQ w.heap F h M)(ev:bn K w F h M w' F' h' M'){l:Nat}{o:Obj}(hl:w.heap[l]? =some o)(ho:BO o=true):w'.heap[l]? =some o:=
  (ev.keep l (Array.getElem?_eq_some_iff.1 hl).1 λid x hg _=>hk.no hl ho id x hg).trans hl
theorem bn.Mc(hk:aQ w.heap F h M)(ev:bn K w F h M w' F' h' M'){l:Nat}{o:Obj}(hl:w.heap[l]? =some o)(ho:BO o=true)(hF: ¬ F l): ¬ F' l:=fun hf=>
  (ev.fold l hf (Array.getElem?_eq_some_iff.1 hl).1).elim hF λ⟨id,x,hg,_,hm⟩=>hk.no hl ho id x hg hm
theorem aad{l:Nat}{o:Obj}(hfb: ∀ b,F b→b<w.heap.size):uJ (fun b=>b≠l) w F (w.putObj l o) F where
  os:=rfl
  tape:=rfl
  output:=rfl
  size:=by simp
  same b _ hne:=World.putObj_heap_other hne
  fsub _ h:=h
  fold _ h _ _:=h
  fb b h:=by rw[World.putObj_size];exact hfb b h
theorem MK(hk:aQ w.heap F h M){l:Nat}{o:Obj}(o':Obj)(hl:w.heap[l]? =some o)(ho:BO o=true)(hF: ¬ F l):
    aQ (w.putObj l o').heap F h M/\(∀ x u,VR w.heap F h M x u->VR (w.putObj l o').heap F h M x u)/\ ∀ x u,VC w.heap F x u->VC (w.putObj l o').heap F x u:=
  aac hk (aad hk.fb) (λb hb hbl=>hF (hbl ▸ hb)) λid x b hg _ hm hbl=>hk.no hl ho id x hg (hbl ▸ hm)
theorem ZR(hk:aQ w1.heap F1 h M)(ev:bn K w0 F0 h0 M0 w1 F1 h M){l:Nat}{o:Obj}(o':Obj)(hl:w1.heap[l]? =some o)(ho:BO o=true)(hF: ¬ F1 l)(hle:w0.heap.size≤l):
    bn K w0 F0 h0 M0 (w1.putObj l o') F1 h M:=
  ZQ ev hk (aad hk.fb) (λb hb hbl=>hF (hbl ▸ hb)) (λid x b hg _ hm hbl=>hk.no hl ho id x hg (hbl ▸ hm)) λb hb hbl=>by omega
theorem amH{h1 h3:Heap}{M3 M4:Id→Option Nat}{F3 F4:Nat→Prop}{w3 w4:World}{l:Nat}{o0 o1:Obj}(hk:aQ w3.heap F3 h1 M3)(hl:w3.heap[l]? =some o0)(ho:BO o0=true)
    (ev:bn K (w3.putObj l o1) F3 h1 M3 w4 F4 h3 M4):bn K w3 F3 h1 M3 (w4.putObj l o0) F4 h3 M4:=by
  have hlt:l<w4.heap.size:=by
    have:=ev.size;rw[World.putObj_size]at this
    exact Nat.lt_of_lt_of_le (Array.getElem?_eq_some_iff.1 hl).1 this
  refine⟨ev.os,ev.tape,ev.output,by have:=ev.size;rw[World.putObj_size]at this ⊢;exact this,λb hb hn=> ?_,ev.fsub,λb hf hb=>ev.fold b hf (by rw[World.putObj_size];exact hb),λid y hy hr=> ?_,λid x hx hK=> ?_⟩
  · by_cases hbl:b=l
    · subst hbl;rw[World.putObj_heap_same hlt,hl]
    · rw[World.putObj_heap_other hbl,ev.keep b (by rw[World.putObj_size];exact hb) hn,World.putObj_heap_other hbl]
  · rcases ev.orig id y hy hr with h1|h1
    · exact .inl h1
    · exact .inr λb hb=>by have:=h1 b hb;rw[World.putObj_size]at this;exact this
  · obtain⟨y,hy,hd⟩:=ev.held id x hx hK
    refine⟨y,hy,hd.sl,hd.ext,λhe=> ?_⟩
    obtain⟨e1,e2⟩:=hd.same he
    refine⟨e1,λb hb=> ?_⟩
    have hne:b≠l:=λh=>hk.no hl ho id x hx (h ▸ hb)
    exact(xH (World.putObj_heap_other hne)).trans ((e2 b hb).trans (xH (World.putObj_heap_other hne)))
def mark(D:Nat):Deferred:={target:= .collected D,args:= #[]}
def oH(B:Nat)(w:World)(F:Nat→Prop):List Deferred→Prop
  |[]=>True
  |d::ds=>(∃ D,d=mark D/\w.heap[D]? =some (.deferred (some []))/\ ¬ F D/\mark D ∉ ds/\B<=D)/\oH B w F ds
def oI(B:Nat)(w:World)(F:Nat->Prop)(ds:List Deferred):Prop:=B<=w.heap.size/\oH B w F ds
variable {B:Nat}
theorem oH.jS(hk:aQ w.heap F h M)(ev:bn K w F h M w' F' h' M'): ∀ {ds:List Deferred},oH B w F ds→oH B w' F' ds
  |[],_=>trivial
  |d::ds,⟨⟨D,h1,h2,h3,h4⟩,h5⟩=>⟨⟨D,h1,ev.obj hk h2 rfl,ev.Mc hk h2 rfl h3,h4⟩,oH.jS hk ev h5⟩
theorem oI.jS(hk:aQ w.heap F h M)(ev:bn K w F h M w' F' h' M'){ds:List Deferred}(d:oI B w F ds):oI B w' F' ds:=⟨Nat.le_trans d.1 ev.size,d.2.jS hk ev⟩
theorem auj{a b:Nat}(h:mark a=mark b):a=b:=by simpa[mark]using h
theorem oH.put{l:Nat}{o:Obj}: ∀ {ds:List Deferred},mark l ∉ ds→oH B w F ds→oH B (w.putObj l o) F ds
  |[],_,_=>trivial
  | d ::ds,hm,⟨⟨D,h1,h2,h3,h4⟩,h5⟩=>⟨⟨D,h1,by
      rw[World.putObj_heap_other (λh=>hm (by rw[← h,h1];exact .head _))];exact h2,h3,h4⟩,oH.put (λh=>hm (.tail _ h)) h5⟩
theorem oI.put{l:Nat}{o:Obj}{ds:List Deferred}(hm:mark l ∉ ds)(d:oI B w F ds):oI B (w.putObj l o) F ds:=⟨by rw[World.putObj_size];exact d.1,d.2.put hm⟩
theorem oH.lt: ∀ {ds:List Deferred} {D:Nat},oH B w F ds→mark D ∈ ds→w.heap[D]? =some (.deferred (some []))
  | d::ds,D,⟨⟨D',h1,h2,h3,h4⟩,h5⟩,hm=>by
    rcases List.mem_cons.1 hm with h|h
    · rw[h1]at h;rw[auj h];exact h2
    · exact oH.lt h5 h
theorem oI.lt{ds:List Deferred}{D:Nat}(d:oI B w F ds)(hm:mark D ∈ ds):w.heap[D]? =some (.deferred (some [])):=d.2.lt hm
theorem abG{α β:Type}{f:α→Option β}: ∀ {l:List α} {ys:List β},aZ f l=some ys→l.length=ys.length∧ ∀ (i:Nat) y,ys[i]? =some y→ ∃ x,l[i]? =some x∧f x=some y
  |[],ys,e=>by simp only[aZ,aH]at e;subst e;exact⟨rfl,λi y hy=>by simp at hy⟩
  | x::l,ys,e=>by
    simp only[aZ,aA,aH]at e
    obtain⟨y,hy,zs,hzs,rfl⟩:=e
    obtain⟨h1,h2⟩:=abG hzs
    refine⟨by simp[h1],λi z hz=> ?_⟩
    cases i with
    |zero=>simp at hz;subst hz;exact⟨x,rfl,hy⟩
    |succ i=>simp at hz;exact h2 i z hz
theorem ayC(hk:aQ w.heap F h M){cap xs:List AV}{us:List Value}(hl:cap.length=us.length)(hx: ∀ (i:Nat) x u,cap[i]? =some x→us[i]? =some u→VR w.heap F h M x u)(he:aZ (aG h.get 4) cap=some xs):
    ∃ F1,aQ w.heap F1 (nD h cap) M/\bn All w F h M w F1 (nD h cap) M/\xs.length=us.length/\ ∀ (i:Nat) x u,xs[i]? =some x->us[i]? =some u->VC w.heap F1 x u:=by
  obtain⟨k1,fz⟩:=ve ((cap.map (aW h.get 4)).flatten) hk
  obtain⟨l1,x1⟩:=abG he
  refine⟨_,k1,fz.jS hk,by omega,λi x u hxi hui=> ?_⟩
  obtain⟨y,hy1,hy2⟩:=x1 i x hxi
  exact(yU hk 4 y u x (hx i y u hy1 hui) hy2).grow λb hb=>hb.imp_right λ⟨j,q,hj,hm⟩=>⟨j,q,zq (List.mem_of_getElem? hy1) hj,hm⟩
theorem adc{H:Array Obj}{N:jq}{ds:List Deferred}: ∀ {ps:List Tmp} {zs:List AV} {vs:List Value} {e:Env} {tm:Array Value},fK H F h M e.get ⟨tm,ds⟩→rX N ⟨tm,ds⟩→(∀ p ∈ ps,Ac N p)→zs.length=ps.length→zs.length=vs.length→
    (∀ (j:Nat) x u,zs[j]? =some x->vs[j]? =some u->VR H F h M x u)->
    fK H F h M (Nj e ps zs).get ⟨(ps.zip vs).foldl (λt p=>t.setIfInBounds p.1 p.2) tm,ds⟩/\rX N ⟨(ps.zip vs).foldl (λt p=>t.setIfInBounds p.1 p.2) tm,ds⟩
  |[],zs,vs,e,tm,he,hs,_,hl,_,_=>by cases zs <;> exact⟨he,hs⟩
  |p::ps,[],vs,e,tm,he,hs,_,hl,_,_=>by simp at hl
  |p::ps,z::zs,[],e,tm,he,hs,_,_,hl2,_=>by simp at hl2
  | p::ps,z::zs,v::vs,e,tm,he,hs,hp,hl,hl2,hx=>by
    have h1:=hp p (.head _)
    have he':fK H F h M (dX e (some p) z).get (Act.put ⟨tm,ds⟩ (some p) v):=ZP he hs.1 (λd hd=>by injection hd with hd;subst hd;exact h1.1) (hx 0 z v rfl rfl)
    have hs':rX N (Act.put ⟨tm,ds⟩ (some p) v):=hs.put λd hd=>by injection hd with hd;subst hd;exact h1
    exact adc (tm:=tm.setIfInBounds p v) he' hs' (λq hq=>hp q (.tail _ hq)) (by simpa using hl) (by simpa using hl2) λj x u a b=>hx (j+1) x u (by simpa using a) (by simpa using b)
end
end Go.Av
